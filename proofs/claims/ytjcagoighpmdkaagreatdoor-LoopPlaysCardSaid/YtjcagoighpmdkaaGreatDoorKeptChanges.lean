/- What package flittingbook does with the lists of one kind: Changes. -/
import Derived.Test.YtjcagoighpmdkaaGreatDoorBook0
namespace Go.Proofs.YtjcagoighpmdkaaGreatDoor
open Go Go.RowKit
set_option linter.unusedVariables false
set_option linter.unusedSimpArgs false
attribute [local irreducible] actF WL CW OW PL SW VR LR yes Returns Fn
theorem book_copyChanges (xs : List (Int × Int)) (v : Value) (Δ : Chunk) (hv : View 2 encC v xs Δ) (hn : xs.length ≤ 1000000) :
    FnG Tryz.prog 24 [v] [Δ] (fun r Δs => ∃ D, Δs = [D] ∧ Own 55 2 encC r xs D) := by
  refine FnG.mk fun E F w hS hF => ?_
  have hF0 : Δ ∈ F := hF _ (by simp)
  refine returns_enter Tryz.func24 rfl Tryz.ntmps24 rfl ?_
  refine cw_seq fun K1 hK1 => ?_
  refine cw_region ?_
  refine wl_op rfl rfl (ow_vr (vr_assign (v := .slice none 0 0) rfl) ?_)
  refine wl_nil ?_
  refine hK1 _ _ ?_
  refine cw_seq fun K2 hK2 => ?_
  have hS := Sat.nilc.2 hS
  refine cw_region ?_
  refine wl_op rfl rfl (ow_vr (vr_move (v := v) rfl) ?_)
  refine wl_op rfl rfl (ow_append (v := .slice none 0 0) (u := v) (enc := encC) hS Tryz.underlying28 Tryz.underlying28 if_55 rfl (by decide) rfl rfl Own.nil hv HasC.here (by exact List.Mem.tail _ hF0) (by exact fun _ => rfl) (by exact fun _ => rfl) (by simp [maxLen]; omega) (by simp; omega) ?_)
  clear hS; intro v4 D4 w ho4 hS
  refine wl_op rfl rfl (ow_vr (vr_assign (v := v4) rfl) ?_)
  refine wl_nil ?_
  refine hK2 _ _ ?_
  refine cw_ret ?_
  refine ret_one (fn := Tryz.f24) (n := 5) (t := 2) (.inl rfl) rfl rfl ?_
  exact ⟨[D4], ⟨D4, rfl, by rw [List.nil_append] at ho4; exact ho4⟩, hS⟩
theorem book_markChanges (i a n : Nat) (hi : i ≤ 1000) (ha : a ≤ 2000000) (hn : n ≤ 2000000) :
    FnG Tryz.prog 78 [.int .i64 (i : Int), .int .i64 (a : Int), .int .i64 (n : Int)] [] (fun r Δs => ∃ D, Δs = [D] ∧ Own 55 2 encC r (markL mkC i a n) D) := by
  refine FnG.mk fun E F w hS hF => ?_
  refine returns_enter Tryz.func78 rfl Tryz.ntmps78 rfl ?_
  refine cw_seq fun K1 hK1 => ?_
  refine cw_region ?_
  refine wl_op rfl rfl (ow_vr (vr_assign (v := .slice none 0 0) rfl) ?_)
  refine wl_nil ?_
  refine hK1 _ _ ?_
  refine cw_seq fun K2 hK2 => ?_
  refine cw_region ?_
  refine wl_op rfl rfl (ow_vr (vr_assign (v := .slice none 0 0) rfl) ?_)
  refine wl_nil ?_
  refine hK2 _ _ ?_
  refine cw_seq fun K3 hK3 => ?_
  refine cw_seq fun K4 hK4 => ?_
  have hS := Sat.nilc.2 hS
  refine cw_region ?_
  refine wl_op rfl rfl (ow_vr (vr_move (v := .int .i64 _) rfl) ?_)
  refine wl_op rfl rfl (ow_vr (vr_assign (v := .int .i64 _) rfl) ?_)
  refine wl_nil ?_
  refine hK4 _ _ ?_
  refine cw_block ?_
  refine cw_loop (fun m f w => ∃ (k : Nat) (vt : Value) (Dt : Chunk) (g : Nat → Value), f = (upd (upd (upd (upd (upd g 0 (.int .i64 (i : Int))) 1 (.int .i64 (a : Int))) 2 (.int .i64 (n : Int))) 7 (vt)) 8 (.int .i64 ((a + k : Nat) : Int))) ∧ (k ≤ n ∧ Own 55 2 encC vt (markL mkC i a k) Dt) ∧ m = n - k ∧ Sat E (Dt :: F) w) ⟨0, .slice none 0 0, [], _, (reb (reb (reb (reb (reb rfl rfl) rfl) rfl) rfl) rfl), ?_, rfl, hS⟩ ?_
  · exact ⟨by omega, by simpa [markL] using Own.nil⟩
  clear hS; rintro m f w ⟨k, vt, Dt, g, rfl, hI0, rfl, hS⟩
  obtain ⟨hk, hot⟩ := hI0
  have hml := markL_len mkC i a k
  refine cw_seq fun K5 hK5 => ?_
  refine cw_seq fun K6 hK6 => ?_
  refine cw_region ?_
  refine wl_op rfl rfl (ow_vr (vr_move (v := .int .i64 ((a + k : Nat) : Int)) rfl) ?_)
  refine wl_op rfl rfl (ow_vr (vr_move (v := .int .i64 (a : Int)) rfl) ?_)
  refine wl_op rfl rfl (ow_vr (vr_move (v := .int .i64 (n : Int)) rfl) ?_)
  first | (refine wl_op rfl rfl (ow_vr (vr_addi rfl rfl (by unfold inI64; omega)) ?_)) | (refine wl_op rfl rfl (ow_vr (vr_add rfl rfl) ?_))
  refine wl_op rfl rfl (ow_vr (vr_lss rfl rfl) ?_)
  refine wl_nil ?_
  refine hK6 _ _ ?_
  refine cw_cond rfl rfl (fun hc => ?_) (fun hc => ?_)
  · (try simp only [decide_eq_true_eq, decide_eq_false_iff_not, Bool.not_eq_true, Bool.not_eq_false, Bool.not_eq_true', Bool.not_eq_false', Bool.and_eq_true, Bool.or_eq_true, Bool.and_eq_false_iff, Bool.or_eq_false_iff, Int.not_lt, Int.not_le, gt_iff_lt, ge_iff_le, ne_eq, Decidable.not_not, beq_iff_eq] at hc)
    have hc0 := hc; clear hc
    refine cw_skip ?_
    refine hK5 _ _ ?_
    refine cw_seq fun K7 hK7 => ?_
    refine cw_block ?_
    refine cw_region ?_
    refine wl_op rfl rfl (ow_vr (vr_move (v := vt) rfl) ?_)
    refine wl_op rfl rfl (ow_vr (vr_move (v := .int .i64 (i : Int)) rfl) ?_)
    first | (refine wl_op rfl rfl (ow_vr (vr_muli rfl rfl (by unfold inI64; omega)) ?_)) | (refine wl_op rfl rfl (ow_vr (vr_mul rfl rfl) ?_))
    refine wl_op rfl rfl (ow_vr (vr_move (v := .int .i64 ((a + k : Nat) : Int)) rfl) ?_)
    first | (refine wl_op rfl rfl (ow_vr (vr_subi rfl rfl (by unfold inI64; omega)) ?_)) | (refine wl_op rfl rfl (ow_vr (vr_sub rfl rfl) ?_))
    first | (refine wl_op rfl rfl (ow_vr (vr_subi rfl rfl (by unfold inI64; omega)) ?_)) | (refine wl_op rfl rfl (ow_vr (vr_sub rfl rfl) ?_))
    refine wl_op rfl rfl (ow_vr (vr_build (vs := [(0, .int .i64 _)]) (cs := [.int .i64 _, .int .i64 _]) zr_55 pl_55 rfl rfl) ?_)
    refine wl_op rfl rfl (ow_buildSliceD (m := 2) (len := 1) (vs := [.agg #[.int .i64 _, .int .i64 _]]) (cs := [.int .i64 _, .int .i64 _]) hS Tryz.underlying28 if_55 rfl (by decide) (by decide) rfl rfl (by simp [Value.cells]) rfl ?_)
    clear hS; intro b24 w hS
    refine wl_op rfl rfl (ow_append (v := vt) hS Tryz.underlying28 Tryz.underlying28 if_55 rfl (by decide) rfl rfl (by assumption) (View.single (x := mkC i (a + k)) rfl rfl (by decide)) (by first | exact HasC.here | exact HasC.there (HasC.here) | exact HasC.there (HasC.there (HasC.here)) | exact HasC.there (HasC.there (HasC.there (HasC.here))) | exact HasC.there (HasC.there (HasC.there (HasC.there (HasC.here)))) | exact HasC.there (HasC.there (HasC.there (HasC.there (HasC.there (HasC.here))))) | exact HasC.there (HasC.there (HasC.there (HasC.there (HasC.there (HasC.there (HasC.here)))))) | exact HasC.there (HasC.there (HasC.there (HasC.there (HasC.there (HasC.there (HasC.there (HasC.here))))))) | exact HasC.there (HasC.there (HasC.there (HasC.there (HasC.there (HasC.there (HasC.there (HasC.there (HasC.here))))))))) (by repeat (first | exact List.mem_cons_self | assumption | refine List.mem_cons_of_mem _ ?_)) (by exact fun _ => rfl) (by exact fun _ => rfl) (by first | omega | (simp [maxLen] <;> omega) | (simp <;> omega)) (by first | omega | (simp [maxLen] <;> omega) | (simp <;> omega)) ?_)
    clear hS; intro v25 D25 w ho25 hS
    refine wl_op rfl rfl (ow_vr (vr_assign (v := v25) rfl) ?_)
    refine wl_nil ?_
    refine hK7 _ _ ?_
    replace hS := hS.tail1
    refine cw_region ?_
    refine wl_op rfl rfl (ow_vr (vr_move (v := .int .i64 ((a + k : Nat) : Int)) rfl) ?_)
    first | (refine wl_op rfl rfl (ow_vr (vr_addi rfl rfl (by unfold inI64; omega)) ?_)) | (refine wl_op rfl rfl (ow_vr (vr_add rfl rfl) ?_))
    refine wl_op rfl rfl (ow_vr (vr_assign (v := .int .i64 _) rfl) ?_)
    refine wl_nil ?_
    refine thenF_normal ⟨_, ?_, k + 1, v25, D25, _, (reb (reb (reb (reb (reb rfl rfl) rfl) rfl) rfl) rfl), ?_, rfl, hS⟩
    · omega
    · exact ⟨by omega, by rw [← markL_snoc]; exact ho25⟩
  · (try simp only [decide_eq_true_eq, decide_eq_false_iff_not, Bool.not_eq_true, Bool.not_eq_false, Bool.not_eq_true', Bool.not_eq_false', Bool.and_eq_true, Bool.or_eq_true, Bool.and_eq_false_iff, Bool.or_eq_false_iff, Int.not_lt, Int.not_le, gt_iff_lt, ge_iff_le, ne_eq, Decidable.not_not, beq_iff_eq] at hc)
    have hc0 := hc; clear hc
    refine cw_exit ?_
    refine hK3 _ _ ?_
    refine cw_seq fun K8 hK8 => ?_
    obtain rfl : k = n := by omega
    refine cw_region ?_
    refine wl_op rfl rfl (ow_vr (vr_move (v := vt) rfl) ?_)
    refine wl_op rfl rfl (ow_vr (vr_assign (v := vt) rfl) ?_)
    refine wl_nil ?_
    refine hK8 _ _ ?_
    refine cw_ret ?_
    refine ret_one (fn := Tryz.f78) (n := 27) (t := 6) (.inl rfl) rfl rfl ?_
    exact ⟨[Dt], ⟨Dt, rfl, hot⟩, hS⟩
section
variable {p : Nat} {c0 c1 c2 c3 c6 c7 c8 c9 c10 c11 : Value} {vb vw : Value} {xss : List (List (Int × Int))} {Di D : Chunk}
theorem book_addChanges (hk : Kept 55 28 2 encC vb vw xss Di D) (xs : List (Int × Int)) (v : Value) (Dl : Chunk) (ho : Own 55 2 encC v xs Dl) (hn : xs.length ≤ 900000) :
    Fn Tryz.prog 17 [.pointer (some ⟨p, 0, none⟩), v] [[(p, .cells ([c0, c1, c2, c3, vb, vw, c6, c7, c8, c9, c10, c11] : List Value).toArray 37 (0, 0))], D, Dl] (fun r Δs => ∃ vb' vw' Di' D', Δs = [[(p, .cells ([c0, c1, c2, c3, vb', vw', c6, c7, c8, c9, c10, c11] : List Value).toArray 37 (0, 0))], D'] ∧ Kept 55 28 2 encC vb' vw' (addB xss xs) Di' D' ∧ View 2 encC v xs Di' ∧ (∀ u ∈ Di, u ∈ Di') ∧ ∀ u ∈ Di', u ∈ D') := by
  refine Fn.mk fun E F w hS => ?_
  obtain ⟨hl, hls, vs, ws, Db, Dw, Dx, Dj, J, rfl, rfl, hb, hw, hx, hj⟩ := hk
  obtain ⟨s, rfl⟩ := ho.sl
  have hlb := hx.views (by exact fun _ => rfl) |>.1
  have hlw := hj.views (by exact fun _ => rfl) |>.1
  replace hS : Sat E ([(p, .cells ([c0, c1, c2, c3, vb, vw, c6, c7, c8, c9, c10, c11] : List Value).toArray 37 (0, 0))] :: Db :: Dw :: Dl :: (Dx ++ J) :: Dj :: F) w := hS.perm (by classical exact List.perm_iff_count.2 fun x => by simp only [List.cons_append, List.nil_append, List.flatten_cons, List.flatten_nil, List.count_append, List.append_nil, List.count_cons, List.count_nil]; omega)
  have hvl := ho.view (by exact fun _ => rfl)
  refine returns_enter Tryz.func17 rfl Tryz.ntmps17 rfl ?_
  refine cw_seq fun K1 hK1 => ?_
  refine cw_region ?_
  refine wl_op rfl rfl (ow_vr (vr_move (v := .pointer _) rfl) ?_)
  refine wl_op rfl rfl (ow_vr (vr_nilCheck rfl) ?_)
  first | (refine wl_op rfl rfl (ow_vr (vr_fieldAddr fo_37_4 rfl) ?_)) | (refine wl_op rfl rfl (ow_vr (vr_fieldAddrV fo_37_4 rfl (by first | assumption | (refine Own.view ?_ (by assumption); exact fun _ => rfl) | exact OwnB.view (by assumption)) (by first | omega | (simp <;> omega))) ?_))
  refine wl_op rfl rfl (ow_lr (S := Sat _ _) (lr_load1 Tryz.underlying32 rfl rfl (by first | exact Has.here | exact Has.there (Has.here) | exact Has.there (Has.there (Has.here)) | exact Has.there (Has.there (Has.there (Has.here))) | exact Has.there (Has.there (Has.there (Has.there (Has.here)))) | exact Has.there (Has.there (Has.there (Has.there (Has.there (Has.here))))) | exact Has.there (Has.there (Has.there (Has.there (Has.there (Has.there (Has.here)))))) | exact Has.there (Has.there (Has.there (Has.there (Has.there (Has.there (Has.there (Has.here)))))))) rfl) hS ?_)
  refine wl_op rfl rfl (ow_vr (vr_len_v (v := vb) Tryz.underlying32 rfl (Own.view (by exact fun _ => rfl) hb)) ?_)
  refine wl_op rfl rfl (ow_vr (vr_lss rfl rfl) ?_)
  refine wl_nil ?_
  refine hK1 _ _ ?_
  refine cw_cond rfl rfl (fun hc => ?_) (fun hc => ?_)
  · (try simp only [decide_eq_true_eq, decide_eq_false_iff_not, Bool.not_eq_true, Bool.not_eq_false, Bool.not_eq_true', Bool.not_eq_false', Bool.and_eq_true, Bool.or_eq_true, Bool.and_eq_false_iff, Bool.or_eq_false_iff, Int.not_lt, Int.not_le, gt_iff_lt, ge_iff_le, ne_eq, Decidable.not_not, beq_iff_eq] at hc)
    have hc0 := hc; clear hc
    refine cw_seq fun K2 hK2 => ?_
    refine cw_region ?_
    refine wl_op rfl rfl (ow_vr (vr_move (v := .pointer _) rfl) ?_)
    refine wl_op rfl rfl (ow_vr (vr_move (v := .pointer _) rfl) ?_)
    refine wl_op rfl rfl (ow_vr (vr_nilCheck rfl) ?_)
    first | (refine wl_op rfl rfl (ow_vr (vr_fieldAddr fo_37_4 rfl) ?_)) | (refine wl_op rfl rfl (ow_vr (vr_fieldAddrV fo_37_4 rfl (by first | assumption | (refine Own.view ?_ (by assumption); exact fun _ => rfl) | exact OwnB.view (by assumption)) (by first | omega | (simp <;> omega))) ?_))
    refine wl_op rfl rfl (ow_lr (S := Sat _ _) (lr_load1 Tryz.underlying32 rfl rfl (by first | exact Has.here | exact Has.there (Has.here) | exact Has.there (Has.there (Has.here)) | exact Has.there (Has.there (Has.there (Has.here))) | exact Has.there (Has.there (Has.there (Has.there (Has.here)))) | exact Has.there (Has.there (Has.there (Has.there (Has.there (Has.here))))) | exact Has.there (Has.there (Has.there (Has.there (Has.there (Has.there (Has.here)))))) | exact Has.there (Has.there (Has.there (Has.there (Has.there (Has.there (Has.there (Has.here)))))))) rfl) hS ?_)
    refine wl_op rfl rfl (ow_vr (vr_move (v := slv s) rfl) ?_)
    refine wl_op rfl rfl (ow_buildSliceD (m := 1) (len := 1) (vs := [.slice _ _ _]) (cs := [.slice _ _ _]) hS Tryz.underlying32 if_28 rfl (by decide) (by decide) rfl rfl (by simp [Value.cells]) rfl ?_)
    clear hS; intro b16 w hS
    refine wl_op rfl rfl (ow_append (v := vb) hS Tryz.underlying32 Tryz.underlying32 if_28 rfl (by decide) rfl rfl (by assumption) (View.single (x := s) rfl rfl (by decide)) (by first | exact HasC.here | exact HasC.there (HasC.here) | exact HasC.there (HasC.there (HasC.here)) | exact HasC.there (HasC.there (HasC.there (HasC.here))) | exact HasC.there (HasC.there (HasC.there (HasC.there (HasC.here)))) | exact HasC.there (HasC.there (HasC.there (HasC.there (HasC.there (HasC.here))))) | exact HasC.there (HasC.there (HasC.there (HasC.there (HasC.there (HasC.there (HasC.here)))))) | exact HasC.there (HasC.there (HasC.there (HasC.there (HasC.there (HasC.there (HasC.there (HasC.here))))))) | exact HasC.there (HasC.there (HasC.there (HasC.there (HasC.there (HasC.there (HasC.there (HasC.there (HasC.here))))))))) (by repeat (first | exact List.mem_cons_self | assumption | refine List.mem_cons_of_mem _ ?_)) (by exact fun _ => rfl) (by exact fun _ => rfl) (by first | omega | (simp [maxLen] <;> omega) | (simp <;> omega)) (by first | omega | (simp [maxLen] <;> omega) | (simp <;> omega)) ?_)
    clear hS; intro v17 D17 w ho17 hS
    refine wl_op rfl rfl (ow_vr (vr_nilCheck rfl) ?_)
    first | (refine wl_op rfl rfl (ow_vr (vr_fieldAddr fo_37_4 rfl) ?_)) | (refine wl_op rfl rfl (ow_vr (vr_fieldAddrV fo_37_4 rfl (by first | assumption | (refine Own.view ?_ (by assumption); exact fun _ => rfl) | exact OwnB.view (by assumption)) (by first | omega | (simp <;> omega))) ?_))
    refine wl_op rfl rfl (ow_store1 (v := v17) hS sz_32 rfl rfl (by first | rfl | exact Own.isOne (by assumption)) (by first | exact Has.here | exact Has.there (Has.here) | exact Has.there (Has.there (Has.here)) | exact Has.there (Has.there (Has.there (Has.here))) | exact Has.there (Has.there (Has.there (Has.there (Has.here)))) | exact Has.there (Has.there (Has.there (Has.there (Has.there (Has.here))))) | exact Has.there (Has.there (Has.there (Has.there (Has.there (Has.there (Has.here)))))) | exact Has.there (Has.there (Has.there (Has.there (Has.there (Has.there (Has.there (Has.here)))))))) (by simp) ?_)
    clear hS; intro w hS; try simp only [List.set_cons_zero, List.set_cons_succ] at hS
    refine wl_nil ?_
    replace hS := hS.tail1
    refine hK2 _ _ ?_
    have hlt : addB xss xs = xss ++ [xs] := by rw [addB, if_pos (by omega)]
    refine cw_draw_sat hS [(0, 0), (1, 0), (2, 0), (3, 0), (4, 1), (5, 0), (6, 2), (7, 2), (8, 3), (9, 0), (10, 0), (11, 3)] mixed (planFast_ok (by kernel_rfl)) (by rintro _ _ _ ⟨⟩) ?_
    clear hS; intro w hS
    refine pl_take rfl (yes_none rfl) (vr_move (v := .pointer _) rfl) ?_
    refine pl_take rfl (yes_none rfl) (vr_move (v := .pointer _) rfl) ?_
    refine pl_take rfl (yes_none rfl) (vr_nilCheck rfl) ?_
    first | (refine pl_take rfl (yes_none rfl) (vr_fieldAddr fo_37_5 rfl) ?_) | (refine pl_take rfl (yes_none rfl) (vr_fieldAddrV fo_37_5 rfl (by first | assumption | (refine Own.view ?_ (by assumption); exact fun _ => rfl) | exact OwnB.view (by assumption)) (by first | omega | (simp <;> omega))) ?_)
    refine pl_load rfl (yes_none rfl) (lr_load1 Tryz.underlying32 rfl rfl (by first | exact Has.here | exact Has.there (Has.here) | exact Has.there (Has.there (Has.here)) | exact Has.there (Has.there (Has.there (Has.here))) | exact Has.there (Has.there (Has.there (Has.there (Has.here)))) | exact Has.there (Has.there (Has.there (Has.there (Has.there (Has.here))))) | exact Has.there (Has.there (Has.there (Has.there (Has.there (Has.there (Has.here)))))) | exact Has.there (Has.there (Has.there (Has.there (Has.there (Has.there (Has.there (Has.here)))))))) rfl) ?_
    refine pl_take rfl (yes_none rfl) (vr_move (v := slv s) rfl) ?_
    refine pl_act hS rfl (yes_none rfl) ?_
    clear hS; intro w hS
    refine (ow_fng (vs := [slv s]) en_24 rfl hS (book_copyChanges xs (slv s) Dl hvl (by omega)) (by repeat (first | exact needs0 | (refine needsC ?_ ?_; · (repeat (first | exact List.mem_cons_self | assumption | refine List.mem_cons_of_mem _ ?_))))) ?_)
    clear hS; rintro v26 _ w ⟨D26, rfl, ho26⟩ hS; (try simp only [List.cons_append, List.nil_append] at hS)
    obtain ⟨s2, rfl⟩ := ho26.sl
    refine ⟨by first | exact hS | exact hS.tail1 | exact hS.tail1.tail1 | exact hS.tail1.tail1.tail1, ?_⟩
    refine pl_act hS rfl (yes_none rfl) ?_
    clear hS; intro w hS
    refine (ow_buildSliceD (m := 1) (len := 1) (vs := [.slice _ _ _]) (cs := [.slice _ _ _]) hS Tryz.underlying32 if_28 rfl (by decide) (by decide) rfl rfl (by simp [Value.cells]) rfl ?_)
    clear hS; intro b27 w hS
    refine ⟨by first | exact hS | exact hS.tail1 | exact hS.tail1.tail1 | exact hS.tail1.tail1.tail1, ?_⟩
    refine pl_end hS rfl (yes_none rfl) ?_
    clear hS; intro w hS
    refine (ow_append (v := vw) hS Tryz.underlying32 Tryz.underlying32 if_28 rfl (by decide) rfl rfl (by assumption) (View.single (x := s2) rfl rfl (by decide)) (by first | exact HasC.here | exact HasC.there (HasC.here) | exact HasC.there (HasC.there (HasC.here)) | exact HasC.there (HasC.there (HasC.there (HasC.here))) | exact HasC.there (HasC.there (HasC.there (HasC.there (HasC.here)))) | exact HasC.there (HasC.there (HasC.there (HasC.there (HasC.there (HasC.here))))) | exact HasC.there (HasC.there (HasC.there (HasC.there (HasC.there (HasC.there (HasC.here)))))) | exact HasC.there (HasC.there (HasC.there (HasC.there (HasC.there (HasC.there (HasC.there (HasC.here))))))) | exact HasC.there (HasC.there (HasC.there (HasC.there (HasC.there (HasC.there (HasC.there (HasC.there (HasC.here))))))))) (by repeat (first | exact List.mem_cons_self | assumption | refine List.mem_cons_of_mem _ ?_)) (by exact fun _ => rfl) (by exact fun _ => rfl) (by first | omega | (simp [maxLen] <;> omega) | (simp <;> omega)) (by first | omega | (simp [maxLen] <;> omega) | (simp <;> omega)) ?_)
    clear hS; intro v28 D28 w ho28 hS
    refine pl_take rfl (yes_none rfl) (vr_nilCheck rfl) ?_
    first | (refine pl_take rfl (yes_none rfl) (vr_fieldAddr fo_37_5 rfl) ?_) | (refine pl_take rfl (yes_none rfl) (vr_fieldAddrV fo_37_5 rfl (by first | assumption | (refine Own.view ?_ (by assumption); exact fun _ => rfl) | exact OwnB.view (by assumption)) (by first | omega | (simp <;> omega))) ?_)
    refine pl_end hS rfl (yes_none rfl) ?_
    clear hS; intro w hS
    refine (ow_store1 (v := v28) hS sz_32 rfl rfl (by first | rfl | exact Own.isOne (by assumption)) (by first | exact Has.here | exact Has.there (Has.here) | exact Has.there (Has.there (Has.here)) | exact Has.there (Has.there (Has.there (Has.here))) | exact Has.there (Has.there (Has.there (Has.there (Has.here)))) | exact Has.there (Has.there (Has.there (Has.there (Has.there (Has.here))))) | exact Has.there (Has.there (Has.there (Has.there (Has.there (Has.there (Has.here)))))) | exact Has.there (Has.there (Has.there (Has.there (Has.there (Has.there (Has.there (Has.here)))))))) (by simp) ?_)
    clear hS; intro w hS; try simp only [List.set_cons_zero, List.set_cons_succ] at hS
    refine pl_nil hS ?_
    clear hS; intro w hS
    refine ret_none (fn := Tryz.f17) (n := 31) (.inr rfl) rfl ?_
    refine ⟨[[(p, .cells ([c0, c1, c2, c3, v17, v28, c6, c7, c8, c9, c10, c11] : List Value).toArray 37 (0, 0))], [D17, D28, Dj ++ D26, Dx ++ Dl ++ J].flatten], ⟨v17, v28, Dx ++ Dl ++ J, _, rfl, ?_, hvl.mono fun u hu => by simp [hu], fun u hu => by simp at hu ⊢; rcases hu with h | h <;> simp [h], fun u hu => by simp at hu ⊢; rcases hu with h | h | h <;> simp [h]⟩, ?_⟩
    · rw [hlt]
      exact ⟨by simp; omega, fun y hy => by simp at hy; rcases hy with h | h; exact hls y h; rw [h]; exact hn, _, _, D17, D28, Dx ++ Dl, Dj ++ D26, J, rfl, rfl, ho17, ho28, hx.snoc ho, hj.snoc ho26⟩
    · replace hS : Sat E (D26 :: [(p, .cells ([c0, c1, c2, c3, v17, v28, c6, c7, c8, c9, c10, c11] : List Value).toArray 37 (0, 0))] :: D17 :: D28 :: Dl :: (Dx ++ J) :: Dj :: F) w := hS.tail1
      exact hS.perm (by classical exact List.perm_iff_count.2 fun x => by simp only [List.cons_append, List.nil_append, List.flatten_cons, List.flatten_nil, List.count_append, List.append_nil, List.count_cons, List.count_nil]; omega)
  · (try simp only [decide_eq_true_eq, decide_eq_false_iff_not, Bool.not_eq_true, Bool.not_eq_false, Bool.not_eq_true', Bool.not_eq_false', Bool.and_eq_true, Bool.or_eq_true, Bool.and_eq_false_iff, Bool.or_eq_false_iff, Int.not_lt, Int.not_le, gt_iff_lt, ge_iff_le, ne_eq, Decidable.not_not, beq_iff_eq] at hc)
    have hc0 := hc; clear hc
    refine cw_skip ?_
    refine ret_none (fn := Tryz.f17) (n := 31) (.inr rfl) rfl ?_
    refine ⟨[[(p, .cells ([c0, c1, c2, c3, vb, vw, c6, c7, c8, c9, c10, c11] : List Value).toArray 37 (0, 0))], [Db, Dw, Dj, Dx ++ (J ++ Dl)].flatten], ⟨vb, vw, Dx ++ (J ++ Dl), _, rfl, ?_, hvl.mono fun u hu => by simp [hu], fun u hu => by simp at hu ⊢; rcases hu with h | h <;> simp [h], fun u hu => by simp at hu ⊢; rcases hu with h | h | h <;> simp [h]⟩, ?_⟩
    · rw [addB, if_neg (by omega)]
      exact ⟨hl, hls, _, _, Db, Dw, Dx, Dj, J ++ Dl, rfl, rfl, hb, hw, hx, hj⟩
    · exact hS.perm (by classical exact List.perm_iff_count.2 fun x => by simp only [List.cons_append, List.nil_append, List.flatten_cons, List.flatten_nil, List.count_append, List.append_nil, List.count_cons, List.count_nil]; omega)
theorem book_stillChanges (hk : Kept 55 28 2 encC vb vw xss Di D) :
    FnM Tryz.prog 35 [.pointer (some ⟨p, 0, none⟩)] [[(p, .cells ([c0, c1, c2, c3, vb, vw, c6, c7, c8, c9, c10, c11] : List Value).toArray 37 (0, 0))]] [D] (fun r Δs => r = .bool true ∧ Δs = [[(p, .cells ([c0, c1, c2, c3, vb, vw, c6, c7, c8, c9, c10, c11] : List Value).toArray 37 (0, 0))]]) := by
  refine FnM.mk fun E F w hS hF => ?_
  have hF0 : D ∈ F := hF _ (by simp)
  replace hS : Sat E ([(p, .cells ([c0, c1, c2, c3, vb, vw, c6, c7, c8, c9, c10, c11] : List Value).toArray 37 (0, 0))] :: F) w := hS
  obtain ⟨hl, hls, vs, ws, Db, Dw, Dx, Dj, J, rfl, rfl, hb, hw, hx, hj⟩ := hk
  have hvb := (hb.view (by exact fun _ => rfl)).mono (Δ' := [Db, Dw, Dj, Dx ++ J].flatten) (fun u hu => by simp [hu])
  have hvw := (hw.view (by exact fun _ => rfl)).mono (Δ' := [Db, Dw, Dj, Dx ++ J].flatten) (fun u hu => by simp [hu])
  have hxv := (hx.views (by exact fun _ => rfl)).mono (Δ' := [Db, Dw, Dj, Dx ++ J].flatten) (fun u hu => by simp [hu])
  have hjv := (hj.views (by exact fun _ => rfl)).mono (Δ' := [Db, Dw, Dj, Dx ++ J].flatten) (fun u hu => by simp [hu])
  have hlb := hxv.1
  have hlw := hjv.1
  refine returns_enter Tryz.func35 rfl Tryz.ntmps35 rfl ?_
  refine cw_seq fun K1 hK1 => ?_
  refine cw_region ?_
  refine wl_op rfl rfl (ow_vr (vr_assign (v := .bool false) rfl) ?_)
  refine wl_nil ?_
  refine hK1 _ _ ?_
  refine cw_seq fun K2 hK2 => ?_
  refine cw_seq fun K3 hK3 => ?_
  refine cw_region ?_
  refine wl_op rfl rfl (ow_vr (vr_assign (v := .int .i64 0) rfl) ?_)
  refine wl_nil ?_
  refine hK3 _ _ ?_
  refine cw_block ?_
  refine cw_loop (fun m f w => ∃ (k : Nat) (g : Nat → Value), f = (upd (upd g 0 (.pointer (some ⟨p, 0, none⟩))) 3 (.int .i64 (k : Int))) ∧ (k ≤ xss.length) ∧ m = xss.length - k ∧ Sat E ([(p, .cells ([c0, c1, c2, c3, vb, vw, c6, c7, c8, c9, c10, c11] : List Value).toArray 37 (0, 0))] :: F) w) ⟨0, _, (reb (reb rfl rfl) rfl), ?_, rfl, hS⟩ ?_
  · omega
  clear hS; rintro m f w ⟨k, g, rfl, hI0, rfl, hS⟩
  refine cw_seq fun K4 hK4 => ?_
  refine cw_seq fun K5 hK5 => ?_
  refine cw_region ?_
  refine wl_op rfl rfl (ow_vr (vr_move (v := .int .i64 (k : Int)) rfl) ?_)
  refine wl_op rfl rfl (ow_vr (vr_move (v := .pointer (some ⟨p, 0, none⟩)) rfl) ?_)
  refine wl_op rfl rfl (ow_vr (vr_nilCheck rfl) ?_)
  first | (refine wl_op rfl rfl (ow_vr (vr_fieldAddr fo_37_4 rfl) ?_)) | (refine wl_op rfl rfl (ow_vr (vr_fieldAddrV fo_37_4 rfl (by first | assumption | (refine Own.view ?_ (by assumption); exact fun _ => rfl) | exact OwnB.view (by assumption)) (by first | omega | (simp <;> omega))) ?_))
  refine wl_op rfl rfl (ow_lr (S := Sat _ _) (lr_load1 Tryz.underlying32 rfl rfl (by first | exact Has.here | exact Has.there (Has.here) | exact Has.there (Has.there (Has.here)) | exact Has.there (Has.there (Has.there (Has.here))) | exact Has.there (Has.there (Has.there (Has.there (Has.here)))) | exact Has.there (Has.there (Has.there (Has.there (Has.there (Has.here))))) | exact Has.there (Has.there (Has.there (Has.there (Has.there (Has.there (Has.here)))))) | exact Has.there (Has.there (Has.there (Has.there (Has.there (Has.there (Has.there (Has.here)))))))) rfl) hS ?_)
  refine wl_op rfl rfl (ow_vr (vr_len_v (v := vb) Tryz.underlying32 rfl hvb) ?_)
  refine wl_op rfl rfl (ow_vr (vr_lss rfl rfl) ?_)
  refine wl_nil ?_
  refine hK5 _ _ ?_
  refine cw_cond rfl rfl (fun hc => ?_) (fun hc => ?_)
  · (try simp only [decide_eq_true_eq, decide_eq_false_iff_not, Bool.not_eq_true, Bool.not_eq_false, Bool.not_eq_true', Bool.not_eq_false', Bool.and_eq_true, Bool.or_eq_true, Bool.and_eq_false_iff, Bool.or_eq_false_iff, Int.not_lt, Int.not_le, gt_iff_lt, ge_iff_le, ne_eq, Decidable.not_not, beq_iff_eq] at hc)
    have hc0 := hc; clear hc
    refine cw_skip ?_
    refine hK4 _ _ ?_
    refine cw_seq fun K6 hK6 => ?_
    refine cw_block ?_
    refine cw_seq fun K7 hK7 => ?_
    obtain ⟨s, hs⟩ := get_lt (xs := vs) (k := k) (by omega)
    obtain ⟨s2, hs2⟩ := get_lt (xs := ws) (k := k) (by omega)
    obtain ⟨xs, hx1⟩ := get_lt (xs := xss) (k := k) (by omega)
    have hln := hls xs (List.mem_of_getElem? hx1)
    refine cw_draw_sat hS [(0, 0), (1, 0), (2, 0), (3, 1), (4, 0), (5, 0), (6, 1), (7, 0), (8, 0), (9, 0), (10, 1), (11, 0), (12, 0), (13, 1), (14, 2), (15, 0)] mixed (planFast_ok (by kernel_rfl)) (by rintro _ _ _ ⟨⟩) ?_
    clear hS; intro w hS
    refine pl_take rfl (yes_none rfl) (vr_move (v := .pointer (some ⟨p, 0, none⟩)) rfl) ?_
    refine pl_take rfl (yes_none rfl) (vr_nilCheck rfl) ?_
    first | (refine pl_take rfl (yes_none rfl) (vr_fieldAddr fo_37_4 rfl) ?_) | (refine pl_take rfl (yes_none rfl) (vr_fieldAddrV fo_37_4 rfl (by first | assumption | (refine Own.view ?_ (by assumption); exact fun _ => rfl) | exact OwnB.view (by assumption)) (by first | omega | (simp <;> omega))) ?_)
    refine pl_load rfl (yes_none rfl) (lr_load1 Tryz.underlying32 rfl rfl (by first | exact Has.here | exact Has.there (Has.here) | exact Has.there (Has.there (Has.here)) | exact Has.there (Has.there (Has.there (Has.here))) | exact Has.there (Has.there (Has.there (Has.there (Has.here)))) | exact Has.there (Has.there (Has.there (Has.there (Has.there (Has.here))))) | exact Has.there (Has.there (Has.there (Has.there (Has.there (Has.there (Has.here)))))) | exact Has.there (Has.there (Has.there (Has.there (Has.there (Has.there (Has.there (Has.here)))))))) rfl) ?_
    refine pl_take rfl (yes_none rfl) (vr_move (v := .int .i64 (k : Int)) rfl) ?_
    refine pl_take rfl (yes_none rfl) (vr_indexV (v := vb) Tryz.underlying32 sz_28 rfl hvb rfl (by omega) (by omega)) ?_
    refine pl_load rfl (yes_none rfl) (lr_loadV1 (u := slv s) Tryz.underlying28 rfl rfl hvb (by repeat (first | exact List.mem_cons_self | assumption | refine List.mem_cons_of_mem _ ?_)) (hs) (by exact fun _ => rfl) (by rfl)) ?_
    refine pl_take rfl (yes_none rfl) (vr_move (v := .pointer (some ⟨p, 0, none⟩)) rfl) ?_
    refine pl_take rfl (yes_none rfl) (vr_nilCheck rfl) ?_
    first | (refine pl_take rfl (yes_none rfl) (vr_fieldAddr fo_37_5 rfl) ?_) | (refine pl_take rfl (yes_none rfl) (vr_fieldAddrV fo_37_5 rfl (by first | assumption | (refine Own.view ?_ (by assumption); exact fun _ => rfl) | exact OwnB.view (by assumption)) (by first | omega | (simp <;> omega))) ?_)
    refine pl_load rfl (yes_none rfl) (lr_load1 Tryz.underlying32 rfl rfl (by first | exact Has.here | exact Has.there (Has.here) | exact Has.there (Has.there (Has.here)) | exact Has.there (Has.there (Has.there (Has.here))) | exact Has.there (Has.there (Has.there (Has.there (Has.here)))) | exact Has.there (Has.there (Has.there (Has.there (Has.there (Has.here))))) | exact Has.there (Has.there (Has.there (Has.there (Has.there (Has.there (Has.here)))))) | exact Has.there (Has.there (Has.there (Has.there (Has.there (Has.there (Has.there (Has.here)))))))) rfl) ?_
    refine pl_take rfl (yes_none rfl) (vr_move (v := .int .i64 (k : Int)) rfl) ?_
    refine pl_take rfl (yes_none rfl) (vr_indexV (v := vw) Tryz.underlying32 sz_28 rfl hvw rfl (by omega) (by omega)) ?_
    refine pl_load rfl (yes_none rfl) (lr_loadV1 (u := slv s2) Tryz.underlying28 rfl rfl hvw (by repeat (first | exact List.mem_cons_self | assumption | refine List.mem_cons_of_mem _ ?_)) (hs2) (by exact fun _ => rfl) (by rfl)) ?_
    refine pl_act hS rfl (yes_none rfl) ?_
    clear hS; intro w hS
    refine (ow_fng (vs := [slv s, slv s2]) en_14 rfl hS (book_SameChanges xs xs _ _ _ _ (hxv.2 k s xs hs hx1) (hjv.2 k s2 xs hs2 hx1) (by omega) (by omega)) (by repeat (first | exact needs0 | (refine needsC ?_ ?_; · (repeat (first | exact List.mem_cons_self | assumption | refine List.mem_cons_of_mem _ ?_))))) ?_)
    clear hS; rintro v27 _ w ⟨rfl, rfl⟩ hS; (try simp only [List.cons_append, List.nil_append] at hS)
    refine ⟨by first | exact hS | exact hS.tail1 | exact hS.tail1.tail1 | exact hS.tail1.tail1.tail1, ?_⟩
    refine pl_take rfl (yes_none rfl) (vr_not rfl) ?_
    refine pl_nil hS ?_
    clear hS; intro w hS
    refine hK7 _ _ ?_
    refine cw_cond_f rfl rfl (by simp) ?_
    refine cw_skip ?_
    refine hK6 _ _ ?_
    refine cw_region ?_
    refine wl_op rfl rfl (ow_vr (vr_move (v := .int .i64 (k : Int)) rfl) ?_)
    first | (refine wl_op rfl rfl (ow_vr (vr_addi rfl rfl (by unfold inI64; omega)) ?_)) | (refine wl_op rfl rfl (ow_vr (vr_add rfl rfl) ?_))
    refine wl_op rfl rfl (ow_vr (vr_assign (v := .int .i64 _) rfl) ?_)
    refine wl_nil ?_
    refine thenF_normal ⟨_, ?_, k + 1, _, (reb (reb rfl rfl) rfl), ?_, rfl, hS⟩
    · omega
    · omega
  · (try simp only [decide_eq_true_eq, decide_eq_false_iff_not, Bool.not_eq_true, Bool.not_eq_false, Bool.not_eq_true', Bool.not_eq_false', Bool.and_eq_true, Bool.or_eq_true, Bool.and_eq_false_iff, Bool.or_eq_false_iff, Int.not_lt, Int.not_le, gt_iff_lt, ge_iff_le, ne_eq, Decidable.not_not, beq_iff_eq] at hc)
    have hc0 := hc; clear hc
    refine cw_exit ?_
    refine hK2 _ _ ?_
    refine cw_seq fun K8 hK8 => ?_
    refine cw_region ?_
    refine wl_op rfl rfl (ow_vr (vr_assign (v := .bool true) rfl) ?_)
    refine wl_nil ?_
    refine hK8 _ _ ?_
    refine cw_ret ?_
    refine ret_one (fn := Tryz.f35) (n := 29) (t := 2) (.inl rfl) rfl rfl ?_
    exact ⟨[_], ⟨rfl, rfl⟩, hS⟩
theorem book_putChanges (hk : Kept 55 28 2 encC vb vw xss Di D) :
    Fn Tryz.prog 42 [.pointer (some ⟨p, 0, none⟩)] [[(p, .cells ([c0, c1, c2, c3, vb, vw, c6, c7, c8, c9, c10, c11] : List Value).toArray 37 (0, 0))], D] (fun r Δs => ∃ D', Δs = [[(p, .cells ([c0, c1, c2, c3, vb, vw, c6, c7, c8, c9, c10, c11] : List Value).toArray 37 (0, 0))], D'] ∧ Mrkd 55 28 2 encC mkC vb xss D') := by
  refine Fn.mk fun E F w hS => ?_
  obtain ⟨hl, hls, vs, ws, Db, Dw, Dx, Dj, J, rfl, rfl, hb, hw, hx, hj⟩ := hk
  replace hS : Sat E (Dw :: Dj :: J :: [(p, .cells ([c0, c1, c2, c3, vb, vw, c6, c7, c8, c9, c10, c11] : List Value).toArray 37 (0, 0))] :: Db :: Dx :: F) w := hS.perm (by classical exact List.perm_iff_count.2 fun x => by simp only [List.cons_append, List.nil_append, List.flatten_cons, List.flatten_nil, List.count_append, List.append_nil, List.count_cons, List.count_nil]; omega)
  replace hS := hS.tail1.tail1.tail1
  have hvb := hb.view (by exact fun _ => rfl)
  have hlb := (hx.views (by exact fun _ => rfl)).1
  refine returns_enter Tryz.func42 rfl Tryz.ntmps42 rfl ?_
  refine cw_seq fun K1 hK1 => ?_
  refine cw_region ?_
  refine wl_op rfl rfl (ow_vr (vr_assign (v := .int .i64 0) rfl) ?_)
  refine wl_nil ?_
  refine hK1 _ _ ?_
  refine cw_block ?_
  refine cw_loop (fun m f w => ∃ (i : Nat) (Dy : Chunk) (g : Nat → Value), f = (upd (upd g 0 (.pointer (some ⟨p, 0, none⟩))) 2 (.int .i64 (i : Int))) ∧ (i ≤ xss.length ∧ OwnL 55 2 encC vs (part_ mkC i xss) Dy) ∧ m = xss.length - i ∧ Sat E ([(p, .cells ([c0, c1, c2, c3, vb, vw, c6, c7, c8, c9, c10, c11] : List Value).toArray 37 (0, 0))] :: Db :: Dy :: F) w) ⟨0, Dx, _, (reb (reb rfl rfl) rfl), ?_, rfl, hS⟩ ?_
  · exact ⟨by omega, by rw [part_zero]; exact hx⟩
  clear hS; rintro m f w ⟨i, Dy, g, rfl, hI0, rfl, hS⟩
  obtain ⟨hi, hy0⟩ := hI0
  refine cw_seq fun K2 hK2 => ?_
  refine cw_seq fun K3 hK3 => ?_
  refine cw_region ?_
  refine wl_op rfl rfl (ow_vr (vr_move (v := .int .i64 (i : Int)) rfl) ?_)
  refine wl_op rfl rfl (ow_vr (vr_move (v := .pointer (some ⟨p, 0, none⟩)) rfl) ?_)
  refine wl_op rfl rfl (ow_vr (vr_nilCheck rfl) ?_)
  first | (refine wl_op rfl rfl (ow_vr (vr_fieldAddr fo_37_4 rfl) ?_)) | (refine wl_op rfl rfl (ow_vr (vr_fieldAddrV fo_37_4 rfl (by first | assumption | (refine Own.view ?_ (by assumption); exact fun _ => rfl) | exact OwnB.view (by assumption)) (by first | omega | (simp <;> omega))) ?_))
  refine wl_op rfl rfl (ow_lr (S := Sat _ _) (lr_load1 Tryz.underlying32 rfl rfl (by first | exact Has.here | exact Has.there (Has.here) | exact Has.there (Has.there (Has.here)) | exact Has.there (Has.there (Has.there (Has.here))) | exact Has.there (Has.there (Has.there (Has.there (Has.here)))) | exact Has.there (Has.there (Has.there (Has.there (Has.there (Has.here))))) | exact Has.there (Has.there (Has.there (Has.there (Has.there (Has.there (Has.here)))))) | exact Has.there (Has.there (Has.there (Has.there (Has.there (Has.there (Has.there (Has.here)))))))) rfl) hS ?_)
  refine wl_op rfl rfl (ow_vr (vr_len_v (v := vb) Tryz.underlying32 rfl hvb) ?_)
  refine wl_op rfl rfl (ow_vr (vr_lss rfl rfl) ?_)
  refine wl_nil ?_
  refine hK3 _ _ ?_
  refine cw_cond rfl rfl (fun hc => ?_) (fun hc => ?_)
  · (try simp only [decide_eq_true_eq, decide_eq_false_iff_not, Bool.not_eq_true, Bool.not_eq_false, Bool.not_eq_true', Bool.not_eq_false', Bool.and_eq_true, Bool.or_eq_true, Bool.and_eq_false_iff, Bool.or_eq_false_iff, Int.not_lt, Int.not_le, gt_iff_lt, ge_iff_le, ne_eq, Decidable.not_not, beq_iff_eq] at hc)
    have hc0 := hc; clear hc
    refine cw_skip ?_
    refine hK2 _ _ ?_
    refine cw_seq fun K4 hK4 => ?_
    refine cw_block ?_
    refine cw_seq fun K5 hK5 => ?_
    obtain ⟨s, hs⟩ := get_lt (xs := vs) (k := i) (by omega)
    obtain ⟨xs, hx1⟩ := get_lt (xs := xss) (k := i) (by omega)
    have hln := hls xs (List.mem_of_getElem? hx1)
    obtain ⟨P1, D1, P2, rfl, ho1, hcl⟩ := hy0.opn hs (part_get mkC hx1)
    have hv1 := ho1.view (by exact fun _ => rfl)
    replace hS : Sat E ([(p, .cells ([c0, c1, c2, c3, vb, vw, c6, c7, c8, c9, c10, c11] : List Value).toArray 37 (0, 0))] :: Db :: D1 :: P1 :: P2 :: F) w := hS.perm (by classical exact List.perm_iff_count.2 fun x => by simp only [List.flatten_cons, List.flatten_nil, List.count_append, List.append_nil]; omega)
    have hml := markL_len mkC i 0 xs.length
    refine cw_region ?_
    refine wl_op rfl rfl (ow_vr (vr_move (v := .int .i64 (i : Int)) rfl) ?_)
    refine wl_op rfl rfl (ow_vr (vr_move (v := .pointer (some ⟨p, 0, none⟩)) rfl) ?_)
    refine wl_op rfl rfl (ow_vr (vr_nilCheck rfl) ?_)
    first | (refine wl_op rfl rfl (ow_vr (vr_fieldAddr fo_37_4 rfl) ?_)) | (refine wl_op rfl rfl (ow_vr (vr_fieldAddrV fo_37_4 rfl (by first | assumption | (refine Own.view ?_ (by assumption); exact fun _ => rfl) | exact OwnB.view (by assumption)) (by first | omega | (simp <;> omega))) ?_))
    refine wl_op rfl rfl (ow_lr (S := Sat _ _) (lr_load1 Tryz.underlying32 rfl rfl (by first | exact Has.here | exact Has.there (Has.here) | exact Has.there (Has.there (Has.here)) | exact Has.there (Has.there (Has.there (Has.here))) | exact Has.there (Has.there (Has.there (Has.there (Has.here)))) | exact Has.there (Has.there (Has.there (Has.there (Has.there (Has.here))))) | exact Has.there (Has.there (Has.there (Has.there (Has.there (Has.there (Has.here)))))) | exact Has.there (Has.there (Has.there (Has.there (Has.there (Has.there (Has.there (Has.here)))))))) rfl) hS ?_)
    refine wl_op rfl rfl (ow_vr (vr_move (v := .int .i64 (i : Int)) rfl) ?_)
    refine wl_op rfl rfl (ow_vr (vr_indexV (v := vb) Tryz.underlying32 sz_28 rfl hvb rfl (by omega) (by omega)) ?_)
    refine wl_op rfl rfl (ow_lr (S := Sat _ _) (lr_loadV1 (u := slv s) Tryz.underlying28 rfl rfl hvb (by repeat (first | exact List.mem_cons_self | assumption | refine List.mem_cons_of_mem _ ?_)) (hs) (by exact fun _ => rfl) (by rfl)) hS ?_)
    refine wl_op rfl rfl (ow_vr (vr_len_v (v := slv s) Tryz.underlying28 rfl hv1) ?_)
    refine wl_op rfl rfl (ow_fng (vs := [.int .i64 (i : Int), .int .i64 _, .int .i64 _]) en_78 rfl hS (book_markChanges i 0 xs.length (by omega) (by omega) (by omega)) (by repeat (first | exact needs0 | (refine needsC ?_ ?_; · (repeat (first | exact List.mem_cons_self | assumption | refine List.mem_cons_of_mem _ ?_))))) ?_)
    clear hS; rintro v23 _ w ⟨D23, rfl, ho23⟩ hS; (try simp only [List.cons_append, List.nil_append] at hS)
    refine wl_op rfl rfl (ow_vr (vr_assign (v := v23) rfl) ?_)
    refine wl_nil ?_
    refine hK5 _ _ ?_
    refine cw_seq fun K6 hK6 => ?_
    refine cw_region ?_
    refine wl_op rfl rfl (ow_vr (vr_assign (v := .int .i64 0) rfl) ?_)
    refine wl_nil ?_
    refine hK6 _ _ ?_
    refine cw_block ?_
    refine cw_loop (fun m f w => ∃ (k : Nat) (Dk : Chunk) (g : Nat → Value), f = (upd (upd (upd (upd g 0 (.pointer (some ⟨p, 0, none⟩))) 2 (.int .i64 (i : Int))) 3 (v23)) 4 (.int .i64 (k : Int))) ∧ (k ≤ xs.length ∧ Own 55 2 encC (slv s) ((markL mkC i 0 xs.length).take k ++ xs.drop k) Dk) ∧ m = xs.length - k ∧ Sat E (D23 :: [(p, .cells ([c0, c1, c2, c3, vb, vw, c6, c7, c8, c9, c10, c11] : List Value).toArray 37 (0, 0))] :: Db :: Dk :: P1 :: P2 :: F) w) ⟨0, D1, _, (reb (reb (reb (reb rfl rfl) rfl) rfl) rfl), ?_, rfl, hS⟩ ?_
    · exact ⟨by omega, by simpa using ho1⟩
    clear hS; rintro m f w ⟨k, Dk, g, rfl, hI1, rfl, hS⟩
    obtain ⟨hk, hok⟩ := hI1
    have hvm := ho23.view (by exact fun _ => rfl)
    have hvk := hok.view (by exact fun _ => rfl)
    have hkl : ((markL mkC i 0 xs.length).take k ++ xs.drop k).length = xs.length := by simp [markL_len]; omega
    refine cw_seq fun K7 hK7 => ?_
    refine cw_seq fun K8 hK8 => ?_
    refine cw_region ?_
    refine wl_op rfl rfl (ow_vr (vr_move (v := .int .i64 (k : Int)) rfl) ?_)
    refine wl_op rfl rfl (ow_vr (vr_move (v := v23) rfl) ?_)
    refine wl_op rfl rfl (ow_vr (vr_len_v (v := v23) Tryz.underlying28 rfl hvm) ?_)
    refine wl_op rfl rfl (ow_vr (vr_lss rfl rfl) ?_)
    refine wl_nil ?_
    refine hK8 _ _ ?_
    refine cw_cond rfl rfl (fun hc => ?_) (fun hc => ?_)
    · (try simp only [decide_eq_true_eq, decide_eq_false_iff_not, Bool.not_eq_true, Bool.not_eq_false, Bool.not_eq_true', Bool.not_eq_false', Bool.and_eq_true, Bool.or_eq_true, Bool.and_eq_false_iff, Bool.or_eq_false_iff, Int.not_lt, Int.not_le, gt_iff_lt, ge_iff_le, ne_eq, Decidable.not_not, beq_iff_eq] at hc)
      have hc1 := hc; clear hc
      refine cw_skip ?_
      refine hK7 _ _ ?_
      refine cw_seq fun K9 hK9 => ?_
      refine cw_block ?_
      have hgm := markL_get mkC i 0 xs.length k (by omega)
      obtain ⟨y, hy⟩ := get_lt (xs := (markL mkC i 0 xs.length).take k ++ xs.drop k) (k := k) (by omega)
      refine cw_draw_sat hS [(0, 0), (1, 0), (2, 0), (3, 1), (4, 0), (5, 0), (6, 1), (7, 0), (8, 0), (9, 0), (10, 0), (11, 1), (12, 0), (13, 3)] mixed (planFast_ok (by kernel_rfl)) (by rintro _ _ _ ⟨⟩) ?_
      clear hS; intro w hS
      refine pl_take rfl (yes_none rfl) (vr_move (v := .pointer (some ⟨p, 0, none⟩)) rfl) ?_
      refine pl_take rfl (yes_none rfl) (vr_nilCheck rfl) ?_
      first | (refine pl_take rfl (yes_none rfl) (vr_fieldAddr fo_37_4 rfl) ?_) | (refine pl_take rfl (yes_none rfl) (vr_fieldAddrV fo_37_4 rfl (by first | assumption | (refine Own.view ?_ (by assumption); exact fun _ => rfl) | exact OwnB.view (by assumption)) (by first | omega | (simp <;> omega))) ?_)
      refine pl_load rfl (yes_none rfl) (lr_load1 Tryz.underlying32 rfl rfl (by first | exact Has.here | exact Has.there (Has.here) | exact Has.there (Has.there (Has.here)) | exact Has.there (Has.there (Has.there (Has.here))) | exact Has.there (Has.there (Has.there (Has.there (Has.here)))) | exact Has.there (Has.there (Has.there (Has.there (Has.there (Has.here))))) | exact Has.there (Has.there (Has.there (Has.there (Has.there (Has.there (Has.here)))))) | exact Has.there (Has.there (Has.there (Has.there (Has.there (Has.there (Has.there (Has.here)))))))) rfl) ?_
      refine pl_take rfl (yes_none rfl) (vr_move (v := .int .i64 (i : Int)) rfl) ?_
      refine pl_take rfl (yes_none rfl) (vr_indexV (v := vb) Tryz.underlying32 sz_28 rfl hvb rfl (by omega) (by omega)) ?_
      refine pl_load rfl (yes_none rfl) (lr_loadV1 (u := slv s) Tryz.underlying28 rfl rfl hvb (by repeat (first | exact List.mem_cons_self | assumption | refine List.mem_cons_of_mem _ ?_)) (hs) (by exact fun _ => rfl) (by rfl)) ?_
      refine pl_take rfl (yes_none rfl) (vr_move (v := .int .i64 (k : Int)) rfl) ?_
      refine pl_take rfl (yes_none rfl) (vr_move (v := v23) rfl) ?_
      refine pl_take rfl (yes_none rfl) (vr_move (v := .int .i64 (k : Int)) rfl) ?_
      refine pl_take rfl (yes_none rfl) (vr_indexV (v := v23) Tryz.underlying28 sz_55 rfl hvm rfl (by omega) (by omega)) ?_
      refine pl_load rfl (yes_none rfl) (lr_loadVA (cs := [.int .i64 _, .int .i64 _]) Tryz.underlying55 rfl sz_55 rfl hvm (by repeat (first | exact List.mem_cons_self | assumption | refine List.mem_cons_of_mem _ ?_)) (hgm) (by exact fun _ => rfl) (by rfl)) ?_
      refine pl_take rfl (yes_none rfl) (vr_indexV (v := slv s) Tryz.underlying28 sz_55 rfl hvk rfl (by omega) (by omega)) ?_
      refine pl_end hS rfl (yes_none rfl) ?_
      clear hS; intro w hS
      refine (ow_storeOwnA (b' := mkC i (0 + k)) (vs := [.int .i64 _, .int .i64 _]) hS sz_55 rfl rfl rfl rfl (by assumption) (by first | exact HasC.here | exact HasC.there (HasC.here) | exact HasC.there (HasC.there (HasC.here)) | exact HasC.there (HasC.there (HasC.there (HasC.here))) | exact HasC.there (HasC.there (HasC.there (HasC.there (HasC.here)))) | exact HasC.there (HasC.there (HasC.there (HasC.there (HasC.there (HasC.here))))) | exact HasC.there (HasC.there (HasC.there (HasC.there (HasC.there (HasC.there (HasC.here)))))) | exact HasC.there (HasC.there (HasC.there (HasC.there (HasC.there (HasC.there (HasC.there (HasC.here))))))) | exact HasC.there (HasC.there (HasC.there (HasC.there (HasC.there (HasC.there (HasC.there (HasC.there (HasC.here))))))))) (by simp [markL_len]; omega) (by exact fun _ => rfl) ?_)
      clear hS; intro D7_13 w ho7_13 hS
      refine pl_nil hS ?_
      clear hS; intro w hS
      refine hK9 _ _ ?_
      refine cw_region ?_
      refine wl_op rfl rfl (ow_vr (vr_move (v := .int .i64 (k : Int)) rfl) ?_)
      first | (refine wl_op rfl rfl (ow_vr (vr_addi rfl rfl (by unfold inI64; omega)) ?_)) | (refine wl_op rfl rfl (ow_vr (vr_add rfl rfl) ?_))
      refine wl_op rfl rfl (ow_vr (vr_assign (v := .int .i64 _) rfl) ?_)
      refine wl_nil ?_
      refine thenF_normal ⟨_, ?_, k + 1, D7_13, _, (reb (reb (reb (reb rfl rfl) rfl) rfl) rfl), ?_, rfl, hS⟩
      · omega
      · exact ⟨by omega, by rw [← mix_set (by omega) (by omega) hgm]; exact ho7_13⟩
    · (try simp only [decide_eq_true_eq, decide_eq_false_iff_not, Bool.not_eq_true, Bool.not_eq_false, Bool.not_eq_true', Bool.not_eq_false', Bool.and_eq_true, Bool.or_eq_true, Bool.and_eq_false_iff, Bool.or_eq_false_iff, Int.not_lt, Int.not_le, gt_iff_lt, ge_iff_le, ne_eq, Decidable.not_not, beq_iff_eq] at hc)
      have hc1 := hc; clear hc
      refine cw_exit ?_
      refine hK4 _ _ ?_
      obtain rfl : k = xs.length := by omega
      have hck := hcl _ _ hok
      rw [List.drop_length, List.append_nil, List.take_of_length_le (by omega), part_set _ hx1] at hck
      replace hS : Sat E (D23 :: [(p, .cells ([c0, c1, c2, c3, vb, vw, c6, c7, c8, c9, c10, c11] : List Value).toArray 37 (0, 0))] :: Db :: (P1 ++ Dk ++ P2) :: F) w := hS.perm (by classical exact List.perm_iff_count.2 fun x => by simp only [List.flatten_cons, List.flatten_nil, List.count_append, List.append_nil]; omega)
      replace hS := hS.tail1
      refine cw_region ?_
      refine wl_op rfl rfl (ow_vr (vr_move (v := .int .i64 (i : Int)) rfl) ?_)
      first | (refine wl_op rfl rfl (ow_vr (vr_addi rfl rfl (by unfold inI64; omega)) ?_)) | (refine wl_op rfl rfl (ow_vr (vr_add rfl rfl) ?_))
      refine wl_op rfl rfl (ow_vr (vr_assign (v := .int .i64 _) rfl) ?_)
      refine wl_nil ?_
      refine thenF_normal ⟨_, ?_, i + 1, (P1 ++ Dk ++ P2), _, (reb (reb rfl rfl) rfl), ?_, rfl, hS⟩
      · omega
      · exact ⟨by omega, hck⟩
  · (try simp only [decide_eq_true_eq, decide_eq_false_iff_not, Bool.not_eq_true, Bool.not_eq_false, Bool.not_eq_true', Bool.not_eq_false', Bool.and_eq_true, Bool.or_eq_true, Bool.and_eq_false_iff, Bool.or_eq_false_iff, Int.not_lt, Int.not_le, gt_iff_lt, ge_iff_le, ne_eq, Decidable.not_not, beq_iff_eq] at hc)
    have hc0 := hc; clear hc
    refine cw_exit ?_
    refine thenF_exit (thenF_exit ((inB_exit ?_)))
    refine ret_none (fn := Tryz.f42) (n := 43) (.inr rfl) rfl ?_
    exact ⟨[_, Db ++ Dy], ⟨Db ++ Dy, rfl, hl, hls, vs, Db, Dy, rfl, hb, by rw [← part_all mkC xss (i := i) (by omega)]; exact hy0⟩, hS.perm (by simp)⟩
theorem book_growChanges (hk : Mrkd 55 28 2 encC mkC vb xss D) :
    Fn Tryz.prog 47 [.pointer (some ⟨p, 0, none⟩)] [[(p, .cells ([c0, c1, c2, c3, vb, vw, c6, c7, c8, c9, c10, c11] : List Value).toArray 37 (0, 0))], D] (fun r Δs => ∃ D', Δs = [[(p, .cells ([c0, c1, c2, c3, vb, vw, c6, c7, c8, c9, c10, c11] : List Value).toArray 37 (0, 0))], D'] ∧ Grwn 2 encC mkC 0 vb xss D' ∧ Grwn 2 encC mkC 72 r xss D') := by
  refine Fn.mk fun E F w hS => ?_
  obtain ⟨hl, hls, vs, Db, Dx, rfl, hb, hx⟩ := hk
  have hvb := hb.view (by exact fun _ => rfl)
  have hlb := (hx.views (by exact fun _ => rfl)).1
  rw [marks_len] at hlb
  refine returns_enter Tryz.func47 rfl Tryz.ntmps47 rfl ?_
  refine cw_seq fun K1 hK1 => ?_
  refine cw_region ?_
  refine wl_op rfl rfl (ow_vr (vr_assign (v := .slice none 0 0) rfl) ?_)
  refine wl_nil ?_
  refine hK1 _ _ ?_
  refine cw_seq fun K2 hK2 => ?_
  refine cw_region ?_
  refine wl_op rfl rfl (ow_vr (vr_assign (v := .slice none 0 0) rfl) ?_)
  refine wl_nil ?_
  refine hK2 _ _ ?_
  refine cw_seq fun K3 hK3 => ?_
  refine cw_seq fun K4 hK4 => ?_
  replace hS : Sat E ([] :: Dx :: [] :: [(p, .cells ([c0, c1, c2, c3, vb, vw, c6, c7, c8, c9, c10, c11] : List Value).toArray 37 (0, 0))] :: Db :: F) w := hS.perm (by classical exact List.perm_iff_count.2 fun x => by simp only [List.cons_append, List.nil_append, List.flatten_cons, List.flatten_nil, List.count_append, List.append_nil, List.count_cons, List.count_nil]; omega)
  refine cw_region ?_
  refine wl_op rfl rfl (ow_vr (vr_assign (v := .int .i64 0) rfl) ?_)
  refine wl_nil ?_
  refine hK4 _ _ ?_
  refine cw_block ?_
  refine cw_loop (fun m f w => ∃ (i : Nat) (vo : Value) (gs : List Sl) (Do : Chunk) (Dg : Chunk) (Dr : Chunk) (g : Nat → Value), f = (upd (upd (upd g 0 (.pointer (some ⟨p, 0, none⟩))) 3 (vo)) 4 (.int .i64 (i : Int))) ∧ (i ≤ xss.length ∧ Own 28 1 encSl vo gs Do ∧ ViewL 2 encC gs ((marks mkC 72 0 xss).take i) Dg ∧ ViewL 2 encC (vs.take i) ((marks mkC 0 0 xss).take i) Dg ∧ OwnL 55 2 encC (vs.drop i) ((marks mkC 0 0 xss).drop i) Dr) ∧ m = xss.length - i ∧ Sat E (Do :: Dr :: Dg :: [(p, .cells ([c0, c1, c2, c3, vb, vw, c6, c7, c8, c9, c10, c11] : List Value).toArray 37 (0, 0))] :: Db :: F) w) ⟨0, .slice none 0 0, [], [], [], Dx, _, (reb (reb (reb rfl rfl) rfl) rfl), ?_, rfl, hS⟩ ?_
  · exact ⟨by omega, Own.nil, ViewL.nil, ViewL.nil, hx⟩
  clear hS; rintro m f w ⟨i, vo, gs, Do, Dg, Dr, g, rfl, hI0, rfl, hS⟩
  obtain ⟨hi, hoo, hg1, hg2, hrr⟩ := hI0
  have hgl := hg1.1
  rw [List.length_take, marks_len] at hgl
  refine cw_seq fun K5 hK5 => ?_
  refine cw_seq fun K6 hK6 => ?_
  refine cw_region ?_
  refine wl_op rfl rfl (ow_vr (vr_move (v := .int .i64 (i : Int)) rfl) ?_)
  refine wl_op rfl rfl (ow_vr (vr_move (v := .pointer (some ⟨p, 0, none⟩)) rfl) ?_)
  refine wl_op rfl rfl (ow_vr (vr_nilCheck rfl) ?_)
  first | (refine wl_op rfl rfl (ow_vr (vr_fieldAddr fo_37_4 rfl) ?_)) | (refine wl_op rfl rfl (ow_vr (vr_fieldAddrV fo_37_4 rfl (by first | assumption | (refine Own.view ?_ (by assumption); exact fun _ => rfl) | exact OwnB.view (by assumption)) (by first | omega | (simp <;> omega))) ?_))
  refine wl_op rfl rfl (ow_lr (S := Sat _ _) (lr_load1 Tryz.underlying32 rfl rfl (by first | exact Has.here | exact Has.there (Has.here) | exact Has.there (Has.there (Has.here)) | exact Has.there (Has.there (Has.there (Has.here))) | exact Has.there (Has.there (Has.there (Has.there (Has.here)))) | exact Has.there (Has.there (Has.there (Has.there (Has.there (Has.here))))) | exact Has.there (Has.there (Has.there (Has.there (Has.there (Has.there (Has.here)))))) | exact Has.there (Has.there (Has.there (Has.there (Has.there (Has.there (Has.there (Has.here)))))))) rfl) hS ?_)
  refine wl_op rfl rfl (ow_vr (vr_len_v (v := vb) Tryz.underlying32 rfl hvb) ?_)
  refine wl_op rfl rfl (ow_vr (vr_lss rfl rfl) ?_)
  refine wl_nil ?_
  refine hK6 _ _ ?_
  refine cw_cond rfl rfl (fun hc => ?_) (fun hc => ?_)
  · (try simp only [decide_eq_true_eq, decide_eq_false_iff_not, Bool.not_eq_true, Bool.not_eq_false, Bool.not_eq_true', Bool.not_eq_false', Bool.and_eq_true, Bool.or_eq_true, Bool.and_eq_false_iff, Bool.or_eq_false_iff, Int.not_lt, Int.not_le, gt_iff_lt, ge_iff_le, ne_eq, Decidable.not_not, beq_iff_eq] at hc)
    have hc0 := hc; clear hc
    refine cw_skip ?_
    refine hK5 _ _ ?_
    refine cw_seq fun K7 hK7 => ?_
    refine cw_block ?_
    refine cw_seq fun K8 hK8 => ?_
    obtain ⟨s, hs⟩ := get_lt (xs := vs) (k := i) (by omega)
    obtain ⟨xs, hx1⟩ := get_lt (xs := xss) (k := i) (by omega)
    have hln := hls xs (List.mem_of_getElem? hx1)
    have hx2 := marks_get0 mkC 0 hx1
    have hx3 := marks_get0 mkC 72 hx1
    obtain ⟨D1, D2, rfl, ho1, hr2⟩ := hrr.hd hs hx2
    rw [Nat.add_zero] at ho1 hx2
    replace hS : Sat E (Do :: D1 :: D2 :: Dg :: [(p, .cells ([c0, c1, c2, c3, vb, vw, c6, c7, c8, c9, c10, c11] : List Value).toArray 37 (0, 0))] :: Db :: F) w := hS.perm (by classical exact List.perm_iff_count.2 fun x => by simp only [List.flatten_cons, List.flatten_nil, List.count_append, List.append_nil]; omega)
    refine cw_region ?_
    refine wl_op rfl rfl (ow_vr (vr_move (v := .pointer (some ⟨p, 0, none⟩)) rfl) ?_)
    refine wl_op rfl rfl (ow_vr (vr_nilCheck rfl) ?_)
    first | (refine wl_op rfl rfl (ow_vr (vr_fieldAddr fo_37_4 rfl) ?_)) | (refine wl_op rfl rfl (ow_vr (vr_fieldAddrV fo_37_4 rfl (by first | assumption | (refine Own.view ?_ (by assumption); exact fun _ => rfl) | exact OwnB.view (by assumption)) (by first | omega | (simp <;> omega))) ?_))
    refine wl_op rfl rfl (ow_lr (S := Sat _ _) (lr_load1 Tryz.underlying32 rfl rfl (by first | exact Has.here | exact Has.there (Has.here) | exact Has.there (Has.there (Has.here)) | exact Has.there (Has.there (Has.there (Has.here))) | exact Has.there (Has.there (Has.there (Has.there (Has.here)))) | exact Has.there (Has.there (Has.there (Has.there (Has.there (Has.here))))) | exact Has.there (Has.there (Has.there (Has.there (Has.there (Has.there (Has.here)))))) | exact Has.there (Has.there (Has.there (Has.there (Has.there (Has.there (Has.there (Has.here)))))))) rfl) hS ?_)
    refine wl_op rfl rfl (ow_vr (vr_move (v := .int .i64 (i : Int)) rfl) ?_)
    refine wl_op rfl rfl (ow_vr (vr_indexV (v := vb) Tryz.underlying32 sz_28 rfl hvb rfl (by omega) (by omega)) ?_)
    refine wl_op rfl rfl (ow_lr (S := Sat _ _) (lr_loadV1 (u := slv s) Tryz.underlying28 rfl rfl hvb (by repeat (first | exact List.mem_cons_self | assumption | refine List.mem_cons_of_mem _ ?_)) (hs) (by exact fun _ => rfl) (by rfl)) hS ?_)
    refine wl_op rfl rfl (ow_vr (vr_assign (v := slv s) rfl) ?_)
    refine wl_nil ?_
    refine hK8 _ _ ?_
    refine cw_seq fun K9 hK9 => ?_
    refine cw_seq fun K10 hK10 => ?_
    refine cw_region ?_
    refine wl_op rfl rfl (ow_vr (vr_assign (v := .int .i64 0) rfl) ?_)
    refine wl_nil ?_
    refine hK10 _ _ ?_
    refine cw_block ?_
    refine cw_loop (fun m f w => ∃ (n : Nat) (vl : Value) (Dl : Chunk) (g : Nat → Value), f = (upd (upd (upd (upd (upd g 0 (.pointer (some ⟨p, 0, none⟩))) 3 (vo)) 4 (.int .i64 (i : Int))) 5 (vl)) 6 (.int .i64 (n : Int))) ∧ (n ≤ 12 ∧ OwnP 55 2 encC vl (markL mkC i 0 (xs.length + n)) (slv s) (markL mkC i 0 xs.length) Dl) ∧ m = 12 - n ∧ Sat E (Do :: Dl :: D2 :: Dg :: [(p, .cells ([c0, c1, c2, c3, vb, vw, c6, c7, c8, c9, c10, c11] : List Value).toArray 37 (0, 0))] :: Db :: F) w) ⟨0, slv s, D1, _, (reb (reb (reb (reb (reb rfl rfl) rfl) rfl) rfl) rfl), ?_, rfl, hS⟩ ?_
    · exact ⟨by omega, OwnP.start ho1⟩
    clear hS; rintro m f w ⟨n, vl, Dl, g, rfl, hI1, rfl, hS⟩
    obtain ⟨hn, hol⟩ := hI1
    have hvl := hol.view (by exact fun _ => rfl)
    have hml := markL_len mkC i 0 (xs.length + n)
    have hml1 := markL_len mkC i (xs.length + n) 1
    have hml60 := markL_len mkC i (xs.length + n) 60
    refine cw_seq fun K11 hK11 => ?_
    refine cw_seq fun K12 hK12 => ?_
    refine cw_region ?_
    refine wl_op rfl rfl (ow_vr (vr_move (v := .int .i64 (n : Int)) rfl) ?_)
    refine wl_op rfl rfl (ow_vr (vr_lss rfl rfl) ?_)
    refine wl_nil ?_
    refine hK12 _ _ ?_
    refine cw_cond rfl rfl (fun hc => ?_) (fun hc => ?_)
    · (try simp only [decide_eq_true_eq, decide_eq_false_iff_not, Bool.not_eq_true, Bool.not_eq_false, Bool.not_eq_true', Bool.not_eq_false', Bool.and_eq_true, Bool.or_eq_true, Bool.and_eq_false_iff, Bool.or_eq_false_iff, Int.not_lt, Int.not_le, gt_iff_lt, ge_iff_le, ne_eq, Decidable.not_not, beq_iff_eq] at hc)
      have hc1 := hc; clear hc
      refine cw_skip ?_
      refine hK11 _ _ ?_
      refine cw_seq fun K13 hK13 => ?_
      refine cw_block ?_
      refine cw_region ?_
      refine wl_op rfl rfl (ow_vr (vr_move (v := vl) rfl) ?_)
      refine wl_op rfl rfl (ow_vr (vr_move (v := .int .i64 (i : Int)) rfl) ?_)
      refine wl_op rfl rfl (ow_vr (vr_move (v := vl) rfl) ?_)
      refine wl_op rfl rfl (ow_vr (vr_as (v' := .int .i64 ((xs.length + n : Nat) : Int)) (vr_len_v (v := vl) Tryz.underlying28 rfl hvl) (congrArg (Value.int .i64) (congrArg Nat.cast (markL_len _ _ _ _)))) ?_)
      refine wl_op rfl rfl (ow_fng (vs := [.int .i64 (i : Int), .int .i64 _, .int .i64 _]) en_78 rfl hS (book_markChanges i (xs.length + n) 1 (by omega) (by omega) (by omega)) (by repeat (first | exact needs0 | (refine needsC ?_ ?_; · (repeat (first | exact List.mem_cons_self | assumption | refine List.mem_cons_of_mem _ ?_))))) ?_)
      clear hS; rintro v31 _ w ⟨D31, rfl, ho31⟩ hS; (try simp only [List.cons_append, List.nil_append] at hS)
      refine wl_op rfl rfl (ow_appendP (v := vl) (u := v31) hS Tryz.underlying28 Tryz.underlying28 if_55 rfl (by decide) rfl rfl (by assumption) (by first | assumption | (refine Own.view ?_ (by assumption); exact fun _ => rfl) | exact OwnB.view (by assumption)) (by first | exact HasC.here | exact HasC.there (HasC.here) | exact HasC.there (HasC.there (HasC.here)) | exact HasC.there (HasC.there (HasC.there (HasC.here))) | exact HasC.there (HasC.there (HasC.there (HasC.there (HasC.here)))) | exact HasC.there (HasC.there (HasC.there (HasC.there (HasC.there (HasC.here))))) | exact HasC.there (HasC.there (HasC.there (HasC.there (HasC.there (HasC.there (HasC.here)))))) | exact HasC.there (HasC.there (HasC.there (HasC.there (HasC.there (HasC.there (HasC.there (HasC.here))))))) | exact HasC.there (HasC.there (HasC.there (HasC.there (HasC.there (HasC.there (HasC.there (HasC.there (HasC.here))))))))) (by repeat (first | exact List.mem_cons_self | assumption | refine List.mem_cons_of_mem _ ?_)) (by exact fun _ => rfl) (by exact fun _ => rfl) (by first | omega | (simp [maxLen] <;> omega) | (simp <;> omega)) (by first | omega | (simp [maxLen] <;> omega) | (simp <;> omega)) ?_)
      clear hS; intro v32 D32 w ho32 hS
      refine wl_op rfl rfl (ow_vr (vr_assign (v := v32) rfl) ?_)
      refine wl_nil ?_
      refine hK13 _ _ ?_
      replace hS := hS.tail1
      refine cw_region ?_
      refine wl_op rfl rfl (ow_vr (vr_move (v := .int .i64 (n : Int)) rfl) ?_)
      first | (refine wl_op rfl rfl (ow_vr (vr_addi rfl rfl (by unfold inI64; omega)) ?_)) | (refine wl_op rfl rfl (ow_vr (vr_add rfl rfl) ?_))
      refine wl_op rfl rfl (ow_vr (vr_assign (v := .int .i64 _) rfl) ?_)
      refine wl_nil ?_
      refine thenF_normal ⟨_, ?_, n + 1, v32, D32, _, (reb (reb (reb (reb (reb rfl rfl) rfl) rfl) rfl) rfl), ?_, rfl, hS⟩
      · omega
      · exact ⟨by omega, by rw [← Nat.add_assoc, ← markL_app]; exact ho32⟩
    · (try simp only [decide_eq_true_eq, decide_eq_false_iff_not, Bool.not_eq_true, Bool.not_eq_false, Bool.not_eq_true', Bool.not_eq_false', Bool.and_eq_true, Bool.or_eq_true, Bool.and_eq_false_iff, Bool.or_eq_false_iff, Int.not_lt, Int.not_le, gt_iff_lt, ge_iff_le, ne_eq, Decidable.not_not, beq_iff_eq] at hc)
      have hc1 := hc; clear hc
      refine cw_exit ?_
      refine hK9 _ _ ?_
      obtain rfl : n = 12 := by omega
      refine cw_region ?_
      refine wl_op rfl rfl (ow_vr (vr_move (v := vo) rfl) ?_)
      refine wl_op rfl rfl (ow_vr (vr_move (v := vl) rfl) ?_)
      refine wl_op rfl rfl (ow_vr (vr_move (v := .int .i64 (i : Int)) rfl) ?_)
      refine wl_op rfl rfl (ow_vr (vr_move (v := vl) rfl) ?_)
      refine wl_op rfl rfl (ow_vr (vr_as (v' := .int .i64 ((xs.length + 12 : Nat) : Int)) (vr_len_v (v := vl) Tryz.underlying28 rfl hvl) (congrArg (Value.int .i64) (congrArg Nat.cast (markL_len _ _ _ _)))) ?_)
      refine wl_op rfl rfl (ow_fng (vs := [.int .i64 (i : Int), .int .i64 _, .int .i64 _]) en_78 rfl hS (book_markChanges i (xs.length + 12) 60 (by omega) (by omega) (by omega)) (by repeat (first | exact needs0 | (refine needsC ?_ ?_; · (repeat (first | exact List.mem_cons_self | assumption | refine List.mem_cons_of_mem _ ?_))))) ?_)
      clear hS; rintro v38 _ w ⟨D38, rfl, ho38⟩ hS; (try simp only [List.cons_append, List.nil_append] at hS)
      refine wl_op rfl rfl (ow_appendP (v := vl) (u := v38) hS Tryz.underlying28 Tryz.underlying28 if_55 rfl (by decide) rfl rfl (by assumption) (by first | assumption | (refine Own.view ?_ (by assumption); exact fun _ => rfl) | exact OwnB.view (by assumption)) (by first | exact HasC.here | exact HasC.there (HasC.here) | exact HasC.there (HasC.there (HasC.here)) | exact HasC.there (HasC.there (HasC.there (HasC.here))) | exact HasC.there (HasC.there (HasC.there (HasC.there (HasC.here)))) | exact HasC.there (HasC.there (HasC.there (HasC.there (HasC.there (HasC.here))))) | exact HasC.there (HasC.there (HasC.there (HasC.there (HasC.there (HasC.there (HasC.here)))))) | exact HasC.there (HasC.there (HasC.there (HasC.there (HasC.there (HasC.there (HasC.there (HasC.here))))))) | exact HasC.there (HasC.there (HasC.there (HasC.there (HasC.there (HasC.there (HasC.there (HasC.there (HasC.here))))))))) (by repeat (first | exact List.mem_cons_self | assumption | refine List.mem_cons_of_mem _ ?_)) (by exact fun _ => rfl) (by exact fun _ => rfl) (by first | omega | (simp [maxLen] <;> omega) | (simp <;> omega)) (by first | omega | (simp [maxLen] <;> omega) | (simp <;> omega)) ?_)
      clear hS; intro v39 D39 w ho39 hS
      rw [markL_app] at ho39
      have hv39 := ho39.view (by exact fun _ => rfl)
      have hv0 := ho39.old (by exact fun _ => rfl)
      obtain ⟨s9, rfl⟩ := hv39.sl
      refine wl_op rfl rfl (ow_buildSliceD (m := 1) (len := 1) (vs := [.slice _ _ _]) (cs := [.slice _ _ _]) hS Tryz.underlying32 if_28 rfl (by decide) (by decide) rfl rfl (by simp [Value.cells]) rfl ?_)
      clear hS; intro b40 w hS
      refine wl_op rfl rfl (ow_append (v := vo) hS Tryz.underlying32 Tryz.underlying32 if_28 rfl (by decide) rfl rfl (by assumption) (View.single (x := s9) rfl rfl (by decide)) (by first | exact HasC.here | exact HasC.there (HasC.here) | exact HasC.there (HasC.there (HasC.here)) | exact HasC.there (HasC.there (HasC.there (HasC.here))) | exact HasC.there (HasC.there (HasC.there (HasC.there (HasC.here)))) | exact HasC.there (HasC.there (HasC.there (HasC.there (HasC.there (HasC.here))))) | exact HasC.there (HasC.there (HasC.there (HasC.there (HasC.there (HasC.there (HasC.here)))))) | exact HasC.there (HasC.there (HasC.there (HasC.there (HasC.there (HasC.there (HasC.there (HasC.here))))))) | exact HasC.there (HasC.there (HasC.there (HasC.there (HasC.there (HasC.there (HasC.there (HasC.there (HasC.here))))))))) (by repeat (first | exact List.mem_cons_self | assumption | refine List.mem_cons_of_mem _ ?_)) (by exact fun _ => rfl) (by exact fun _ => rfl) (by first | omega | (simp [maxLen] <;> omega) | (simp <;> omega)) (by first | omega | (simp [maxLen] <;> omega) | (simp <;> omega)) ?_)
      clear hS; intro v41 D41 w ho41 hS
      refine wl_op rfl rfl (ow_vr (vr_assign (v := v41) rfl) ?_)
      refine wl_nil ?_
      refine hK7 _ _ ?_
      replace hS := hS.tail1
      have hg3 : ViewL 2 encC (gs ++ [s9]) ((marks mkC 72 0 xss).take (i + 1)) (D39 ++ Dg) := by rw [take_snoc hx3]; exact (hg1.mono fun u hu => by simp [hu]).snoc (hv39.mono fun u hu => by simp [hu])
      have hg4 : ViewL 2 encC (vs.take (i + 1)) ((marks mkC 0 0 xss).take (i + 1)) (D39 ++ Dg) := by rw [take_snoc hx2, take_snoc hs]; exact (hg2.mono fun u hu => by simp [hu]).snoc (hv0.mono fun u hu => by simp [hu])
      replace hS : Sat E (D38 :: D41 :: D2 :: (D39 ++ Dg) :: [(p, .cells ([c0, c1, c2, c3, vb, vw, c6, c7, c8, c9, c10, c11] : List Value).toArray 37 (0, 0))] :: Db :: F) w := hS.perm (by classical exact List.perm_iff_count.2 fun x => by simp only [List.flatten_cons, List.flatten_nil, List.count_append, List.append_nil]; omega)
      replace hS := hS.tail1
      refine cw_region ?_
      refine wl_op rfl rfl (ow_vr (vr_move (v := .int .i64 (i : Int)) rfl) ?_)
      first | (refine wl_op rfl rfl (ow_vr (vr_addi rfl rfl (by unfold inI64; omega)) ?_)) | (refine wl_op rfl rfl (ow_vr (vr_add rfl rfl) ?_))
      refine wl_op rfl rfl (ow_vr (vr_assign (v := .int .i64 _) rfl) ?_)
      refine wl_nil ?_
      refine thenF_normal ⟨_, ?_, i + 1, v41, gs ++ [s9], D41, (D39 ++ Dg), D2, _, (reb (reb (reb rfl rfl) rfl) rfl), ?_, rfl, hS⟩
      · omega
      · exact ⟨by omega, ho41, hg3, hg4, hr2⟩
  · (try simp only [decide_eq_true_eq, decide_eq_false_iff_not, Bool.not_eq_true, Bool.not_eq_false, Bool.not_eq_true', Bool.not_eq_false', Bool.and_eq_true, Bool.or_eq_true, Bool.and_eq_false_iff, Bool.or_eq_false_iff, Int.not_lt, Int.not_le, gt_iff_lt, ge_iff_le, ne_eq, Decidable.not_not, beq_iff_eq] at hc)
    have hc0 := hc; clear hc
    refine cw_exit ?_
    refine hK3 _ _ ?_
    refine cw_seq fun K14 hK14 => ?_
    refine cw_region ?_
    refine wl_op rfl rfl (ow_vr (vr_move (v := vo) rfl) ?_)
    refine wl_op rfl rfl (ow_vr (vr_assign (v := vo) rfl) ?_)
    refine wl_nil ?_
    refine hK14 _ _ ?_
    refine cw_ret ?_
    refine ret_one (fn := Tryz.f47) (n := 43) (t := 2) (.inl rfl) rfl rfl ?_
    refine ⟨[[(p, .cells ([c0, c1, c2, c3, vb, vw, c6, c7, c8, c9, c10, c11] : List Value).toArray 37 (0, 0))], Do ++ (Dg ++ Db)], ⟨_, rfl, ⟨hl, hls, vs, hvb.mono fun u hu => by simp [hu], ?_⟩, hl, hls, gs, (hoo.view (by exact fun _ => rfl)).mono fun u hu => by simp [hu], ?_⟩, ?_⟩
    · rw [show vs.take i = vs from List.take_of_length_le (by omega), List.take_of_length_le (by rw [marks_len]; omega)] at hg2
      exact hg2.mono fun u hu => by simp [hu]
    · rw [List.take_of_length_le (by rw [marks_len]; omega)] at hg1
      exact hg1.mono fun u hu => by simp [hu]
    · have hi2 : i = xss.length := by omega
      exact (hS.perm (Δ := Dr :: [(p, .cells ([c0, c1, c2, c3, vb, vw, c6, c7, c8, c9, c10, c11] : List Value).toArray 37 (0, 0))] :: (Do ++ (Dg ++ Db)) :: F) (by classical exact List.perm_iff_count.2 fun x => by simp only [List.flatten_cons, List.flatten_nil, List.count_append, List.append_nil]; omega)).tail1
end
theorem book_markedChanges {e : Nat} {v : Value} {xss : List (List (Int × Int))} {D : Chunk} (he : e ≤ 100) (hg : Grwn 2 encC mkC e v xss D) :
    FnG Tryz.prog 53 [v] [D] (fun r Δs => r = .bool true ∧ Δs = []) := by
  refine FnG.mk fun E F w hS hF => ?_
  have hF0 : D ∈ F := hF _ (by simp)
  obtain ⟨hl, hls, vs, hvb, hvs⟩ := hg
  have hlb := hvs.1
  rw [marks_len] at hlb
  refine returns_enter Tryz.func53 rfl Tryz.ntmps53 rfl ?_
  refine cw_seq fun K1 hK1 => ?_
  refine cw_region ?_
  refine wl_op rfl rfl (ow_vr (vr_assign (v := .bool false) rfl) ?_)
  refine wl_nil ?_
  refine hK1 _ _ ?_
  refine cw_seq fun K2 hK2 => ?_
  refine cw_seq fun K3 hK3 => ?_
  refine cw_region ?_
  refine wl_op rfl rfl (ow_vr (vr_assign (v := .int .i64 0) rfl) ?_)
  refine wl_nil ?_
  refine hK3 _ _ ?_
  refine cw_block ?_
  refine cw_loop (fun m f w => ∃ (i : Nat) (g : Nat → Value), f = (upd (upd g 0 (v)) 3 (.int .i64 (i : Int))) ∧ (i ≤ xss.length) ∧ m = xss.length - i ∧ Sat E (F) w) ⟨0, _, (reb (reb rfl rfl) rfl), ?_, rfl, hS⟩ ?_
  · omega
  clear hS; rintro m f w ⟨i, g, rfl, hI0, rfl, hS⟩
  refine cw_seq fun K4 hK4 => ?_
  refine cw_seq fun K5 hK5 => ?_
  refine cw_region ?_
  refine wl_op rfl rfl (ow_vr (vr_move (v := .int .i64 (i : Int)) rfl) ?_)
  refine wl_op rfl rfl (ow_vr (vr_move (v := v) rfl) ?_)
  refine wl_op rfl rfl (ow_vr (vr_len_v (v := v) Tryz.underlying32 rfl hvb) ?_)
  refine wl_op rfl rfl (ow_vr (vr_lss rfl rfl) ?_)
  refine wl_nil ?_
  refine hK5 _ _ ?_
  refine cw_cond rfl rfl (fun hc => ?_) (fun hc => ?_)
  · (try simp only [decide_eq_true_eq, decide_eq_false_iff_not, Bool.not_eq_true, Bool.not_eq_false, Bool.not_eq_true', Bool.not_eq_false', Bool.and_eq_true, Bool.or_eq_true, Bool.and_eq_false_iff, Bool.or_eq_false_iff, Int.not_lt, Int.not_le, gt_iff_lt, ge_iff_le, ne_eq, Decidable.not_not, beq_iff_eq] at hc)
    have hc0 := hc; clear hc
    refine cw_skip ?_
    refine hK4 _ _ ?_
    refine cw_seq fun K6 hK6 => ?_
    refine cw_block ?_
    refine cw_seq fun K7 hK7 => ?_
    obtain ⟨s, hs⟩ := get_lt (xs := vs) (k := i) (by omega)
    obtain ⟨xs, hx1⟩ := get_lt (xs := xss) (k := i) (by omega)
    have hln := hls xs (List.mem_of_getElem? hx1)
    have hvi := hvs.2 i s _ hs (marks_get0 mkC e hx1)
    have hml := markL_len mkC i 0 (xs.length + e)
    refine cw_draw_sat hS [(0, 0), (1, 0), (2, 0), (3, 1), (4, 0), (5, 0), (6, 0), (7, 0), (8, 1), (9, 0), (10, 2), (11, 2), (12, 0)] mixed (planFast_ok (by kernel_rfl)) (by rintro _ _ _ ⟨⟩) ?_
    clear hS; intro w hS
    refine pl_take rfl (yes_none rfl) (vr_move (v := v) rfl) ?_
    refine pl_take rfl (yes_none rfl) (vr_move (v := .int .i64 (i : Int)) rfl) ?_
    refine pl_take rfl (yes_none rfl) (vr_indexV (v := v) Tryz.underlying32 sz_28 rfl hvb rfl (by omega) (by omega)) ?_
    refine pl_load rfl (yes_none rfl) (lr_loadV1 (u := slv s) Tryz.underlying28 rfl rfl hvb (by repeat (first | exact List.mem_cons_self | assumption | refine List.mem_cons_of_mem _ ?_)) (hs) (by exact fun _ => rfl) (by rfl)) ?_
    refine pl_take rfl (yes_none rfl) (vr_move (v := .int .i64 (i : Int)) rfl) ?_
    refine pl_take rfl (yes_none rfl) (vr_move (v := v) rfl) ?_
    refine pl_take rfl (yes_none rfl) (vr_move (v := .int .i64 (i : Int)) rfl) ?_
    refine pl_take rfl (yes_none rfl) (vr_indexV (v := v) Tryz.underlying32 sz_28 rfl hvb rfl (by omega) (by omega)) ?_
    refine pl_load rfl (yes_none rfl) (lr_loadV1 (u := slv s) Tryz.underlying28 rfl rfl hvb (by repeat (first | exact List.mem_cons_self | assumption | refine List.mem_cons_of_mem _ ?_)) (hs) (by exact fun _ => rfl) (by rfl)) ?_
    refine pl_take rfl (yes_none rfl) (vr_as (v' := .int .i64 ((xs.length + e : Nat) : Int)) (vr_len_v (v := slv s) Tryz.underlying28 rfl hvi) (congrArg (Value.int .i64) (congrArg Nat.cast (markL_len _ _ _ _)))) ?_
    refine pl_act hS rfl (yes_none rfl) ?_
    clear hS; intro w hS
    refine (ow_fng (vs := [.int .i64 (i : Int), .int .i64 _, .int .i64 _]) en_78 rfl hS (book_markChanges i 0 (xs.length + e) (by omega) (by omega) (by omega)) (by repeat (first | exact needs0 | (refine needsC ?_ ?_; · (repeat (first | exact List.mem_cons_self | assumption | refine List.mem_cons_of_mem _ ?_))))) ?_)
    clear hS; rintro v20 _ w ⟨D20, rfl, ho20⟩ hS; (try simp only [List.cons_append, List.nil_append] at hS)
    refine ⟨by first | exact hS | exact hS.tail1 | exact hS.tail1.tail1 | exact hS.tail1.tail1.tail1, ?_⟩
    refine pl_act hS rfl (yes_none rfl) ?_
    clear hS; intro w hS
    refine (ow_fng (vs := [slv s, v20]) en_14 rfl hS (book_SameChanges _ _ _ _ _ _ hvi (ho20.view (by exact fun _ => rfl)) (by omega) (by omega)) (by repeat (first | exact needs0 | (refine needsC ?_ ?_; · (repeat (first | exact List.mem_cons_self | assumption | refine List.mem_cons_of_mem _ ?_))))) ?_)
    clear hS; rintro v21 _ w ⟨rfl, rfl⟩ hS; (try simp only [List.cons_append, List.nil_append] at hS)
    refine ⟨by first | exact hS | exact hS.tail1 | exact hS.tail1.tail1 | exact hS.tail1.tail1.tail1, ?_⟩
    refine pl_take rfl (yes_none rfl) (vr_not rfl) ?_
    refine pl_nil hS ?_
    clear hS; intro w hS
    refine hK7 _ _ ?_
    refine cw_cond_f rfl rfl (by simp) ?_
    refine cw_skip ?_
    refine hK6 _ _ ?_
    replace hS := hS.tail1
    refine cw_region ?_
    refine wl_op rfl rfl (ow_vr (vr_move (v := .int .i64 (i : Int)) rfl) ?_)
    first | (refine wl_op rfl rfl (ow_vr (vr_addi rfl rfl (by unfold inI64; omega)) ?_)) | (refine wl_op rfl rfl (ow_vr (vr_add rfl rfl) ?_))
    refine wl_op rfl rfl (ow_vr (vr_assign (v := .int .i64 _) rfl) ?_)
    refine wl_nil ?_
    refine thenF_normal ⟨_, ?_, i + 1, _, (reb (reb rfl rfl) rfl), ?_, rfl, hS⟩
    · omega
    · omega
  · (try simp only [decide_eq_true_eq, decide_eq_false_iff_not, Bool.not_eq_true, Bool.not_eq_false, Bool.not_eq_true', Bool.not_eq_false', Bool.and_eq_true, Bool.or_eq_true, Bool.and_eq_false_iff, Bool.or_eq_false_iff, Int.not_lt, Int.not_le, gt_iff_lt, ge_iff_le, ne_eq, Decidable.not_not, beq_iff_eq] at hc)
    have hc0 := hc; clear hc
    refine cw_exit ?_
    refine hK2 _ _ ?_
    refine cw_seq fun K8 hK8 => ?_
    refine cw_region ?_
    refine wl_op rfl rfl (ow_vr (vr_assign (v := .bool true) rfl) ?_)
    refine wl_nil ?_
    refine hK8 _ _ ?_
    refine cw_ret ?_
    refine ret_one (fn := Tryz.f53) (n := 23) (t := 2) (.inl rfl) rfl rfl ?_
    exact ⟨[], ⟨rfl, rfl⟩, hS⟩
end Go.Proofs.YtjcagoighpmdkaaGreatDoor
