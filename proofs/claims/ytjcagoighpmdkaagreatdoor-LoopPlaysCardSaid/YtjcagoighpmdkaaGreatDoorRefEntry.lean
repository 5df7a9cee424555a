/- Groups of entries: of every number, and what the document says of them. -/
import Derived.Test.YtjcagoighpmdkaaGreatDoorEntrySec
namespace Go.Proofs.YtjcagoighpmdkaaGreatDoor
open Go Go.RowKit
set_option linter.unusedVariables false
set_option linter.unusedSimpArgs false
attribute [local irreducible] actF WL CW OW PL SW VR LR yes Returns Fn
theorem right_lsn {e : Entr} (h : rightE e = true) : 0 ≤ e.lsn ∧ e.lsn < 4294967296 := by
  simp [rightE, okN] at h
  omega
theorem groupL_get (lsn ep : Int) (l : List (Int × Int)) {k : Nat} {c : Int × Int} (h : l[k]? = some c) : (groupL lsn ep l)[k]? = some ⟨1, lsn + (k : Int), ep, c.1, c.2⟩ := by
  have hk := lt_get h
  rw [groupL, List.getElem?_append_left (by rw [chE_length]; exact hk)]
  have h1 : l = l.take (k + 1) ++ l.drop (k + 1) := (List.take_append_drop _ _).symm
  have key : ∀ (l1 l2 : List (Int × Int)) (a : Int) (j : Nat), j < l1.length → (chE ep a (l1 ++ l2))[j]? = (chE ep a l1)[j]? := by
    intro l1
    induction l1 with
    | nil => intro l2 a j hj; simp at hj
    | cons d l1 ih => intro l2 a j hj; cases j with
      | zero => simp [chE]
      | succ j => simp only [List.cons_append, chE, List.getElem?_cons_succ]; exact ih l2 _ j (by simpa using hj)
  rw [h1, key _ _ _ _ (by simp; omega), take_snoc h, chE_snoc, List.getElem?_append_right (by rw [chE_length]; simp; omega), chE_length]
  simp [show min k l.length = k by omega]
theorem groupL_end (lsn ep : Int) (l : List (Int × Int)) : (groupL lsn ep l)[l.length]? = some ⟨2, lsn + (l.length : Int), ep, (l.length : Int), 0⟩ := by
  rw [groupL, List.getElem?_append_right (by rw [chE_length]; omega), chE_length]; simp
theorem group_bad {lsn ep : Int} {l : List (Int × Int)} (h : ¬ (0 ≤ lsn ∧ lsn < 4294967296)) : (groupL lsn ep l).all rightE = false := by
  rw [List.all_eq_false]
  cases l with
  | nil => exact ⟨_, List.mem_of_getElem? (groupL_end lsn ep []), fun h2 => h (by have := right_lsn h2; simp at this; exact this)⟩
  | cons c l => exact ⟨_, List.mem_of_getElem? (groupL_get lsn ep (c :: l) (k := 0) rfl), fun h2 => h (by have := right_lsn h2; simp at this; exact this)⟩
theorem first_snoc {lsn : Int} {es : List Entr} {y : Entr} (h : ∀ x, es[0]? = some x → x.lsn = lsn) (hy : es.length = 0 → y.lsn = lsn) : ∀ x, (es ++ [y])[0]? = some x → x.lsn = lsn := by
  intro x hx
  cases es with
  | nil => simp at hx; subst hx; exact hy rfl
  | cons z es => exact h x (by simpa using hx)
theorem entry_GroupF (lsn ep : Int) (l : List (Int × Int)) (v : Value) (Δ : Chunk) (hv : View 2 encC v l Δ) (hn : l.length ≤ 1000000) (hi : inI64 lsn) (hbad : ¬ (0 ≤ lsn ∧ lsn < 4294967296)) :
    FnG Tryz.prog 25 [.int .i64 lsn, .int .i64 ep, v] [Δ] (fun u Δs => u = .tuple #[.slice none 0 0, .bool false] ∧ Δs = []) := by
  refine FnG.mk fun E F w hS hF => ?_
  have hF0 : Δ ∈ F := hF _ (by simp)
  refine returns_enter Tryz.func25 rfl Tryz.ntmps25 rfl ?_
  refine cw_seq fun K1 hK1 => ?_
  refine cw_region ?_
  refine wl_op rfl rfl (ow_vr (vr_assign (v := .slice none 0 0) rfl) ?_)
  refine wl_op rfl rfl (ow_vr (vr_assign (v := .bool false) rfl) ?_)
  refine wl_nil ?_
  refine hK1 _ _ ?_
  refine cw_seq fun K2 hK2 => ?_
  refine cw_region ?_
  refine wl_op rfl rfl (ow_vr (vr_assign (v := .slice none 0 0) rfl) ?_)
  refine wl_nil ?_
  refine hK2 _ _ ?_
  refine cw_seq fun K3 hK3 => ?_
  refine cw_seq fun K4 hK4 => ?_
  have hS := Sat.nilc.2 hS
  refine cw_region ?_
  refine wl_op rfl rfl (ow_vr (vr_move (v := v) rfl) ?_)
  first | (refine wl_op rfl rfl (ow_vr (vr_len_sl Tryz.underlying28 rfl) ?_)) | (refine wl_op rfl rfl (ow_vr (vr_len_v (v := v) Tryz.underlying28 rfl (by first | assumption | (refine Own.view ?_ (by assumption); exact fun _ => rfl) | exact OwnB.view (by assumption))) ?_))
  refine wl_op rfl rfl (ow_vr (vr_move (v := .int .i64 0) rfl) ?_)
  refine wl_nil ?_
  refine hK4 _ _ ?_
  refine cw_block ?_
  refine cw_loop (fun m f w => ∃ (k : Nat) (v8 : Value) (D8 : Chunk) (es : List Entr) (g : Nat → Value), f = (upd (upd (upd (upd (upd (upd (upd g 0 (.int .i64 lsn)) 1 (.int .i64 ep)) 2 (v)) 8 (v8)) 13 (v)) 14 (.int .i64 (l.length : Int))) 15 (.int .i64 (k : Int))) ∧ (k ≤ l.length ∧ Own 74 5 encE v8 es D8 ∧ es.length = k ∧ (∀ x, es[0]? = some x → x.lsn = lsn)) ∧ m = l.length - k ∧ Sat E (D8 :: F) w) ⟨0, .slice none 0 0, [], [], _, (reb (reb (reb (reb (reb (reb (reb rfl rfl) rfl) rfl) rfl) rfl) rfl) rfl), ?_, rfl, hS⟩ ?_
  · exact ⟨by omega, Own.nil, rfl, by simp⟩
  clear hS; rintro m f w ⟨k, v8, D8, es, g, rfl, hI0, rfl, hS⟩
  obtain ⟨hk, ho8, hel, hfst⟩ := hI0
  refine cw_seq fun K5 hK5 => ?_
  refine cw_region ?_
  refine wl_op rfl rfl (ow_vr (vr_lss rfl rfl) ?_)
  refine wl_nil ?_
  refine hK5 _ _ ?_
  refine cw_seq fun K6 hK6 => ?_
  refine cw_cond rfl rfl (fun hc => ?_) (fun hc => ?_)
  · (try simp only [decide_eq_true_eq, decide_eq_false_iff_not, Bool.not_eq_true, Bool.not_eq_false, Bool.not_eq_true', Bool.not_eq_false', Bool.and_eq_true, Bool.or_eq_true, Bool.and_eq_false_iff, Bool.or_eq_false_iff, Int.not_lt, Int.not_le, gt_iff_lt, ge_iff_le, ne_eq, Decidable.not_not, beq_iff_eq] at hc)
    have hc0 := hc; clear hc
    refine cw_skip ?_
    refine hK6 _ _ ?_
    refine cw_seq fun K7 hK7 => ?_
    refine cw_block ?_
    refine cw_seq fun K8 hK8 => ?_
    obtain ⟨c, hc⟩ := get_lt (xs := l) (k := k) (by omega)
    refine cw_region ?_
    refine wl_op rfl rfl (ow_vr (vr_move (v := .int .i64 (k : Int)) rfl) ?_)
    first | (refine wl_op rfl rfl (ow_vr (vr_indexAddr Tryz.underlying28 sz_55 rfl rfl (by omega) (by omega)) ?_)) | (refine wl_op rfl rfl (ow_vr (vr_indexV (v := v) Tryz.underlying28 sz_55 rfl (by first | assumption | (refine Own.view ?_ (by assumption); exact fun _ => rfl) | exact OwnB.view (by assumption)) rfl (by omega) (by first | omega | (simp <;> omega))) ?_))
    refine wl_op rfl rfl (ow_lr (S := Sat _ _) (lr_loadVA (cs := [.int .i64 _, .int .i64 _]) Tryz.underlying55 rfl sz_55 rfl (by first | assumption | (refine Own.view ?_ (by assumption); exact fun _ => rfl) | exact OwnB.view (by assumption)) (by repeat (first | exact List.mem_cons_self | assumption | refine List.mem_cons_of_mem _ ?_)) (hc) (by exact fun _ => rfl) (by rfl)) hS ?_)
    refine wl_op rfl rfl (ow_alloc (cs := [_, _]) hS zr_55 rfl ?_)
    clear hS; intro b10 w hS
    refine wl_op rfl rfl (ow_vr (vr_assign (v := .int .i64 (k : Int)) rfl) ?_)
    refine wl_op rfl rfl (ow_storeA (vs := [.int .i64 _, .int .i64 _]) hS sz_55 rfl rfl rfl (by first | rfl | (simp only [List.all_cons, List.all_nil, Bool.and_true, Bool.and_eq_true]; repeat (first | refine ⟨by first | rfl | assumption, ?_⟩ | rfl | assumption))) (by first | exact Has.here | exact Has.there (Has.here) | exact Has.there (Has.there (Has.here)) | exact Has.there (Has.there (Has.there (Has.here))) | exact Has.there (Has.there (Has.there (Has.there (Has.here)))) | exact Has.there (Has.there (Has.there (Has.there (Has.there (Has.here))))) | exact Has.there (Has.there (Has.there (Has.there (Has.there (Has.there (Has.here)))))) | exact Has.there (Has.there (Has.there (Has.there (Has.there (Has.there (Has.there (Has.here)))))))) (by simp) ?_)
    clear hS; intro w hS; try simp only [putAt, List.set_cons_zero, List.set_cons_succ] at hS
    refine wl_nil ?_
    refine hK8 _ _ ?_
    refine cw_region ?_
    refine wl_op rfl rfl (ow_vr (vr_move (v := v8) rfl) ?_)
    refine wl_op rfl rfl (ow_vr (vr_move (v := .int .i64 lsn) rfl) ?_)
    refine wl_op rfl rfl (ow_vr (vr_move (v := .int .i64 (k : Int)) rfl) ?_)
    refine wl_op rfl rfl (ow_vr (vr_add rfl rfl) ?_)
    refine wl_op rfl rfl (ow_vr (vr_move (v := .int .i64 ep) rfl) ?_)
    first | (refine wl_op rfl rfl (ow_vr (vr_fieldAddr fo_55_0 rfl) ?_)) | (refine wl_op rfl rfl (ow_vr (vr_fieldAddrV fo_55_0 rfl (by first | assumption | (refine Own.view ?_ (by assumption); exact fun _ => rfl) | exact OwnB.view (by assumption)) (by first | omega | (simp <;> omega))) ?_))
    refine wl_op rfl rfl (ow_lr (S := Sat _ _) (lr_load1 Tryz.underlying3 rfl rfl (by first | exact Has.here | exact Has.there (Has.here) | exact Has.there (Has.there (Has.here)) | exact Has.there (Has.there (Has.there (Has.here))) | exact Has.there (Has.there (Has.there (Has.there (Has.here)))) | exact Has.there (Has.there (Has.there (Has.there (Has.there (Has.here))))) | exact Has.there (Has.there (Has.there (Has.there (Has.there (Has.there (Has.here)))))) | exact Has.there (Has.there (Has.there (Has.there (Has.there (Has.there (Has.there (Has.here)))))))) rfl) hS ?_)
    first | (refine wl_op rfl rfl (ow_vr (vr_fieldAddr fo_55_1 rfl) ?_)) | (refine wl_op rfl rfl (ow_vr (vr_fieldAddrV fo_55_1 rfl (by first | assumption | (refine Own.view ?_ (by assumption); exact fun _ => rfl) | exact OwnB.view (by assumption)) (by first | omega | (simp <;> omega))) ?_))
    refine wl_op rfl rfl (ow_lr (S := Sat _ _) (lr_load1 Tryz.underlying3 rfl rfl (by first | exact Has.here | exact Has.there (Has.here) | exact Has.there (Has.there (Has.here)) | exact Has.there (Has.there (Has.there (Has.here))) | exact Has.there (Has.there (Has.there (Has.there (Has.here)))) | exact Has.there (Has.there (Has.there (Has.there (Has.there (Has.here))))) | exact Has.there (Has.there (Has.there (Has.there (Has.there (Has.there (Has.here)))))) | exact Has.there (Has.there (Has.there (Has.there (Has.there (Has.there (Has.there (Has.here)))))))) rfl) hS ?_)
    refine wl_op rfl rfl (ow_vr (vr_build1 (ps := [(0, .int .i64 _), (1, .int .i64 _), (2, .int .i64 _), (3, .int .i64 _), (4, .int .i64 _)]) (vs := [.int .i64 _, .int .i64 _, .int .i64 _, .int .i64 _, .int .i64 _]) zr_74 pl_74 rfl rfl rfl rfl (by first | rfl | (simp only [List.all_cons, List.all_nil, Bool.and_true, Bool.and_eq_true]; repeat (first | refine ⟨by first | rfl | assumption, ?_⟩ | rfl | assumption)))) ?_)
    refine wl_op rfl rfl (ow_buildSliceD (m := 5) (len := 1) (vs := [.agg #[.int .i64 _, .int .i64 _, .int .i64 _, .int .i64 _, .int .i64 _]]) (cs := [.int .i64 _, .int .i64 _, .int .i64 _, .int .i64 _, .int .i64 _]) hS Tryz.underlying63 if_74 rfl (by decide) (by decide) rfl rfl (by simp [Value.cells]) rfl ?_)
    clear hS; intro b30 w hS
    refine wl_op rfl rfl (ow_append (v := v8) hS Tryz.underlying63 Tryz.underlying63 if_74 rfl (by decide) rfl rfl (by assumption) (View.single (x := (⟨1, IntKind.i64.wrap (lsn + (k : Int)), ep, c.1, c.2⟩ : Entr)) rfl rfl (by decide)) (by first | exact HasC.here | exact HasC.there (HasC.here) | exact HasC.there (HasC.there (HasC.here)) | exact HasC.there (HasC.there (HasC.there (HasC.here))) | exact HasC.there (HasC.there (HasC.there (HasC.there (HasC.here)))) | exact HasC.there (HasC.there (HasC.there (HasC.there (HasC.there (HasC.here))))) | exact HasC.there (HasC.there (HasC.there (HasC.there (HasC.there (HasC.there (HasC.here)))))) | exact HasC.there (HasC.there (HasC.there (HasC.there (HasC.there (HasC.there (HasC.there (HasC.here))))))) | exact HasC.there (HasC.there (HasC.there (HasC.there (HasC.there (HasC.there (HasC.there (HasC.there (HasC.here))))))))) (by repeat (first | exact List.mem_cons_self | assumption | refine List.mem_cons_of_mem _ ?_)) (by exact fun _ => rfl) (by exact fun _ => rfl) (by simp [maxLen, hel] <;> omega) (by simp [maxLen, hel] <;> omega) ?_)
    clear hS; intro v31 D31 w ho31 hS
    refine wl_op rfl rfl (ow_vr (vr_assign (v := v31) rfl) ?_)
    refine wl_nil ?_
    refine hK7 _ _ ?_
    replace hS := hS.tail1.tail1
    refine cw_region ?_
    first | (refine wl_op rfl rfl (ow_vr (vr_addi rfl rfl (by unfold inI64; omega)) ?_)) | (refine wl_op rfl rfl (ow_vr (vr_add rfl rfl) ?_))
    refine wl_op rfl rfl (ow_vr (vr_move (v := .int .i64 _) rfl) ?_)
    refine wl_nil ?_
    refine thenF_normal ⟨_, ?_, k + 1, v31, D31, es ++ [(⟨1, IntKind.i64.wrap (lsn + (k : Int)), ep, c.1, c.2⟩ : Entr)], _, (reb (reb (reb (reb (reb (reb (reb rfl rfl) rfl) rfl) rfl) rfl) rfl) rfl), ?_, rfl, hS⟩
    · omega
    · exact ⟨by omega, ho31, by simp [hel], first_snoc hfst (fun h => by simp only; rw [show (k : Int) = 0 by omega, Int.add_zero, wrap_i64 hi])⟩
  · (try simp only [decide_eq_true_eq, decide_eq_false_iff_not, Bool.not_eq_true, Bool.not_eq_false, Bool.not_eq_true', Bool.not_eq_false', Bool.and_eq_true, Bool.or_eq_true, Bool.and_eq_false_iff, Bool.or_eq_false_iff, Int.not_lt, Int.not_le, gt_iff_lt, ge_iff_le, ne_eq, Decidable.not_not, beq_iff_eq] at hc)
    have hc0 := hc; clear hc
    refine cw_exit ?_
    refine hK3 _ _ ?_
    refine cw_seq fun K9 hK9 => ?_
    refine cw_region ?_
    refine wl_op rfl rfl (ow_vr (vr_move (v := v8) rfl) ?_)
    refine wl_op rfl rfl (ow_vr (vr_move (v := .int .i64 lsn) rfl) ?_)
    refine wl_op rfl rfl (ow_vr (vr_move (v := v) rfl) ?_)
    first | (refine wl_op rfl rfl (ow_vr (vr_len_sl Tryz.underlying28 rfl) ?_)) | (refine wl_op rfl rfl (ow_vr (vr_len_v (v := v) Tryz.underlying28 rfl (by first | assumption | (refine Own.view ?_ (by assumption); exact fun _ => rfl) | exact OwnB.view (by assumption))) ?_))
    refine wl_op rfl rfl (ow_vr (vr_add rfl rfl) ?_)
    refine wl_op rfl rfl (ow_vr (vr_move (v := .int .i64 ep) rfl) ?_)
    refine wl_op rfl rfl (ow_vr (vr_move (v := v) rfl) ?_)
    first | (refine wl_op rfl rfl (ow_vr (vr_len_sl Tryz.underlying28 rfl) ?_)) | (refine wl_op rfl rfl (ow_vr (vr_len_v (v := v) Tryz.underlying28 rfl (by first | assumption | (refine Own.view ?_ (by assumption); exact fun _ => rfl) | exact OwnB.view (by assumption))) ?_))
    refine wl_op rfl rfl (ow_vr (vr_build (vs := [(0, .int .i64 _), (1, .int .i64 _), (2, .int .i64 _), (3, .int .i64 _)]) (cs := [.int .i64 _, .int .i64 _, .int .i64 _, .int .i64 _, .int .i64 _]) zr_74 pl_74 rfl rfl) ?_)
    refine wl_op rfl rfl (ow_buildSliceD (m := 5) (len := 1) (vs := [.agg #[.int .i64 _, .int .i64 _, .int .i64 _, .int .i64 _, .int .i64 _]]) (cs := [.int .i64 _, .int .i64 _, .int .i64 _, .int .i64 _, .int .i64 _]) hS Tryz.underlying63 if_74 rfl (by decide) (by decide) rfl rfl (by simp [Value.cells]) rfl ?_)
    clear hS; intro b42 w hS
    refine wl_op rfl rfl (ow_append (v := v8) hS Tryz.underlying63 Tryz.underlying63 if_74 rfl (by decide) rfl rfl (by assumption) (View.single (x := (⟨2, IntKind.i64.wrap (lsn + (l.length : Int)), ep, (l.length : Int), 0⟩ : Entr)) rfl rfl (by decide)) (by first | exact HasC.here | exact HasC.there (HasC.here) | exact HasC.there (HasC.there (HasC.here)) | exact HasC.there (HasC.there (HasC.there (HasC.here))) | exact HasC.there (HasC.there (HasC.there (HasC.there (HasC.here)))) | exact HasC.there (HasC.there (HasC.there (HasC.there (HasC.there (HasC.here))))) | exact HasC.there (HasC.there (HasC.there (HasC.there (HasC.there (HasC.there (HasC.here)))))) | exact HasC.there (HasC.there (HasC.there (HasC.there (HasC.there (HasC.there (HasC.there (HasC.here))))))) | exact HasC.there (HasC.there (HasC.there (HasC.there (HasC.there (HasC.there (HasC.there (HasC.there (HasC.here))))))))) (by repeat (first | exact List.mem_cons_self | assumption | refine List.mem_cons_of_mem _ ?_)) (by exact fun _ => rfl) (by exact fun _ => rfl) (by simp [maxLen, hel] <;> omega) (by simp [maxLen, hel] <;> omega) ?_)
    clear hS; intro v43 D43 w ho43 hS
    refine wl_op rfl rfl (ow_vr (vr_assign (v := v43) rfl) ?_)
    refine wl_nil ?_
    replace hS := hS.tail1
    have hf2 := first_snoc (y := (⟨2, IntKind.i64.wrap (lsn + (l.length : Int)), ep, (l.length : Int), 0⟩ : Entr)) hfst (fun h => by simp only; rw [show (l.length : Int) = 0 by omega, Int.add_zero, wrap_i64 hi])
    have hlen : 0 < (es ++ [(⟨2, IntKind.i64.wrap (lsn + (l.length : Int)), ep, (l.length : Int), 0⟩ : Entr)]).length := by simp
    generalize es ++ [(⟨2, IntKind.i64.wrap (lsn + (l.length : Int)), ep, (l.length : Int), 0⟩ : Entr)] = T at ho43 hf2 hlen
    refine hK9 _ _ ?_
    refine cw_seq fun K10 hK10 => ?_
    refine cw_seq fun K11 hK11 => ?_
    refine cw_region ?_
    refine wl_op rfl rfl (ow_vr (vr_move (v := v43) rfl) ?_)
    refine wl_op rfl rfl (ow_vr (vr_len_v (v := v43) Tryz.underlying63 rfl (Own.view (by exact fun _ => rfl) ho43)) ?_)
    refine wl_op rfl rfl (ow_vr (vr_move (v := .int .i64 0) rfl) ?_)
    refine wl_nil ?_
    refine hK11 _ _ ?_
    refine cw_block ?_
    refine cw_loop (fun m f w => ∃ (g : Nat → Value), f = (upd (upd (upd (upd g 8 (v43)) 44 (v43)) 45 (.int .i64 (T.length : Int))) 46 (.int .i64 0)) ∧ (True) ∧ m = 0 ∧ Sat E (D43 :: F) w) ⟨_, (reb (reb (reb (reb rfl rfl) rfl) rfl) rfl), ?_, rfl, hS⟩ ?_
    · trivial
    clear hS; rintro m f w ⟨g, rfl, hI1, rfl, hS⟩
    refine cw_seq fun K12 hK12 => ?_
    refine cw_region ?_
    refine wl_op rfl rfl (ow_vr (vr_lss rfl rfl) ?_)
    refine wl_nil ?_
    refine hK12 _ _ ?_
    refine cw_seq fun K13 hK13 => ?_
    refine cw_cond_t rfl rfl (by simp; omega) ?_
    refine cw_skip ?_
    refine hK13 _ _ ?_
    refine cw_seq fun K14 hK14 => ?_
    refine cw_block ?_
    refine cw_seq fun K15 hK15 => ?_
    obtain ⟨x, hx⟩ := get_lt (xs := T) (k := 0) hlen
    have hr : rightE x = false := by cases h : rightE x; rfl; exact absurd (right_lsn h) (by rw [hf2 x hx]; exact hbad)
    refine cw_region ?_
    refine wl_op rfl rfl (ow_vr (vr_indexV (v := v43) (j := 0) Tryz.underlying63 sz_74 rfl (Own.view (by exact fun _ => rfl) ho43) rfl (by omega) (by omega)) ?_)
    refine wl_op rfl rfl (ow_lr (S := Sat _ _) (lr_loadVA (cs := [.int .i64 _, .int .i64 _, .int .i64 _, .int .i64 _, .int .i64 _]) Tryz.underlying74 rfl sz_74 rfl (Own.view (by exact fun _ => rfl) ho43) (by repeat (first | exact List.mem_cons_self | assumption | refine List.mem_cons_of_mem _ ?_)) (hx) (by exact fun _ => rfl) (by rfl)) hS ?_)
    refine wl_op rfl rfl (ow_alloc (cs := [_, _, _, _, _]) hS zr_74 rfl ?_)
    clear hS; intro b12 w hS
    refine wl_op rfl rfl (ow_storeA (vs := [.int .i64 _, .int .i64 _, .int .i64 _, .int .i64 _, .int .i64 _]) hS sz_74 rfl rfl rfl (by first | rfl | (simp only [List.all_cons, List.all_nil, Bool.and_true, Bool.and_eq_true]; repeat (first | refine ⟨by first | rfl | assumption, ?_⟩ | rfl | assumption))) (by first | exact Has.here | exact Has.there (Has.here) | exact Has.there (Has.there (Has.here)) | exact Has.there (Has.there (Has.there (Has.here))) | exact Has.there (Has.there (Has.there (Has.there (Has.here)))) | exact Has.there (Has.there (Has.there (Has.there (Has.there (Has.here))))) | exact Has.there (Has.there (Has.there (Has.there (Has.there (Has.there (Has.here)))))) | exact Has.there (Has.there (Has.there (Has.there (Has.there (Has.there (Has.there (Has.here)))))))) (by simp) ?_)
    clear hS; intro w hS; try simp only [putAt, List.set_cons_zero, List.set_cons_succ] at hS
    refine wl_nil ?_
    refine hK15 _ _ ?_
    refine cw_seq fun K16 hK16 => ?_
    refine cw_region ?_
    first | (refine wl_op rfl rfl (ow_lr (S := Sat _ _) (lr_loadA (vs := [.int .i64 _, .int .i64 _, .int .i64 _, .int .i64 _, .int .i64 _]) Tryz.underlying74 rfl sz_74 rfl (by first | exact Has.here | exact Has.there (Has.here) | exact Has.there (Has.there (Has.here)) | exact Has.there (Has.there (Has.there (Has.here))) | exact Has.there (Has.there (Has.there (Has.there (Has.here)))) | exact Has.there (Has.there (Has.there (Has.there (Has.there (Has.here))))) | exact Has.there (Has.there (Has.there (Has.there (Has.there (Has.there (Has.here)))))) | exact Has.there (Has.there (Has.there (Has.there (Has.there (Has.there (Has.there (Has.here)))))))) rfl rfl) hS ?_)) | (refine wl_op rfl rfl (ow_lr (S := Sat _ _) (lr_loadA (vs := [_, _, _, _, _]) Tryz.underlying74 rfl sz_74 rfl (by first | exact Has.here | exact Has.there (Has.here) | exact Has.there (Has.there (Has.here)) | exact Has.there (Has.there (Has.there (Has.here))) | exact Has.there (Has.there (Has.there (Has.there (Has.here)))) | exact Has.there (Has.there (Has.there (Has.there (Has.there (Has.here))))) | exact Has.there (Has.there (Has.there (Has.there (Has.there (Has.there (Has.here)))))) | exact Has.there (Has.there (Has.there (Has.there (Has.there (Has.there (Has.there (Has.here)))))))) rfl rfl) hS ?_))
    refine wl_op rfl rfl (ow_fn (vs := [.agg _]) en_58 rfl hS (entry_Right x.kind x.lsn x.epoch x.cell x.value) ?_)
    clear hS; rintro v51 _ w ⟨rfl, rfl⟩ hS; (try simp only [List.cons_append, List.nil_append] at hS)
    refine wl_op rfl rfl (ow_vr (vr_not rfl) ?_)
    refine wl_nil ?_
    refine hK16 _ _ ?_
    refine cw_cond_t rfl rfl (by show (!rightE x) = true; rw [hr]; rfl) ?_
    refine cw_seq fun K17 hK17 => ?_
    refine cw_region ?_
    refine wl_op rfl rfl (ow_vr (vr_assign (v := .slice none 0 0) rfl) ?_)
    refine wl_op rfl rfl (ow_vr (vr_assign (v := .bool false) rfl) ?_)
    refine wl_nil ?_
    refine hK17 _ _ ?_
    refine cw_ret ?_
    refine inB_ret (thenF_ret (thenF_ret (inB_ret (thenF_ret (?_)))))
    refine ret_two (fn := Tryz.f25) (n := 55) (t := 6) (u := 7) (.inl rfl) rfl rfl rfl ?_
    exact ⟨[], ⟨rfl, rfl⟩, hS.tail1.tail1⟩
theorem entry_GroupA (lsn ep : Int) (l : List (Int × Int)) (v : Value) (Δ : Chunk) (hv : View 2 encC v l Δ) (hn : l.length ≤ 1000000) (hi : inI64 lsn) :
    FnG Tryz.prog 25 [.int .i64 lsn, .int .i64 ep, v] [Δ] (fun u Δs => ∃ v' D, u = .tuple #[v', .bool ((groupL lsn ep l).all rightE)] ∧ Δs = [D] ∧ Own 74 5 encE v' (if (groupL lsn ep l).all rightE then groupL lsn ep l else []) D) := by
  by_cases h : 0 ≤ lsn ∧ lsn < 4294967296
  · exact entry_Group lsn ep l v Δ hv hn (by omega) (by omega)
  · rw [group_bad h]
    exact fun E F w hS hF => (entry_GroupF lsn ep l v Δ hv hn hi h E F w hS hF).mono fun u w' ⟨Δ', ⟨h1, h2⟩, h3⟩ => ⟨[[]], ⟨_, [], h1, rfl, Own.nil⟩, Sat.nilc.2 (by rw [h2] at h3; exact h3)⟩
end Go.Proofs.YtjcagoighpmdkaaGreatDoor
