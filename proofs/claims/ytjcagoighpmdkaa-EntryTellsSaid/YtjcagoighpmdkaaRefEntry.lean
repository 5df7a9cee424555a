/- Groups of entries: of every number, and what the document says of them. -/
import Derived.Test.YtjcagoighpmdkaaEntrySec
namespace Go.Proofs.Ytjcagoighpmdkaa
open Go Go.RowKit
set_option linter.unusedVariables false
set_option linter.unusedSimpArgs false
attribute [local irreducible] actF WL CW OW PL SW VR LR yes Returns Fn
theorem right_lsn {e : Entr} (h : rightE e = true) : 0 ≤ e.lsn ∧ e.lsn < 4294967296 := by
  simp [rightE, okN] at h
  omega
theorem groupL_get (lsn ep : Int) (l : List (Int × Int)) {k : Nat} {c : Int × Int} (h : l[k]? = some c) : (groupL lsn ep l)[k]? = some ⟨1, lsn + (k : Int), ep, c.1, c.2⟩ := by
  have hk := lt_get h
  rw [groupL, List.getElem?_append_left (by rw [chE_length]; exact hk)]
  have h1 : l = l.take (k + 1) ++ l.drop (k + 1) := (List.take_append_drop _ _).symm
  have key : ∀ (l1 l2 : List (Int × Int)) (a : Int) (j : Nat), j < l1.length → (chE ep a (l1 ++ l2))[j]? = (chE ep a l1)[j]? := by
    intro l1
    induction l1 with
    | nil => intro l2 a j hj; simp at hj
    | cons d l1 ih => intro l2 a j hj; cases j with
      | zero => simp [chE]
      | succ j => simp only [List.cons_append, chE, List.getElem?_cons_succ]; exact ih l2 _ j (by simpa using hj)
  rw [h1, key _ _ _ _ (by simp; omega), take_snoc h, chE_snoc, List.getElem?_append_right (by rw [chE_length]; simp; omega), chE_length]
  simp [show min k l.length = k by omega]
theorem groupL_end (lsn ep : Int) (l : List (Int × Int)) : (groupL lsn ep l)[l.length]? = some ⟨2, lsn + (l.length : Int), ep, (l.length : Int), 0⟩ := by
  rw [groupL, List.getElem?_append_right (by rw [chE_length]; omega), chE_length]; simp
theorem group_bad {lsn ep : Int} {l : List (Int × Int)} (h : ¬ (0 ≤ lsn ∧ lsn < 4294967296)) : (groupL lsn ep l).all rightE = false := by
  rw [List.all_eq_false]
  cases l with
  | nil => exact ⟨_, List.mem_of_getElem? (groupL_end lsn ep []), fun h2 => h (by have := right_lsn h2; simp at this; exact this)⟩
  | cons c l => exact ⟨_, List.mem_of_getElem? (groupL_get lsn ep (c :: l) (k := 0) rfl), fun h2 => h (by have := right_lsn h2; simp at this; exact this)⟩
theorem first_snoc {lsn : Int} {es : List Entr} {y : Entr} (h : ∀ x, es[0]? = some x → x.lsn = lsn) (hy : es.length = 0 → y.lsn = lsn) : ∀ x, (es ++ [y])[0]? = some x → x.lsn = lsn := by
  intro x hx
  cases es with
  | nil => simp at hx; subst hx; exact hy rfl
  | cons z es => exact h x (by simpa using hx)
theorem entry_GroupF (lsn ep : Int) (l : List (Int × Int)) (v : Value) (Δ : Chunk) (hv : View 2 encC v l Δ) (hn : l.length ≤ 1000000) (hi : inI64 lsn) (hbad : ¬ (0 ≤ lsn ∧ lsn < 4294967296)) :
    FnG Try.prog 14 [.int .i64 lsn, .int .i64 ep, v] [Δ] (fun u Δs => u = .tuple #[.slice none 0 0, .bool false] ∧ Δs = []) := by
  refine FnG.mk fun E F w hS hF => ?_
  have hF0 : Δ ∈ F := hF _ (by simp)
  refine returns_enter Try.func14 rfl Try.ntmps14 rfl ?_
  refine cw_seq fun K1 hK1 => ?_
  refine cw_region ?_
  refine wl_op rfl rfl (ow_vr (vr_assign (v := .slice none 0 0) rfl) ?_)
  refine wl_op rfl rfl (ow_vr (vr_assign (v := .bool false) rfl) ?_)
  refine wl_nil ?_
  refine hK1 _ _ ?_
  refine cw_seq fun K2 hK2 => ?_
  refine cw_region ?_
  refine wl_op rfl rfl (ow_vr (vr_assign (v := .slice none 0 0) rfl) ?_)
  refine wl_nil ?_
  refine hK2 _ _ ?_
  refine cw_seq fun K3 hK3 => ?_
  refine cw_seq fun K4 hK4 => ?_
  have hS := Sat.nilc.2 hS
  refine cw_region ?_
  refine wl_op rfl rfl (ow_vr (vr_move (v := v) rfl) ?_)
  first | (refine wl_op rfl rfl (ow_vr (vr_len_sl Try.underlying24 rfl) ?_)) | (refine wl_op rfl rfl (ow_vr (vr_len_v (v := v) Try.underlying24 rfl (by first | assumption | (refine Own.view ?_ (by assumption); exact fun _ => rfl) | exact OwnB.view (by assumption))) ?_))
  refine wl_op rfl rfl (ow_vr (vr_move (v := .int .i64 0) rfl) ?_)
  refine wl_nil ?_
  refine hK4 _ _ ?_
  refine cw_block ?_
  refine cw_loop (fun m f w => ∃ (k : Nat) (v8 : Value) (D8 : Chunk) (es : List Entr) (g : Nat → Value), f = (upd (upd (upd (upd (upd (upd (upd g 0 (.int .i64 lsn)) 1 (.int .i64 ep)) 2 (v)) 8 (v8)) 13 (v)) 14 (.int .i64 (l.length : Int))) 15 (.int .i64 (k : Int))) ∧ (k ≤ l.length ∧ Own 23 5 encE v8 es D8 ∧ es.length = k ∧ (∀ x, es[0]? = some x → x.lsn = lsn)) ∧ m = l.length - k ∧ Sat E (D8 :: F) w) ⟨0, .slice none 0 0, [], [], _, (reb (reb (reb (reb (reb (reb (reb rfl rfl) rfl) rfl) rfl) rfl) rfl) rfl), ?_, rfl, hS⟩ ?_
  · exact ⟨by omega, Own.nil, rfl, by simp⟩
  clear hS; rintro m f w ⟨k, v8, D8, es, g, rfl, hI0, rfl, hS⟩
  obtain ⟨hk, ho8, hel, hfst⟩ := hI0
  refine cw_seq fun K5 hK5 => ?_
  refine cw_region ?_
  refine wl_op rfl rfl (ow_vr (vr_lss rfl rfl) ?_)
  refine wl_nil ?_
  refine hK5 _ _ ?_
  refine cw_seq fun K6 hK6 => ?_
  refine cw_cond rfl rfl (fun hc => ?_) (fun hc => ?_)
  · (try simp only [decide_eq_true_eq, decide_eq_false_iff_not, Bool.not_eq_true, Bool.not_eq_false, Bool.not_eq_true', Bool.not_eq_false', Bool.and_eq_true, Bool.or_eq_true, Bool.and_eq_false_iff, Bool.or_eq_false_iff, Int.not_lt, Int.not_le, gt_iff_lt, ge_iff_le, ne_eq, Decidable.not_not, beq_iff_eq] at hc)
    have hc0 := hc; clear hc
    refine cw_skip ?_
    refine hK6 _ _ ?_
    refine cw_seq fun K7 hK7 => ?_
    refine cw_block ?_
    refine cw_seq fun K8 hK8 => ?_
    obtain ⟨c, hc⟩ := get_lt (xs := l) (k := k) (by omega)
    refine cw_region ?_
    refine wl_op rfl rfl (ow_vr (vr_move (v := .int .i64 (k : Int)) rfl) ?_)
    first | (refine wl_op rfl rfl (ow_vr (vr_indexAddr Try.underlying24 sz_71 rfl rfl (by omega) (by omega)) ?_)) | (refine wl_op rfl rfl (ow_vr (vr_indexV (v := v) Try.underlying24 sz_71 rfl (by first | assumption | (refine Own.view ?_ (by assumption); exact fun _ => rfl) | exact OwnB.view (by assumption)) rfl (by omega) (by first | omega | (simp <;> omega))) ?_))
    refine wl_op rfl rfl (ow_lr (S := Sat _ _) (lr_loadVA (cs := [.int .i64 _, .int .i64 _]) Try.underlying71 rfl sz_71 rfl (by first | assumption | (refine Own.view ?_ (by assumption); exact fun _ => rfl) | exact OwnB.view (by assumption)) (by repeat (first | exact List.mem_cons_self | assumption | refine List.mem_cons_of_mem _ ?_)) (hc) (by exact fun _ => rfl) (by rfl)) hS ?_)
    refine wl_op rfl rfl (ow_alloc (cs := [_, _]) hS zr_71 rfl ?_)
    clear hS; intro b10 w hS
    refine wl_op rfl rfl (ow_vr (vr_assign (v := .int .i64 (k : Int)) rfl) ?_)
    refine wl_op rfl rfl (ow_storeA (vs := [.int .i64 _, .int .i64 _]) hS sz_71 rfl rfl rfl (by first | rfl | (simp only [List.all_cons, List.all_nil, Bool.and_true, Bool.and_eq_true]; repeat (first | refine ⟨by first | rfl | assumption, ?_⟩ | rfl | assumption))) (by first | exact Has.here | exact Has.there (Has.here) | exact Has.there (Has.there (Has.here)) | exact Has.there (Has.there (Has.there (Has.here))) | exact Has.there (Has.there (Has.there (Has.there (Has.here)))) | exact Has.there (Has.there (Has.there (Has.there (Has.there (Has.here))))) | exact Has.there (Has.there (Has.there (Has.there (Has.there (Has.there (Has.here)))))) | exact Has.there (Has.there (Has.there (Has.there (Has.there (Has.there (Has.there (Has.here)))))))) (by simp) ?_)
    clear hS; intro w hS; try simp only [putAt, List.set_cons_zero, List.set_cons_succ] at hS
    refine wl_nil ?_
    refine hK8 _ _ ?_
    refine cw_region ?_
    refine wl_op rfl rfl (ow_vr (vr_move (v := v8) rfl) ?_)
    refine wl_op rfl rfl (ow_vr (vr_move (v := .int .i64 lsn) rfl) ?_)
    refine wl_op rfl rfl (ow_vr (vr_move (v := .int .i64 (k : Int)) rfl) ?_)
    refine wl_op rfl rfl (ow_vr (vr_add rfl rfl) ?_)
    refine wl_op rfl rfl (ow_vr (vr_move (v := .int .i64 ep) rfl) ?_)
    first | (refine wl_op rfl rfl (ow_vr (vr_fieldAddr fo_71_0 rfl) ?_)) | (refine wl_op rfl rfl (ow_vr (vr_fieldAddrV fo_71_0 rfl (by first | assumption | (refine Own.view ?_ (by assumption); exact fun _ => rfl) | exact OwnB.view (by assumption)) (by first | omega | (simp <;> omega))) ?_))
    refine wl_op rfl rfl (ow_lr (S := Sat _ _) (lr_load1 Try.underlying3 rfl rfl (by first | exact Has.here | exact Has.there (Has.here) | exact Has.there (Has.there (Has.here)) | exact Has.there (Has.there (Has.there (Has.here))) | exact Has.there (Has.there (Has.there (Has.there (Has.here)))) | exact Has.there (Has.there (Has.there (Has.there (Has.there (Has.here))))) | exact Has.there (Has.there (Has.there (Has.there (Has.there (Has.there (Has.here)))))) | exact Has.there (Has.there (Has.there (Has.there (Has.there (Has.there (Has.there (Has.here)))))))) rfl) hS ?_)
    first | (refine wl_op rfl rfl (ow_vr (vr_fieldAddr fo_71_1 rfl) ?_)) | (refine wl_op rfl rfl (ow_vr (vr_fieldAddrV fo_71_1 rfl (by first | assumption | (refine Own.view ?_ (by assumption); exact fun _ => rfl) | exact OwnB.view (by assumption)) (by first | omega | (simp <;> omega))) ?_))
    refine wl_op rfl rfl (ow_lr (S := Sat _ _) (lr_load1 Try.underlying3 rfl rfl (by first | exact Has.here | exact Has.there (Has.here) | exact Has.there (Has.there (Has.here)) | exact Has.there (Has.there (Has.there (Has.here))) | exact Has.there (Has.there (Has.there (Has.there (Has.here)))) | exact Has.there (Has.there (Has.there (Has.there (Has.there (Has.here))))) | exact Has.there (Has.there (Has.there (Has.there (Has.there (Has.there (Has.here)))))) | exact Has.there (Has.there (Has.there (Has.there (Has.there (Has.there (Has.there (Has.here)))))))) rfl) hS ?_)
    refine wl_op rfl rfl (ow_vr (vr_build (vs := [(0, .int .i64 _), (1, .int .i64 _), (2, .int .i64 _), (3, .int .i64 _), (4, .int .i64 _)]) (cs := [.int .i64 _, .int .i64 _, .int .i64 _, .int .i64 _, .int .i64 _]) zr_23 pl_23 rfl rfl) ?_)
    refine wl_op rfl rfl (ow_buildSliceD (m := 5) (len := 1) (vs := [.agg #[.int .i64 _, .int .i64 _, .int .i64 _, .int .i64 _, .int .i64 _]]) (cs := [.int .i64 _, .int .i64 _, .int .i64 _, .int .i64 _, .int .i64 _]) hS Try.underlying25 if_23 rfl (by decide) (by decide) rfl rfl (by simp [Value.cells]) rfl ?_)
    clear hS; intro b30 w hS
    refine wl_op rfl rfl (ow_append (v := v8) hS Try.underlying25 Try.underlying25 if_23 rfl (by decide) rfl rfl (by assumption) (View.single (x := (⟨1, IntKind.i64.wrap (lsn + (k : Int)), ep, c.1, c.2⟩ : Entr)) rfl rfl (by decide)) (by first | exact HasC.here | exact HasC.there (HasC.here) | exact HasC.there (HasC.there (HasC.here)) | exact HasC.there (HasC.there (HasC.there (HasC.here))) | exact HasC.there (HasC.there (HasC.there (HasC.there (HasC.here)))) | exact HasC.there (HasC.there (HasC.there (HasC.there (HasC.there (HasC.here))))) | exact HasC.there (HasC.there (HasC.there (HasC.there (HasC.there (HasC.there (HasC.here)))))) | exact HasC.there (HasC.there (HasC.there (HasC.there (HasC.there (HasC.there (HasC.there (HasC.here))))))) | exact HasC.there (HasC.there (HasC.there (HasC.there (HasC.there (HasC.there (HasC.there (HasC.there (HasC.here))))))))) (by repeat (first | exact List.mem_cons_self | assumption | refine List.mem_cons_of_mem _ ?_)) (by exact fun _ => rfl) (by exact fun _ => rfl) (by simp [maxLen, hel] <;> omega) (by simp [maxLen, hel] <;> omega) ?_)
    clear hS; intro v31 D31 w ho31 hS
    refine wl_op rfl rfl (ow_vr (vr_assign (v := v31) rfl) ?_)
    refine wl_nil ?_
    refine hK7 _ _ ?_
    replace hS := hS.tail1.tail1
    refine cw_region ?_
    first | (refine wl_op rfl rfl (ow_vr (vr_addi rfl rfl (by unfold inI64; omega)) ?_)) | (refine wl_op rfl rfl (ow_vr (vr_add rfl rfl) ?_))
    refine wl_op rfl rfl (ow_vr (vr_move (v := .int .i64 _) rfl) ?_)
    refine wl_nil ?_
    refine thenF_normal ⟨_, ?_, k + 1, v31, D31, es ++ [(⟨1, IntKind.i64.wrap (lsn + (k : Int)), ep, c.1, c.2⟩ : Entr)], _, (reb (reb (reb (reb (reb (reb (reb rfl rfl) rfl) rfl) rfl) rfl) rfl) rfl), ?_, rfl, hS⟩
    · omega
    · exact ⟨by omega, ho31, by simp [hel], first_snoc hfst (fun h => by simp only; rw [show (k : Int) = 0 by omega, Int.add_zero, wrap_i64 hi])⟩
  · (try simp only [decide_eq_true_eq, decide_eq_false_iff_not, Bool.not_eq_true, Bool.not_eq_false, Bool.not_eq_true', Bool.not_eq_false', Bool.and_eq_true, Bool.or_eq_true, Bool.and_eq_false_iff, Bool.or_eq_false_iff, Int.not_lt, Int.not_le, gt_iff_lt, ge_iff_le, ne_eq, Decidable.not_not, beq_iff_eq] at hc)
    have hc0 := hc; clear hc
    refine cw_exit ?_
    refine hK3 _ _ ?_
    refine cw_seq fun K9 hK9 => ?_
    refine cw_region ?_
    refine wl_op rfl rfl (ow_vr (vr_move (v := v8) rfl) ?_)
    refine wl_op rfl rfl (ow_vr (vr_move (v := .int .i64 lsn) rfl) ?_)
    refine wl_op rfl rfl (ow_vr (vr_move (v := v) rfl) ?_)
    first | (refine wl_op rfl rfl (ow_vr (vr_len_sl Try.underlying24 rfl) ?_)) | (refine wl_op rfl rfl (ow_vr (vr_len_v (v := v) Try.underlying24 rfl (by first | assumption | (refine Own.view ?_ (by assumption); exact fun _ => rfl) | exact OwnB.view (by assumption))) ?_))
    refine wl_op rfl rfl (ow_vr (vr_add rfl rfl) ?_)
    refine wl_op rfl rfl (ow_vr (vr_move (v := .int .i64 ep) rfl) ?_)
    refine wl_op rfl rfl (ow_vr (vr_move (v := v) rfl) ?_)
    first | (refine wl_op rfl rfl (ow_vr (vr_len_sl Try.underlying24 rfl) ?_)) | (refine wl_op rfl rfl (ow_vr (vr_len_v (v := v) Try.underlying24 rfl (by first | assumption | (refine Own.view ?_ (by assumption); exact fun _ => rfl) | exact OwnB.view (by assumption))) ?_))
    refine wl_op rfl rfl (ow_vr (vr_build (vs := [(0, .int .i64 _), (1, .int .i64 _), (2, .int .i64 _), (3, .int .i64 _)]) (cs := [.int .i64 _, .int .i64 _, .int .i64 _, .int .i64 _, .int .i64 _]) zr_23 pl_23 rfl rfl) ?_)
    refine wl_op rfl rfl (ow_buildSliceD (m := 5) (len := 1) (vs := [.agg #[.int .i64 _, .int .i64 _, .int .i64 _, .int .i64 _, .int .i64 _]]) (cs := [.int .i64 _, .int .i64 _, .int .i64 _, .int .i64 _, .int .i64 _]) hS Try.underlying25 if_23 rfl (by decide) (by decide) rfl rfl (by simp [Value.cells]) rfl ?_)
    clear hS; intro b42 w hS
    refine wl_op rfl rfl (ow_append (v := v8) hS Try.underlying25 Try.underlying25 if_23 rfl (by decide) rfl rfl (by assumption) (View.single (x := (⟨2, IntKind.i64.wrap (lsn + (l.length : Int)), ep, (l.length : Int), 0⟩ : Entr)) rfl rfl (by decide)) (by first | exact HasC.here | exact HasC.there (HasC.here) | exact HasC.there (HasC.there (HasC.here)) | exact HasC.there (HasC.there (HasC.there (HasC.here))) | exact HasC.there (HasC.there (HasC.there (HasC.there (HasC.here)))) | exact HasC.there (HasC.there (HasC.there (HasC.there (HasC.there (HasC.here))))) | exact HasC.there (HasC.there (HasC.there (HasC.there (HasC.there (HasC.there (HasC.here)))))) | exact HasC.there (HasC.there (HasC.there (HasC.there (HasC.there (HasC.there (HasC.there (HasC.here))))))) | exact HasC.there (HasC.there (HasC.there (HasC.there (HasC.there (HasC.there (HasC.there (HasC.there (HasC.here))))))))) (by repeat (first | exact List.mem_cons_self | assumption | refine List.mem_cons_of_mem _ ?_)) (by exact fun _ => rfl) (by exact fun _ => rfl) (by simp [maxLen, hel] <;> omega) (by simp [maxLen, hel] <;> omega) ?_)
    clear hS; intro v43 D43 w ho43 hS
    refine wl_op rfl rfl (ow_vr (vr_assign (v := v43) rfl) ?_)
    refine wl_nil ?_
    replace hS := hS.tail1
    have hf2 := first_snoc (y := (⟨2, IntKind.i64.wrap (lsn + (l.length : Int)), ep, (l.length : Int), 0⟩ : Entr)) hfst (fun h => by simp only; rw [show (l.length : Int) = 0 by omega, Int.add_zero, wrap_i64 hi])
    have hlen : 0 < (es ++ [(⟨2, IntKind.i64.wrap (lsn + (l.length : Int)), ep, (l.length : Int), 0⟩ : Entr)]).length := by simp
    generalize es ++ [(⟨2, IntKind.i64.wrap (lsn + (l.length : Int)), ep, (l.length : Int), 0⟩ : Entr)] = T at ho43 hf2 hlen
    refine hK9 _ _ ?_
    refine cw_seq fun K10 hK10 => ?_
    refine cw_seq fun K11 hK11 => ?_
    refine cw_region ?_
    refine wl_op rfl rfl (ow_vr (vr_move (v := v43) rfl) ?_)
    refine wl_op rfl rfl (ow_vr (vr_len_v (v := v43) Try.underlying25 rfl (Own.view (by exact fun _ => rfl) ho43)) ?_)
    refine wl_op rfl rfl (ow_vr (vr_move (v := .int .i64 0) rfl) ?_)
    refine wl_nil ?_
    refine hK11 _ _ ?_
    refine cw_block ?_
    refine cw_loop (fun m f w => ∃ (g : Nat → Value), f = (upd (upd (upd (upd g 8 (v43)) 44 (v43)) 45 (.int .i64 (T.length : Int))) 46 (.int .i64 0)) ∧ (True) ∧ m = 0 ∧ Sat E (D43 :: F) w) ⟨_, (reb (reb (reb (reb rfl rfl) rfl) rfl) rfl), ?_, rfl, hS⟩ ?_
    · trivial
    clear hS; rintro m f w ⟨g, rfl, hI1, rfl, hS⟩
    refine cw_seq fun K12 hK12 => ?_
    refine cw_region ?_
    refine wl_op rfl rfl (ow_vr (vr_lss rfl rfl) ?_)
    refine wl_nil ?_
    refine hK12 _ _ ?_
    refine cw_seq fun K13 hK13 => ?_
    refine cw_cond_t rfl rfl (by simp; omega) ?_
    refine cw_skip ?_
    refine hK13 _ _ ?_
    refine cw_seq fun K14 hK14 => ?_
    refine cw_block ?_
    refine cw_seq fun K15 hK15 => ?_
    obtain ⟨x, hx⟩ := get_lt (xs := T) (k := 0) hlen
    have hr : rightE x = false := by cases h : rightE x; rfl; exact absurd (right_lsn h) (by rw [hf2 x hx]; exact hbad)
    refine cw_region ?_
    refine wl_op rfl rfl (ow_vr (vr_indexV (v := v43) (j := 0) Try.underlying25 sz_23 rfl (Own.view (by exact fun _ => rfl) ho43) rfl (by omega) (by omega)) ?_)
    refine wl_op rfl rfl (ow_lr (S := Sat _ _) (lr_loadVA (cs := [.int .i64 _, .int .i64 _, .int .i64 _, .int .i64 _, .int .i64 _]) Try.underlying23 rfl sz_23 rfl (Own.view (by exact fun _ => rfl) ho43) (by repeat (first | exact List.mem_cons_self | assumption | refine List.mem_cons_of_mem _ ?_)) (hx) (by exact fun _ => rfl) (by rfl)) hS ?_)
    refine wl_op rfl rfl (ow_alloc (cs := [_, _, _, _, _]) hS zr_23 rfl ?_)
    clear hS; intro b12 w hS
    refine wl_op rfl rfl (ow_storeA (vs := [.int .i64 _, .int .i64 _, .int .i64 _, .int .i64 _, .int .i64 _]) hS sz_23 rfl rfl rfl (by first | rfl | (simp only [List.all_cons, List.all_nil, Bool.and_true, Bool.and_eq_true]; repeat (first | refine ⟨by first | rfl | assumption, ?_⟩ | rfl | assumption))) (by first | exact Has.here | exact Has.there (Has.here) | exact Has.there (Has.there (Has.here)) | exact Has.there (Has.there (Has.there (Has.here))) | exact Has.there (Has.there (Has.there (Has.there (Has.here)))) | exact Has.there (Has.there (Has.there (Has.there (Has.there (Has.here))))) | exact Has.there (Has.there (Has.there (Has.there (Has.there (Has.there (Has.here)))))) | exact Has.there (Has.there (Has.there (Has.there (Has.there (Has.there (Has.there (Has.here)))))))) (by simp) ?_)
    clear hS; intro w hS; try simp only [putAt, List.set_cons_zero, List.set_cons_succ] at hS
    refine wl_nil ?_
    refine hK15 _ _ ?_
    refine cw_seq fun K16 hK16 => ?_
    refine cw_region ?_
    first | (refine wl_op rfl rfl (ow_lr (S := Sat _ _) (lr_loadA (vs := [.int .i64 _, .int .i64 _, .int .i64 _, .int .i64 _, .int .i64 _]) Try.underlying23 rfl sz_23 rfl (by first | exact Has.here | exact Has.there (Has.here) | exact Has.there (Has.there (Has.here)) | exact Has.there (Has.there (Has.there (Has.here))) | exact Has.there (Has.there (Has.there (Has.there (Has.here)))) | exact Has.there (Has.there (Has.there (Has.there (Has.there (Has.here))))) | exact Has.there (Has.there (Has.there (Has.there (Has.there (Has.there (Has.here)))))) | exact Has.there (Has.there (Has.there (Has.there (Has.there (Has.there (Has.there (Has.here)))))))) rfl rfl) hS ?_)) | (refine wl_op rfl rfl (ow_lr (S := Sat _ _) (lr_loadA (vs := [_, _, _, _, _]) Try.underlying23 rfl sz_23 rfl (by first | exact Has.here | exact Has.there (Has.here) | exact Has.there (Has.there (Has.here)) | exact Has.there (Has.there (Has.there (Has.here))) | exact Has.there (Has.there (Has.there (Has.there (Has.here)))) | exact Has.there (Has.there (Has.there (Has.there (Has.there (Has.here))))) | exact Has.there (Has.there (Has.there (Has.there (Has.there (Has.there (Has.here)))))) | exact Has.there (Has.there (Has.there (Has.there (Has.there (Has.there (Has.there (Has.here)))))))) rfl rfl) hS ?_))
    refine wl_op rfl rfl (ow_fn (vs := [.agg _]) en_8 rfl hS (entry_Right x.kind x.lsn x.epoch x.cell x.value) ?_)
    clear hS; rintro _ _ w ⟨rfl, rfl⟩ hS; (try simp only [List.cons_append, List.nil_append] at hS)
    refine wl_op rfl rfl (ow_vr (vr_not rfl) ?_)
    refine wl_nil ?_
    refine hK16 _ _ ?_
    refine cw_cond_t rfl rfl (by show (!rightE x) = true; rw [hr]; rfl) ?_
    refine cw_seq fun K17 hK17 => ?_
    refine cw_region ?_
    refine wl_op rfl rfl (ow_vr (vr_assign (v := .slice none 0 0) rfl) ?_)
    refine wl_op rfl rfl (ow_vr (vr_assign (v := .bool false) rfl) ?_)
    refine wl_nil ?_
    refine hK17 _ _ ?_
    refine cw_ret ?_
    refine inB_ret (thenF_ret (thenF_ret (inB_ret (thenF_ret (?_)))))
    refine ret_two (fn := Try.f14) (n := 55) (t := 6) (u := 7) (.inl rfl) rfl rfl rfl ?_
    exact ⟨[], ⟨rfl, rfl⟩, hS.tail1.tail1⟩
theorem entry_GroupA (lsn ep : Int) (l : List (Int × Int)) (v : Value) (Δ : Chunk) (hv : View 2 encC v l Δ) (hn : l.length ≤ 1000000) (hi : inI64 lsn) :
    FnG Try.prog 14 [.int .i64 lsn, .int .i64 ep, v] [Δ] (fun u Δs => ∃ v' D, u = .tuple #[v', .bool ((groupL lsn ep l).all rightE)] ∧ Δs = [D] ∧ Own 23 5 encE v' (if (groupL lsn ep l).all rightE then groupL lsn ep l else []) D) := by
  by_cases h : 0 ≤ lsn ∧ lsn < 4294967296
  · exact entry_Group lsn ep l v Δ hv hn (by omega) (by omega)
  · rw [group_bad h]
    exact fun E F w hS hF => (entry_GroupF lsn ep l v Δ hv hn hi h E F w hS hF).mono fun u w' ⟨Δ', ⟨h1, h2⟩, h3⟩ => ⟨[[]], ⟨_, [], h1, rfl, Own.nil⟩, Sat.nilc.2 (by rw [h2] at h3; exact h3)⟩
theorem ref_Group (lsn ep : Int) (l : List (Int × Int)) (v : Value) (Δ : Chunk) (hv : View 2 encC v l Δ) (hn : l.length ≤ 1000000) :
    FnG Try.prog 15 [.int .i64 lsn, .int .i64 ep, v] [Δ] (fun u Δs => ∃ v' D, u = .tuple #[v', .bool ((groupL lsn ep l).all rightE)] ∧ Δs = [D] ∧ Own 23 5 encE v' (if (groupL lsn ep l).all rightE then groupL lsn ep l else []) D) := by
  refine FnG.mk fun E F w hS hF => ?_
  have hF0 : Δ ∈ F := hF _ (by simp)
  have hgl := groupL_length lsn ep l
  refine returns_enter Try.func15 rfl Try.ntmps15 rfl ?_
  refine cw_seq fun K1 hK1 => ?_
  refine cw_region ?_
  refine wl_op rfl rfl (ow_vr (vr_assign (v := .slice none 0 0) rfl) ?_)
  refine wl_op rfl rfl (ow_vr (vr_assign (v := .bool false) rfl) ?_)
  refine wl_nil ?_
  refine hK1 _ _ ?_
  refine cw_seq fun K2 hK2 => ?_
  refine cw_region ?_
  refine wl_op rfl rfl (ow_vr (vr_assign (v := .slice none 0 0) rfl) ?_)
  refine wl_nil ?_
  refine hK2 _ _ ?_
  refine cw_seq fun K3 hK3 => ?_
  refine cw_seq fun K4 hK4 => ?_
  have hS := Sat.nilc.2 hS
  refine cw_region ?_
  refine wl_op rfl rfl (ow_vr (vr_assign (v := .int .i64 0) rfl) ?_)
  refine wl_nil ?_
  refine hK4 _ _ ?_
  refine cw_block ?_
  refine cw_loop (fun m f w => ∃ (k : Nat) (v8 : Value) (D8 : Chunk) (g : Nat → Value), f = (upd (upd (upd (upd (upd g 0 (.int .i64 lsn)) 1 (.int .i64 ep)) 2 (v)) 8 (v8)) 9 (.int .i64 (k : Int))) ∧ (k ≤ l.length + 1 ∧ Own 23 5 encE v8 ((groupL lsn ep l).take k) D8 ∧ ((groupL lsn ep l).take k).all rightE = true) ∧ m = l.length + 1 - k ∧ Sat E (D8 :: F) w) ⟨0, .slice none 0 0, [], _, (reb (reb (reb (reb (reb rfl rfl) rfl) rfl) rfl) rfl), ?_, rfl, hS⟩ ?_
  · exact ⟨by omega, Own.nil, by simp⟩
  clear hS; rintro m f w ⟨k, v8, D8, g, rfl, hI0, rfl, hS⟩
  obtain ⟨hk, ho8, hall⟩ := hI0
  refine cw_seq fun K5 hK5 => ?_
  refine cw_seq fun K6 hK6 => ?_
  refine cw_region ?_
  refine wl_op rfl rfl (ow_vr (vr_move (v := .int .i64 (k : Int)) rfl) ?_)
  refine wl_op rfl rfl (ow_vr (vr_move (v := v) rfl) ?_)
  first | (refine wl_op rfl rfl (ow_vr (vr_len_sl Try.underlying24 rfl) ?_)) | (refine wl_op rfl rfl (ow_vr (vr_len_v (v := v) Try.underlying24 rfl (by first | assumption | (refine Own.view ?_ (by assumption); exact fun _ => rfl) | exact OwnB.view (by assumption))) ?_))
  refine wl_op rfl rfl (ow_vr (vr_leq rfl rfl) ?_)
  refine wl_nil ?_
  refine hK6 _ _ ?_
  refine cw_cond rfl rfl (fun hc => ?_) (fun hc => ?_)
  · (try simp only [decide_eq_true_eq, decide_eq_false_iff_not, Bool.not_eq_true, Bool.not_eq_false, Bool.not_eq_true', Bool.not_eq_false', Bool.and_eq_true, Bool.or_eq_true, Bool.and_eq_false_iff, Bool.or_eq_false_iff, Int.not_lt, Int.not_le, gt_iff_lt, ge_iff_le, ne_eq, Decidable.not_not, beq_iff_eq] at hc)
    have hc0 := hc; clear hc
    refine cw_skip ?_
    refine hK5 _ _ ?_
    refine cw_seq fun K7 hK7 => ?_
    refine cw_block ?_
    refine cw_seq fun K8 hK8 => ?_
    refine cw_seq fun K9 hK9 => ?_
    refine cw_region ?_
    refine wl_op rfl rfl (ow_vr (vr_move (v := .int .i64 lsn) rfl) ?_)
    refine wl_op rfl rfl (ow_vr (vr_lss rfl rfl) ?_)
    refine wl_op rfl rfl (ow_vr (vr_move (v := .bool _) rfl) ?_)
    refine wl_split 19 rfl (fun hc => ?_) (fun hc => ?_)
    · (try simp only [decide_eq_true_eq, decide_eq_false_iff_not, Bool.not_eq_true, Bool.not_eq_false, Bool.not_eq_true', Bool.not_eq_false', Bool.and_eq_true, Bool.or_eq_true, Bool.and_eq_false_iff, Bool.or_eq_false_iff, Int.not_lt, Int.not_le, gt_iff_lt, ge_iff_le, ne_eq, Decidable.not_not, beq_iff_eq] at hc)
      have hg := hc; clear hc
      refine wl_noD rfl rfl rfl rfl rfl rfl ?_
      refine wl_noD rfl rfl rfl rfl rfl rfl ?_
      refine wl_op rfl rfl (ow_vr (vr_pick (b := true) (v := .bool _) rfl rfl) ?_)
      refine wl_nil ?_
      refine hK9 _ _ ?_
      refine cw_cond_t rfl rfl (rfl) ?_
      refine cw_seq fun K10 hK10 => ?_
      have hno := group_bad (lsn := lsn) (ep := ep) (l := l) (by simp at *; omega)
      refine cw_region ?_
      refine wl_op rfl rfl (ow_vr (vr_assign (v := .slice none 0 0) rfl) ?_)
      refine wl_op rfl rfl (ow_vr (vr_assign (v := .bool false) rfl) ?_)
      refine wl_nil ?_
      refine hK10 _ _ ?_
      refine cw_ret ?_
      refine thenF_ret (inB_ret (thenF_ret (thenF_ret (inB_ret (thenF_ret (?_))))))
      refine ret_two (fn := Try.f15) (n := 57) (t := 6) (u := 7) (.inl rfl) rfl rfl rfl ?_
      exact ⟨[[]], ⟨.slice none 0 0, [], (by rw [hno] <;> rfl), rfl, (by rw [hno]; exact Own.nil)⟩, Sat.nilc.2 hS.tail1⟩
    · (try simp only [decide_eq_true_eq, decide_eq_false_iff_not, Bool.not_eq_true, Bool.not_eq_false, Bool.not_eq_true', Bool.not_eq_false', Bool.and_eq_true, Bool.or_eq_true, Bool.and_eq_false_iff, Bool.or_eq_false_iff, Int.not_lt, Int.not_le, gt_iff_lt, ge_iff_le, ne_eq, Decidable.not_not, beq_iff_eq] at hc)
      have hg := hc; clear hc
      refine wl_yes rfl rfl rfl rfl rfl (ow_vr (vr_move (v := .int .i64 lsn) rfl) ?_)
      refine wl_yes rfl rfl rfl rfl rfl (ow_vr (vr_geq rfl rfl) ?_)
      refine wl_op rfl rfl (ow_vr (vr_pick (b := false) (v := .bool _) rfl rfl) ?_)
      refine wl_nil ?_
      refine hK9 _ _ ?_
      refine cw_cond rfl rfl (fun hc => ?_) (fun hc => ?_)
      · (try simp only [decide_eq_true_eq, decide_eq_false_iff_not, Bool.not_eq_true, Bool.not_eq_false, Bool.not_eq_true', Bool.not_eq_false', Bool.and_eq_true, Bool.or_eq_true, Bool.and_eq_false_iff, Bool.or_eq_false_iff, Int.not_lt, Int.not_le, gt_iff_lt, ge_iff_le, ne_eq, Decidable.not_not, beq_iff_eq] at hc)
        have hc1 := hc; clear hc
        refine cw_seq fun K11 hK11 => ?_
        have hno := group_bad (lsn := lsn) (ep := ep) (l := l) (by simp at *; omega)
        refine cw_region ?_
        refine wl_op rfl rfl (ow_vr (vr_assign (v := .slice none 0 0) rfl) ?_)
        refine wl_op rfl rfl (ow_vr (vr_assign (v := .bool false) rfl) ?_)
        refine wl_nil ?_
        refine hK11 _ _ ?_
        refine cw_ret ?_
        refine thenF_ret (inB_ret (thenF_ret (thenF_ret (inB_ret (thenF_ret (?_))))))
        refine ret_two (fn := Try.f15) (n := 57) (t := 6) (u := 7) (.inl rfl) rfl rfl rfl ?_
        exact ⟨[[]], ⟨.slice none 0 0, [], (by rw [hno] <;> rfl), rfl, (by rw [hno]; exact Own.nil)⟩, Sat.nilc.2 hS.tail1⟩
      · (try simp only [decide_eq_true_eq, decide_eq_false_iff_not, Bool.not_eq_true, Bool.not_eq_false, Bool.not_eq_true', Bool.not_eq_false', Bool.and_eq_true, Bool.or_eq_true, Bool.and_eq_false_iff, Bool.or_eq_false_iff, Int.not_lt, Int.not_le, gt_iff_lt, ge_iff_le, ne_eq, Decidable.not_not, beq_iff_eq] at hc)
        have hc1 := hc; clear hc
        refine cw_skip ?_
        refine hK8 _ _ ?_
        refine cw_seq fun K12 hK12 => ?_
        refine cw_region ?_
        refine wl_op rfl rfl (ow_vr (vr_move (v := .int .i64 lsn) rfl) ?_)
        refine wl_op rfl rfl (ow_vr (vr_move (v := .int .i64 (k : Int)) rfl) ?_)
        first | (refine wl_op rfl rfl (ow_vr (vr_addi rfl rfl (by unfold inI64; omega)) ?_)) | (refine wl_op rfl rfl (ow_vr (vr_add rfl rfl) ?_))
        refine wl_op rfl rfl (ow_vr (vr_move (v := .int .i64 ep) rfl) ?_)
        refine wl_op rfl rfl (ow_vr (vr_move (v := v) rfl) ?_)
        refine wl_op rfl rfl (ow_vr (vr_len_v (v := v) Try.underlying24 rfl hv) ?_)
        refine wl_op rfl rfl (ow_vr (vr_build (vs := [(0, .int .i64 _), (1, .int .i64 _), (2, .int .i64 _), (3, .int .i64 _)]) (cs := [.int .i64 _, .int .i64 _, .int .i64 _, .int .i64 _, .int .i64 _]) zr_23 pl_23 rfl rfl) ?_)
        refine wl_op rfl rfl (ow_alloc (cs := [_, _, _, _, _]) hS zr_23 rfl ?_)
        clear hS; intro b10 w hS
        refine wl_op rfl rfl (ow_storeA (vs := [.int .i64 _, .int .i64 _, .int .i64 _, .int .i64 _, .int .i64 _]) hS sz_23 rfl rfl rfl (by first | rfl | (simp only [List.all_cons, List.all_nil, Bool.and_true, Bool.and_eq_true]; repeat (first | refine ⟨by first | rfl | assumption, ?_⟩ | rfl | assumption))) (by first | exact Has.here | exact Has.there (Has.here) | exact Has.there (Has.there (Has.here)) | exact Has.there (Has.there (Has.there (Has.here))) | exact Has.there (Has.there (Has.there (Has.there (Has.here)))) | exact Has.there (Has.there (Has.there (Has.there (Has.there (Has.here))))) | exact Has.there (Has.there (Has.there (Has.there (Has.there (Has.there (Has.here)))))) | exact Has.there (Has.there (Has.there (Has.there (Has.there (Has.there (Has.there (Has.here)))))))) (by simp) ?_)
        clear hS; intro w hS; try simp only [putAt, List.set_cons_zero, List.set_cons_succ] at hS
        refine wl_nil ?_
        refine hK12 _ _ ?_
        refine cw_seq fun K13 hK13 => ?_
        have hJK13 : ∀ f w, (∃ (b : Nat) (y : Entr) (g : Nat → Value), f = (upd (upd (upd (upd (upd (upd g 0 (.int .i64 lsn)) 1 (.int .i64 ep)) 2 (v)) 8 (v8)) 9 (.int .i64 (k : Int))) 10 (.pointer (some ⟨b, 0, none⟩))) ∧ ((groupL lsn ep l)[k]? = some y) ∧ Sat E ([(b, .cells [.int .i64 y.kind, .int .i64 y.lsn, .int .i64 y.epoch, .int .i64 y.cell, .int .i64 y.value].toArray 23 (0, 0))] :: D8 :: F) w) → K13 f w := by
          clear hS; rintro f w ⟨b, y, g, rfl, hj10, hS⟩
          refine hK13 _ _ ?_
          refine cw_seq fun K14 hK14 => ?_
          refine cw_seq fun K15 hK15 => ?_
          refine cw_region ?_
          first | (refine wl_op rfl rfl (ow_lr (S := Sat _ _) (lr_loadA (vs := [.int .i64 _, .int .i64 _, .int .i64 _, .int .i64 _, .int .i64 _]) Try.underlying23 rfl sz_23 rfl (by first | exact Has.here | exact Has.there (Has.here) | exact Has.there (Has.there (Has.here)) | exact Has.there (Has.there (Has.there (Has.here))) | exact Has.there (Has.there (Has.there (Has.there (Has.here)))) | exact Has.there (Has.there (Has.there (Has.there (Has.there (Has.here))))) | exact Has.there (Has.there (Has.there (Has.there (Has.there (Has.there (Has.here)))))) | exact Has.there (Has.there (Has.there (Has.there (Has.there (Has.there (Has.there (Has.here)))))))) rfl rfl) hS ?_)) | (refine wl_op rfl rfl (ow_lr (S := Sat _ _) (lr_loadA (vs := [_, _, _, _, _]) Try.underlying23 rfl sz_23 rfl (by first | exact Has.here | exact Has.there (Has.here) | exact Has.there (Has.there (Has.here)) | exact Has.there (Has.there (Has.there (Has.here))) | exact Has.there (Has.there (Has.there (Has.there (Has.here)))) | exact Has.there (Has.there (Has.there (Has.there (Has.there (Has.here))))) | exact Has.there (Has.there (Has.there (Has.there (Has.there (Has.there (Has.here)))))) | exact Has.there (Has.there (Has.there (Has.there (Has.there (Has.there (Has.there (Has.here)))))))) rfl rfl) hS ?_))
          refine wl_op rfl rfl (ow_fn (vs := [.agg _]) en_7 rfl hS (ref_Entry y) ?_)
          clear hS; rintro _ _ w ⟨rfl, rfl⟩ hS; (try simp only [List.cons_append, List.nil_append] at hS)
          refine wl_op rfl rfl (ow_vr (vr_not rfl) ?_)
          refine wl_nil ?_
          refine hK15 _ _ ?_
          refine cw_cond rfl rfl (fun hc => ?_) (fun hc => ?_)
          · (try simp only [decide_eq_true_eq, decide_eq_false_iff_not, Bool.not_eq_true, Bool.not_eq_false, Bool.not_eq_true', Bool.not_eq_false', Bool.and_eq_true, Bool.or_eq_true, Bool.and_eq_false_iff, Bool.or_eq_false_iff, Int.not_lt, Int.not_le, gt_iff_lt, ge_iff_le, ne_eq, Decidable.not_not, beq_iff_eq] at hc)
            have hr := hc; clear hc
            refine cw_seq fun K16 hK16 => ?_
            refine cw_region ?_
            refine wl_op rfl rfl (ow_vr (vr_assign (v := .slice none 0 0) rfl) ?_)
            refine wl_op rfl rfl (ow_vr (vr_assign (v := .bool false) rfl) ?_)
            refine wl_nil ?_
            refine hK16 _ _ ?_
            refine cw_ret ?_
            refine thenF_ret (inB_ret (thenF_ret (thenF_ret (inB_ret (thenF_ret (?_))))))
            refine ret_two (fn := Try.f15) (n := 57) (t := 6) (u := 7) (.inl rfl) rfl rfl rfl ?_
            exact ⟨[[]], ⟨.slice none 0 0, [], (by rw [show (groupL lsn ep l).all rightE = false from List.all_eq_false.2 ⟨y, List.mem_of_getElem? hj10, by simpa using hr⟩] <;> rfl), rfl, (by rw [show (groupL lsn ep l).all rightE = false from List.all_eq_false.2 ⟨y, List.mem_of_getElem? hj10, by simpa using hr⟩]; exact Own.nil)⟩, Sat.nilc.2 hS.tail1.tail1⟩
          · (try simp only [decide_eq_true_eq, decide_eq_false_iff_not, Bool.not_eq_true, Bool.not_eq_false, Bool.not_eq_true', Bool.not_eq_false', Bool.and_eq_true, Bool.or_eq_true, Bool.and_eq_false_iff, Bool.or_eq_false_iff, Int.not_lt, Int.not_le, gt_iff_lt, ge_iff_le, ne_eq, Decidable.not_not, beq_iff_eq] at hc)
            have hr := hc; clear hc
            refine cw_skip ?_
            refine hK14 _ _ ?_
            refine cw_region ?_
            refine wl_op rfl rfl (ow_vr (vr_move (v := v8) rfl) ?_)
            first | (refine wl_op rfl rfl (ow_lr (S := Sat _ _) (lr_loadA (vs := [.int .i64 _, .int .i64 _, .int .i64 _, .int .i64 _, .int .i64 _]) Try.underlying23 rfl sz_23 rfl (by first | exact Has.here | exact Has.there (Has.here) | exact Has.there (Has.there (Has.here)) | exact Has.there (Has.there (Has.there (Has.here))) | exact Has.there (Has.there (Has.there (Has.there (Has.here)))) | exact Has.there (Has.there (Has.there (Has.there (Has.there (Has.here))))) | exact Has.there (Has.there (Has.there (Has.there (Has.there (Has.there (Has.here)))))) | exact Has.there (Has.there (Has.there (Has.there (Has.there (Has.there (Has.there (Has.here)))))))) rfl rfl) hS ?_)) | (refine wl_op rfl rfl (ow_lr (S := Sat _ _) (lr_loadA (vs := [_, _, _, _, _]) Try.underlying23 rfl sz_23 rfl (by first | exact Has.here | exact Has.there (Has.here) | exact Has.there (Has.there (Has.here)) | exact Has.there (Has.there (Has.there (Has.here))) | exact Has.there (Has.there (Has.there (Has.there (Has.here)))) | exact Has.there (Has.there (Has.there (Has.there (Has.there (Has.here))))) | exact Has.there (Has.there (Has.there (Has.there (Has.there (Has.there (Has.here)))))) | exact Has.there (Has.there (Has.there (Has.there (Has.there (Has.there (Has.there (Has.here)))))))) rfl rfl) hS ?_))
            refine wl_op rfl rfl (ow_buildSliceD (m := 5) (len := 1) (vs := [.agg #[.int .i64 _, .int .i64 _, .int .i64 _, .int .i64 _, .int .i64 _]]) (cs := [.int .i64 _, .int .i64 _, .int .i64 _, .int .i64 _, .int .i64 _]) hS Try.underlying25 if_23 rfl (by decide) (by decide) rfl rfl (by simp [Value.cells]) rfl ?_)
            clear hS; intro b54 w hS
            refine wl_op rfl rfl (ow_append (v := v8) hS Try.underlying25 Try.underlying25 if_23 rfl (by decide) rfl rfl (by assumption) (View.single (x := y) rfl rfl (by decide)) (by first | exact HasC.here | exact HasC.there (HasC.here) | exact HasC.there (HasC.there (HasC.here)) | exact HasC.there (HasC.there (HasC.there (HasC.here))) | exact HasC.there (HasC.there (HasC.there (HasC.there (HasC.here)))) | exact HasC.there (HasC.there (HasC.there (HasC.there (HasC.there (HasC.here))))) | exact HasC.there (HasC.there (HasC.there (HasC.there (HasC.there (HasC.there (HasC.here)))))) | exact HasC.there (HasC.there (HasC.there (HasC.there (HasC.there (HasC.there (HasC.there (HasC.here))))))) | exact HasC.there (HasC.there (HasC.there (HasC.there (HasC.there (HasC.there (HasC.there (HasC.there (HasC.here))))))))) (by repeat (first | exact List.mem_cons_self | assumption | refine List.mem_cons_of_mem _ ?_)) (by exact fun _ => rfl) (by exact fun _ => rfl) (by simp [maxLen] <;> omega) (by simp [maxLen] <;> omega) ?_)
            clear hS; intro v55 D55 w ho55 hS
            refine wl_op rfl rfl (ow_vr (vr_assign (v := v55) rfl) ?_)
            refine wl_nil ?_
            refine hK7 _ _ ?_
            replace hS := hS.tail1.tail1
            refine cw_region ?_
            refine wl_op rfl rfl (ow_vr (vr_move (v := .int .i64 (k : Int)) rfl) ?_)
            first | (refine wl_op rfl rfl (ow_vr (vr_addi rfl rfl (by unfold inI64; omega)) ?_)) | (refine wl_op rfl rfl (ow_vr (vr_add rfl rfl) ?_))
            refine wl_op rfl rfl (ow_vr (vr_assign (v := .int .i64 _) rfl) ?_)
            refine wl_nil ?_
            refine thenF_normal ⟨_, ?_, k + 1, v55, D55, _, (reb (reb (reb (reb (reb rfl rfl) rfl) rfl) rfl) rfl), ?_, rfl, hS⟩
            · omega
            · exact ⟨by have := lt_get hj10; omega, by rw [take_snoc hj10]; exact ho55, by rw [take_snoc hj10, List.all_append, hall]; simpa using hr⟩
        refine cw_seq fun K17 hK17 => ?_
        refine cw_region ?_
        refine wl_op rfl rfl (ow_vr (vr_move (v := .int .i64 (k : Int)) rfl) ?_)
        refine wl_op rfl rfl (ow_vr (vr_move (v := v) rfl) ?_)
        refine wl_op rfl rfl (ow_vr (vr_len_v (v := v) Try.underlying24 rfl hv) ?_)
        refine wl_op rfl rfl (ow_vr (vr_lss rfl rfl) ?_)
        refine wl_nil ?_
        refine hK17 _ _ ?_
        refine cw_cond rfl rfl (fun hc => ?_) (fun hc => ?_)
        · (try simp only [decide_eq_true_eq, decide_eq_false_iff_not, Bool.not_eq_true, Bool.not_eq_false, Bool.not_eq_true', Bool.not_eq_false', Bool.and_eq_true, Bool.or_eq_true, Bool.and_eq_false_iff, Bool.or_eq_false_iff, Int.not_lt, Int.not_le, gt_iff_lt, ge_iff_le, ne_eq, Decidable.not_not, beq_iff_eq] at hc)
          have hc2 := hc; clear hc
          obtain ⟨c, hc⟩ := get_lt (xs := l) (k := k) (by omega)
          have hyy := groupL_get lsn ep l hc
          refine cw_draw_sat hS [(0, 0), (1, 0), (2, 0), (3, 0), (4, 0), (5, 0), (6, 0), (7, 0), (8, 1), (9, 0), (10, 0), (11, 0), (12, 0), (13, 1), (14, 0), (15, 3)] mixed (planFast_ok (by kernel_rfl)) (by rintro _ _ _ ⟨⟩) ?_
          clear hS; intro w hS
          refine pl_take rfl (yes_none rfl) (vr_move (v := .int .i64 lsn) rfl) ?_
          refine pl_take rfl (yes_none rfl) (vr_move (v := .int .i64 (k : Int)) rfl) ?_
          first | (refine pl_take rfl (yes_none rfl) (vr_addi rfl rfl (by unfold inI64; omega)) ?_) | (refine pl_take rfl (yes_none rfl) (vr_add rfl rfl) ?_)
          refine pl_take rfl (yes_none rfl) (vr_move (v := .int .i64 ep) rfl) ?_
          refine pl_take rfl (yes_none rfl) (vr_move (v := v) rfl) ?_
          refine pl_take rfl (yes_none rfl) (vr_move (v := .int .i64 (k : Int)) rfl) ?_
          first | (refine pl_take rfl (yes_none rfl) (vr_indexAddr Try.underlying24 sz_71 rfl rfl (by omega) (by omega)) ?_) | (refine pl_take rfl (yes_none rfl) (vr_indexV (v := v) Try.underlying24 sz_71 rfl (by first | assumption | (refine Own.view ?_ (by assumption); exact fun _ => rfl) | exact OwnB.view (by assumption)) rfl (by omega) (by first | omega | (simp <;> omega))) ?_)
          first | (refine pl_take rfl (yes_none rfl) (vr_fieldAddr fo_71_0 rfl) ?_) | (refine pl_take rfl (yes_none rfl) (vr_fieldAddrV fo_71_0 rfl (by first | assumption | (refine Own.view ?_ (by assumption); exact fun _ => rfl) | exact OwnB.view (by assumption)) (by first | omega | (simp <;> omega))) ?_)
          refine pl_load rfl (yes_none rfl) (lr_loadV1 (u := .int .i64 _) Try.underlying3 rfl rfl (by first | assumption | (refine Own.view ?_ (by assumption); exact fun _ => rfl) | exact OwnB.view (by assumption)) (by repeat (first | exact List.mem_cons_self | assumption | refine List.mem_cons_of_mem _ ?_)) (hc) (by exact fun _ => rfl) (by rfl)) ?_
          refine pl_take rfl (yes_none rfl) (vr_move (v := v) rfl) ?_
          refine pl_take rfl (yes_none rfl) (vr_move (v := .int .i64 (k : Int)) rfl) ?_
          first | (refine pl_take rfl (yes_none rfl) (vr_indexAddr Try.underlying24 sz_71 rfl rfl (by omega) (by omega)) ?_) | (refine pl_take rfl (yes_none rfl) (vr_indexV (v := v) Try.underlying24 sz_71 rfl (by first | assumption | (refine Own.view ?_ (by assumption); exact fun _ => rfl) | exact OwnB.view (by assumption)) rfl (by omega) (by first | omega | (simp <;> omega))) ?_)
          first | (refine pl_take rfl (yes_none rfl) (vr_fieldAddr fo_71_1 rfl) ?_) | (refine pl_take rfl (yes_none rfl) (vr_fieldAddrV fo_71_1 rfl (by first | assumption | (refine Own.view ?_ (by assumption); exact fun _ => rfl) | exact OwnB.view (by assumption)) (by first | omega | (simp <;> omega))) ?_)
          refine pl_load rfl (yes_none rfl) (lr_loadV1 (u := .int .i64 _) Try.underlying3 rfl rfl (by first | assumption | (refine Own.view ?_ (by assumption); exact fun _ => rfl) | exact OwnB.view (by assumption)) (by repeat (first | exact List.mem_cons_self | assumption | refine List.mem_cons_of_mem _ ?_)) (hc) (by exact fun _ => rfl) (by rfl)) ?_
          refine pl_take rfl (yes_none rfl) (vr_build (vs := [(0, .int .i64 _), (1, .int .i64 _), (2, .int .i64 _), (3, .int .i64 _), (4, .int .i64 _)]) (cs := [.int .i64 _, .int .i64 _, .int .i64 _, .int .i64 _, .int .i64 _]) zr_23 pl_23 rfl rfl) ?_
          refine pl_end hS rfl (yes_none rfl) ?_
          clear hS; intro w hS
          refine (ow_storeA (vs := [.int .i64 _, .int .i64 _, .int .i64 _, .int .i64 _, .int .i64 _]) hS sz_23 rfl rfl rfl (by first | rfl | (simp only [List.all_cons, List.all_nil, Bool.and_true, Bool.and_eq_true]; repeat (first | refine ⟨by first | rfl | assumption, ?_⟩ | rfl | assumption))) (by first | exact Has.here | exact Has.there (Has.here) | exact Has.there (Has.there (Has.here)) | exact Has.there (Has.there (Has.there (Has.here))) | exact Has.there (Has.there (Has.there (Has.there (Has.here)))) | exact Has.there (Has.there (Has.there (Has.there (Has.there (Has.here))))) | exact Has.there (Has.there (Has.there (Has.there (Has.there (Has.there (Has.here)))))) | exact Has.there (Has.there (Has.there (Has.there (Has.there (Has.there (Has.there (Has.here)))))))) (by simp) ?_)
          clear hS; intro w hS; try simp only [putAt, List.set_cons_zero, List.set_cons_succ] at hS
          refine pl_nil hS ?_
          clear hS; intro w hS
          refine hJK13 _ _ ⟨b10, ⟨1, lsn + (k : Int), ep, c.1, c.2⟩, _, (reb (reb (reb (reb (reb (reb rfl rfl) rfl) rfl) rfl) rfl) rfl), ?_, hS⟩
          first | exact hyy | (rw [show k = l.length by omega]; exact groupL_end lsn ep l)
        · (try simp only [decide_eq_true_eq, decide_eq_false_iff_not, Bool.not_eq_true, Bool.not_eq_false, Bool.not_eq_true', Bool.not_eq_false', Bool.and_eq_true, Bool.or_eq_true, Bool.and_eq_false_iff, Bool.or_eq_false_iff, Int.not_lt, Int.not_le, gt_iff_lt, ge_iff_le, ne_eq, Decidable.not_not, beq_iff_eq] at hc)
          have hc2 := hc; clear hc
          refine cw_skip ?_
          refine hJK13 _ _ ⟨b10, ⟨2, lsn + (k : Int), ep, (l.length : Int), 0⟩, _, (reb (reb (reb (reb (reb (reb rfl rfl) rfl) rfl) rfl) rfl) rfl), ?_, hS⟩
          first | exact hyy | (rw [show k = l.length by omega]; exact groupL_end lsn ep l)
  · (try simp only [decide_eq_true_eq, decide_eq_false_iff_not, Bool.not_eq_true, Bool.not_eq_false, Bool.not_eq_true', Bool.not_eq_false', Bool.and_eq_true, Bool.or_eq_true, Bool.and_eq_false_iff, Bool.or_eq_false_iff, Int.not_lt, Int.not_le, gt_iff_lt, ge_iff_le, ne_eq, Decidable.not_not, beq_iff_eq] at hc)
    have hc0 := hc; clear hc
    refine cw_exit ?_
    refine hK3 _ _ ?_
    refine cw_seq fun K18 hK18 => ?_
    obtain rfl : k = l.length + 1 := by omega
    rw [← hgl, List.take_length] at hall ho8
    refine cw_region ?_
    refine wl_op rfl rfl (ow_vr (vr_move (v := v8) rfl) ?_)
    refine wl_op rfl rfl (ow_vr (vr_assign (v := v8) rfl) ?_)
    refine wl_op rfl rfl (ow_vr (vr_assign (v := .bool true) rfl) ?_)
    refine wl_nil ?_
    refine hK18 _ _ ?_
    refine cw_ret ?_
    refine ret_two (fn := Try.f15) (n := 57) (t := 6) (u := 7) (.inl rfl) rfl rfl rfl ?_
    exact ⟨[D8], ⟨v8, D8, (by rw [hall] <;> rfl), rfl, (by rw [hall]; exact ho8)⟩, hS⟩
theorem ref_Changes (es : List Entr) (v : Value) (Δ : Chunk) (hv : View 5 encE v es Δ) (hn : es.length ≤ 1000000) :
    FnG Try.prog 17 [v] [Δ] (fun u Δs => ∃ v' D, u = .tuple #[v', .int .i64 (changesE es).2] ∧ Δs = [D] ∧ Own 71 2 encC v' (changesE es).1 D) := by
  refine FnG.mk fun E F w hS hF => ?_
  have hF0 : Δ ∈ F := hF _ (by simp)
  refine returns_enter Try.func17 rfl Try.ntmps17 rfl ?_
  refine cw_seq fun K1 hK1 => ?_
  refine cw_region ?_
  refine wl_op rfl rfl (ow_vr (vr_assign (v := .slice none 0 0) rfl) ?_)
  refine wl_op rfl rfl (ow_vr (vr_assign (v := .int .i64 0) rfl) ?_)
  refine wl_nil ?_
  refine hK1 _ _ ?_
  refine cw_seq fun K2 hK2 => ?_
  refine cw_region ?_
  refine wl_op rfl rfl (ow_vr (vr_assign (v := .slice none 0 0) rfl) ?_)
  refine wl_op rfl rfl (ow_vr (vr_assign (v := .slice none 0 0) rfl) ?_)
  refine wl_nil ?_
  refine hK2 _ _ ?_
  refine cw_seq fun K3 hK3 => ?_
  refine cw_region ?_
  refine wl_op rfl rfl (ow_vr (vr_assign (v := .int .i64 0) rfl) ?_)
  refine wl_nil ?_
  refine hK3 _ _ ?_
  refine cw_seq fun K4 hK4 => ?_
  refine cw_seq fun K5 hK5 => ?_
  have hS := Sat.nilc.2 (Sat.nilc.2 hS)
  refine cw_region ?_
  refine wl_op rfl rfl (ow_vr (vr_assign (v := .int .i64 0) rfl) ?_)
  refine wl_nil ?_
  refine hK5 _ _ ?_
  refine cw_block ?_
  refine cw_loop (fun m f w => ∃ (k : Nat) (out : List (Int × Int)) (grp : List (Int × Int)) (n : Int) (v4 : Value) (D4 : Chunk) (v5 : Value) (D5 : Chunk) (g : Nat → Value), f = (upd (upd (upd (upd (upd g 0 (v)) 4 (v4)) 5 (v5)) 6 (.int .i64 n)) 7 (.int .i64 (k : Int))) ∧ (k ≤ es.length ∧ changesGo (es.drop k) k out grp n = changesE es ∧ Own 71 2 encC v4 out D4 ∧ Own 71 2 encC v5 grp D5 ∧ out.length + grp.length ≤ k) ∧ m = es.length - k ∧ Sat E (D4 :: D5 :: F) w) ⟨0, [], [], 0, .slice none 0 0, [], .slice none 0 0, [], _, (reb (reb (reb (reb (reb rfl rfl) rfl) rfl) rfl) rfl), ?_, rfl, hS⟩ ?_
  · exact ⟨by omega, rfl, Own.nil, Own.nil, by simp⟩
  clear hS; rintro m f w ⟨k, out, grp, n, v4, D4, v5, D5, g, rfl, hI0, rfl, hS⟩
  obtain ⟨hk, hR, ho4, ho5, hb⟩ := hI0
  have hv5 := ho5.view (by exact fun _ => rfl)
  refine cw_seq fun K6 hK6 => ?_
  refine cw_seq fun K7 hK7 => ?_
  refine cw_region ?_
  refine wl_op rfl rfl (ow_vr (vr_move (v := .int .i64 (k : Int)) rfl) ?_)
  refine wl_op rfl rfl (ow_vr (vr_move (v := v) rfl) ?_)
  refine wl_op rfl rfl (ow_vr (vr_len_v (v := v) Try.underlying25 rfl hv) ?_)
  refine wl_op rfl rfl (ow_vr (vr_lss rfl rfl) ?_)
  refine wl_nil ?_
  refine hK7 _ _ ?_
  refine cw_cond rfl rfl (fun hc => ?_) (fun hc => ?_)
  · (try simp only [decide_eq_true_eq, decide_eq_false_iff_not, Bool.not_eq_true, Bool.not_eq_false, Bool.not_eq_true', Bool.not_eq_false', Bool.and_eq_true, Bool.or_eq_true, Bool.and_eq_false_iff, Bool.or_eq_false_iff, Int.not_lt, Int.not_le, gt_iff_lt, ge_iff_le, ne_eq, Decidable.not_not, beq_iff_eq] at hc)
    have hc0 := hc; clear hc
    refine cw_skip ?_
    refine hK6 _ _ ?_
    refine cw_seq fun K8 hK8 => ?_
    refine cw_block ?_
    refine cw_block ?_
    refine cw_seq fun K9 hK9 => ?_
    obtain ⟨x, hx⟩ := get_lt (xs := es) (k := k) (by omega)
    rw [drop_cons hx, changesGo] at hR
    refine cw_region ?_
    refine wl_op rfl rfl (ow_vr (vr_move (v := v) rfl) ?_)
    refine wl_op rfl rfl (ow_vr (vr_move (v := .int .i64 (k : Int)) rfl) ?_)
    refine wl_op rfl rfl (ow_vr (vr_indexV (v := v) Try.underlying25 sz_23 rfl hv rfl (by omega) (by omega)) ?_)
    refine wl_op rfl rfl (ow_vr (vr_fieldAddrV fo_23_0 rfl hv (by omega)) ?_)
    refine wl_op rfl rfl (ow_lr (S := Sat _ _) (lr_loadV1 (u := .int .i64 _) Try.underlying3 rfl rfl hv (by repeat (first | exact List.mem_cons_self | assumption | refine List.mem_cons_of_mem _ ?_)) (hx) (by exact fun _ => rfl) (by rfl)) hS ?_)
    refine wl_op rfl rfl (ow_vr (vr_eql rfl rfl) ?_)
    refine wl_op rfl rfl (ow_vr (vr_assign (v := .bool _) rfl) ?_)
    refine wl_nil ?_
    refine hK9 _ _ ?_
    refine cw_cond rfl rfl (fun hc => ?_) (fun hc => ?_)
    · (try simp only [decide_eq_true_eq, decide_eq_false_iff_not, Bool.not_eq_true, Bool.not_eq_false, Bool.not_eq_true', Bool.not_eq_false', Bool.and_eq_true, Bool.or_eq_true, Bool.and_eq_false_iff, Bool.or_eq_false_iff, Int.not_lt, Int.not_le, gt_iff_lt, ge_iff_le, ne_eq, Decidable.not_not, beq_iff_eq] at hc)
      have hc1 := hc; clear hc
      rw [if_pos hc1] at hR
      refine cw_draw_s (Sat E F) hS (fun _ h => h.tail1.tail1) (fun _ _ h hg => Sat.below h hg) [(0, 0), (1, 0), (2, 0), (3, 0), (4, 0), (5, 1), (6, 0), (7, 0), (8, 0), (9, 0), (10, 1), (11, 0), (12, 2), (13, 2), (14, 0)] mixed (planFast_ok (by kernel_rfl)) (by rintro _ _ _ ⟨⟩) ?_
      clear hS; intro w hS
      refine pl_take rfl (yes_none rfl) (vr_move (v := v5) rfl) ?_
      refine pl_take rfl (yes_none rfl) (vr_move (v := v) rfl) ?_
      refine pl_take rfl (yes_none rfl) (vr_move (v := .int .i64 (k : Int)) rfl) ?_
      refine pl_take rfl (yes_none rfl) (vr_indexV (v := v) Try.underlying25 sz_23 rfl hv rfl (by omega) (by omega)) ?_
      refine pl_take rfl (yes_none rfl) (vr_fieldAddrV fo_23_3 rfl hv (by omega)) ?_
      refine pl_load rfl (yes_none rfl) (lr_loadV1 (u := .int .i64 _) Try.underlying3 rfl rfl hv (by repeat (first | exact List.mem_cons_self | assumption | refine List.mem_cons_of_mem _ ?_)) (hx) (by exact fun _ => rfl) (by rfl)) ?_
      refine pl_take rfl (yes_none rfl) (vr_move (v := v) rfl) ?_
      refine pl_take rfl (yes_none rfl) (vr_move (v := .int .i64 (k : Int)) rfl) ?_
      refine pl_take rfl (yes_none rfl) (vr_indexV (v := v) Try.underlying25 sz_23 rfl hv rfl (by omega) (by omega)) ?_
      refine pl_take rfl (yes_none rfl) (vr_fieldAddrV fo_23_4 rfl hv (by omega)) ?_
      refine pl_load rfl (yes_none rfl) (lr_loadV1 (u := .int .i64 _) Try.underlying3 rfl rfl hv (by repeat (first | exact List.mem_cons_self | assumption | refine List.mem_cons_of_mem _ ?_)) (hx) (by exact fun _ => rfl) (by rfl)) ?_
      refine pl_take rfl (yes_none rfl) (vr_build (vs := [(0, .int .i64 _), (1, .int .i64 _)]) (cs := [.int .i64 _, .int .i64 _]) zr_71 pl_71 rfl rfl) ?_
      refine pl_act hS rfl (yes_none rfl) ?_
      clear hS; intro w hS
      refine (ow_buildSliceD (m := 2) (len := 1) (vs := [.agg #[.int .i64 _, .int .i64 _]]) (cs := [.int .i64 _, .int .i64 _]) hS Try.underlying24 if_71 rfl (by decide) (by decide) rfl rfl (by simp [Value.cells]) rfl ?_)
      clear hS; intro b35 w hS
      refine ⟨by first | exact hS | exact hS.tail1 | exact hS.tail1.tail1 | exact hS.tail1.tail1.tail1, ?_⟩
      refine pl_act hS rfl (yes_none rfl) ?_
      clear hS; intro w hS
      refine (ow_append (v := v5) hS Try.underlying24 Try.underlying24 if_71 rfl (by decide) rfl rfl (by assumption) (View.single (x := (x.cell, x.value)) rfl rfl (by decide)) (by first | exact HasC.here | exact HasC.there (HasC.here) | exact HasC.there (HasC.there (HasC.here)) | exact HasC.there (HasC.there (HasC.there (HasC.here))) | exact HasC.there (HasC.there (HasC.there (HasC.there (HasC.here)))) | exact HasC.there (HasC.there (HasC.there (HasC.there (HasC.there (HasC.here))))) | exact HasC.there (HasC.there (HasC.there (HasC.there (HasC.there (HasC.there (HasC.here)))))) | exact HasC.there (HasC.there (HasC.there (HasC.there (HasC.there (HasC.there (HasC.there (HasC.here))))))) | exact HasC.there (HasC.there (HasC.there (HasC.there (HasC.there (HasC.there (HasC.there (HasC.there (HasC.here))))))))) (by repeat (first | exact List.mem_cons_self | assumption | refine List.mem_cons_of_mem _ ?_)) (by exact fun _ => rfl) (by exact fun _ => rfl) (by first | omega | (simp [maxLen] <;> omega) | (simp <;> omega)) (by first | omega | (simp [maxLen] <;> omega) | (simp <;> omega)) ?_)
      clear hS; intro v36 D36 w ho36 hS
      refine ⟨by first | exact hS | exact hS.tail1 | exact hS.tail1.tail1 | exact hS.tail1.tail1.tail1, ?_⟩
      refine pl_take rfl (yes_none rfl) (vr_assign (v := v36) rfl) ?_
      refine pl_nil hS ?_
      clear hS; intro w hS
      refine hK8 _ _ ?_
      replace hS := hS.tail1
      refine cw_region ?_
      refine wl_op rfl rfl (ow_vr (vr_move (v := .int .i64 (k : Int)) rfl) ?_)
      first | (refine wl_op rfl rfl (ow_vr (vr_addi rfl rfl (by unfold inI64; omega)) ?_)) | (refine wl_op rfl rfl (ow_vr (vr_add rfl rfl) ?_))
      refine wl_op rfl rfl (ow_vr (vr_assign (v := .int .i64 _) rfl) ?_)
      refine wl_nil ?_
      refine thenF_normal ⟨_, ?_, k + 1, out, grp ++ [(x.cell, x.value)], n, v4, D4, v36, D36, _, (reb (reb (reb (reb (reb rfl rfl) rfl) rfl) rfl) rfl), ?_, rfl, hS⟩
      · omega
      · exact ⟨by omega, hR, ho4, ho36, by simp; omega⟩
    · (try simp only [decide_eq_true_eq, decide_eq_false_iff_not, Bool.not_eq_true, Bool.not_eq_false, Bool.not_eq_true', Bool.not_eq_false', Bool.and_eq_true, Bool.or_eq_true, Bool.and_eq_false_iff, Bool.or_eq_false_iff, Int.not_lt, Int.not_le, gt_iff_lt, ge_iff_le, ne_eq, Decidable.not_not, beq_iff_eq] at hc)
      have hc1 := hc; clear hc
      refine cw_seq fun K10 hK10 => ?_
      rw [if_neg hc1] at hR
      refine cw_region ?_
      refine wl_op rfl rfl (ow_vr (vr_move (v := v) rfl) ?_)
      refine wl_op rfl rfl (ow_vr (vr_move (v := .int .i64 (k : Int)) rfl) ?_)
      refine wl_op rfl rfl (ow_vr (vr_indexV (v := v) Try.underlying25 sz_23 rfl hv rfl (by omega) (by omega)) ?_)
      refine wl_op rfl rfl (ow_vr (vr_fieldAddrV fo_23_0 rfl hv (by omega)) ?_)
      refine wl_op rfl rfl (ow_lr (S := Sat _ _) (lr_loadV1 (u := .int .i64 _) Try.underlying3 rfl rfl hv (by repeat (first | exact List.mem_cons_self | assumption | refine List.mem_cons_of_mem _ ?_)) (hx) (by exact fun _ => rfl) (by rfl)) hS ?_)
      refine wl_op rfl rfl (ow_vr (vr_eql rfl rfl) ?_)
      refine wl_op rfl rfl (ow_vr (vr_move (v := .bool _) rfl) ?_)
      refine wl_split 44 rfl (fun hc => ?_) (fun hc => ?_)
      · (try simp only [decide_eq_true_eq, decide_eq_false_iff_not, Bool.not_eq_true, Bool.not_eq_false, Bool.not_eq_true', Bool.not_eq_false', Bool.and_eq_true, Bool.or_eq_true, Bool.and_eq_false_iff, Bool.or_eq_false_iff, Int.not_lt, Int.not_le, gt_iff_lt, ge_iff_le, ne_eq, Decidable.not_not, beq_iff_eq] at hc)
        have hg := hc; clear hc
        refine wl_yes rfl rfl rfl rfl rfl (ow_vr (vr_move (v := v) rfl) ?_)
        refine wl_yes rfl rfl rfl rfl rfl (ow_vr (vr_move (v := .int .i64 (k : Int)) rfl) ?_)
        refine wl_yes rfl rfl rfl rfl rfl (ow_vr (vr_indexV (v := v) Try.underlying25 sz_23 rfl hv rfl (by omega) (by omega)) ?_)
        refine wl_yes rfl rfl rfl rfl rfl (ow_vr (vr_fieldAddrV fo_23_3 rfl hv (by omega)) ?_)
        refine wl_yes rfl rfl rfl rfl rfl (ow_lr (S := Sat _ _) (lr_loadV1 (u := .int .i64 _) Try.underlying3 rfl rfl hv (by repeat (first | exact List.mem_cons_self | assumption | refine List.mem_cons_of_mem _ ?_)) (hx) (by exact fun _ => rfl) (by rfl)) hS ?_)
        refine wl_yes rfl rfl rfl rfl rfl (ow_vr (vr_move (v := v5) rfl) ?_)
        refine wl_yes rfl rfl rfl rfl rfl (ow_vr (vr_len_v (v := v5) Try.underlying24 rfl hv5) ?_)
        refine wl_yes rfl rfl rfl rfl rfl (ow_vr (vr_eql rfl rfl) ?_)
        refine wl_op rfl rfl (ow_vr (vr_pick (b := true) (v := .bool _) rfl rfl) ?_)
        refine wl_op rfl rfl (ow_vr (vr_assign (v := .bool _) rfl) ?_)
        refine wl_nil ?_
        refine hK10 _ _ ?_
        refine cw_cond rfl rfl (fun hc => ?_) (fun hc => ?_)
        · (try simp only [decide_eq_true_eq, decide_eq_false_iff_not, Bool.not_eq_true, Bool.not_eq_false, Bool.not_eq_true', Bool.not_eq_false', Bool.and_eq_true, Bool.or_eq_true, Bool.and_eq_false_iff, Bool.or_eq_false_iff, Int.not_lt, Int.not_le, gt_iff_lt, ge_iff_le, ne_eq, Decidable.not_not, beq_iff_eq] at hc)
          have hc2 := hc; clear hc
          refine cw_seq fun K11 hK11 => ?_
          rw [if_pos (by simp at *; omega)] at hR
          refine cw_region ?_
          refine wl_op rfl rfl (ow_vr (vr_move (v := v4) rfl) ?_)
          refine wl_op rfl rfl (ow_vr (vr_move (v := v5) rfl) ?_)
          refine wl_op rfl rfl (ow_append (v := v4) (u := v5) hS Try.underlying24 Try.underlying24 if_71 rfl (by decide) rfl rfl (by assumption) (by first | assumption | (refine Own.view ?_ (by assumption); exact fun _ => rfl) | exact OwnB.view (by assumption)) (by first | exact HasC.here | exact HasC.there (HasC.here) | exact HasC.there (HasC.there (HasC.here)) | exact HasC.there (HasC.there (HasC.there (HasC.here))) | exact HasC.there (HasC.there (HasC.there (HasC.there (HasC.here)))) | exact HasC.there (HasC.there (HasC.there (HasC.there (HasC.there (HasC.here))))) | exact HasC.there (HasC.there (HasC.there (HasC.there (HasC.there (HasC.there (HasC.here)))))) | exact HasC.there (HasC.there (HasC.there (HasC.there (HasC.there (HasC.there (HasC.there (HasC.here))))))) | exact HasC.there (HasC.there (HasC.there (HasC.there (HasC.there (HasC.there (HasC.there (HasC.there (HasC.here))))))))) (by repeat (first | exact List.mem_cons_self | assumption | refine List.mem_cons_of_mem _ ?_)) (by exact fun _ => rfl) (by exact fun _ => rfl) (by first | omega | (simp [maxLen] <;> omega) | (simp <;> omega)) (by first | omega | (simp [maxLen] <;> omega) | (simp <;> omega)) ?_)
          clear hS; intro v56 D56 w ho56 hS
          refine wl_op rfl rfl (ow_vr (vr_assign (v := v56) rfl) ?_)
          refine wl_nil ?_
          refine hK11 _ _ ?_
          refine cw_seq fun K12 hK12 => ?_
          refine cw_region ?_
          refine wl_op rfl rfl (ow_vr (vr_assign (v := .slice none 0 0) rfl) ?_)
          refine wl_nil ?_
          refine hK12 _ _ ?_
          refine cw_region ?_
          refine wl_op rfl rfl (ow_vr (vr_move (v := .int .i64 (k : Int)) rfl) ?_)
          first | (refine wl_op rfl rfl (ow_vr (vr_addi rfl rfl (by unfold inI64; omega)) ?_)) | (refine wl_op rfl rfl (ow_vr (vr_add rfl rfl) ?_))
          refine wl_op rfl rfl (ow_vr (vr_assign (v := .int .i64 _) rfl) ?_)
          refine wl_nil ?_
          refine hK8 _ _ ?_
          replace hS := (Sat.nilc.2 hS.front1.tail1).front1
          refine cw_region ?_
          refine wl_op rfl rfl (ow_vr (vr_move (v := .int .i64 (k : Int)) rfl) ?_)
          first | (refine wl_op rfl rfl (ow_vr (vr_addi rfl rfl (by unfold inI64; omega)) ?_)) | (refine wl_op rfl rfl (ow_vr (vr_add rfl rfl) ?_))
          refine wl_op rfl rfl (ow_vr (vr_assign (v := .int .i64 _) rfl) ?_)
          refine wl_nil ?_
          refine thenF_normal ⟨_, ?_, k + 1, out ++ grp, [], (k : Int) + 1, v56, D56, .slice none 0 0, [], _, (reb (reb (reb (reb (reb rfl rfl) rfl) rfl) rfl) rfl), ?_, rfl, hS⟩
          · omega
          · exact ⟨by omega, hR, ho56, Own.nil, by simp; omega⟩
        · (try simp only [decide_eq_true_eq, decide_eq_false_iff_not, Bool.not_eq_true, Bool.not_eq_false, Bool.not_eq_true', Bool.not_eq_false', Bool.and_eq_true, Bool.or_eq_true, Bool.and_eq_false_iff, Bool.or_eq_false_iff, Int.not_lt, Int.not_le, gt_iff_lt, ge_iff_le, ne_eq, Decidable.not_not, beq_iff_eq] at hc)
          have hc2 := hc; clear hc
          refine cw_seq fun K13 hK13 => ?_
          rw [if_neg (by simp at *; omega)] at hR
          refine cw_region ?_
          refine wl_op rfl rfl (ow_vr (vr_move (v := v4) rfl) ?_)
          refine wl_op rfl rfl (ow_vr (vr_move (v := .int .i64 n) rfl) ?_)
          refine wl_op rfl rfl (ow_vr (vr_assign (v := v4) rfl) ?_)
          refine wl_op rfl rfl (ow_vr (vr_assign (v := .int .i64 n) rfl) ?_)
          refine wl_nil ?_
          refine hK13 _ _ ?_
          refine cw_ret ?_
          refine inB_ret (inB_ret (thenF_ret (thenF_ret (inB_ret (thenF_ret (?_))))))
          refine ret_two (fn := Try.f17) (n := 61) (t := 2) (u := 3) (.inl rfl) rfl rfl rfl ?_
          exact ⟨[D4], ⟨v4, D4, by rw [← hR] <;> rfl, rfl, by rw [← hR]; exact ho4⟩, hS.front1.tail1⟩
      · (try simp only [decide_eq_true_eq, decide_eq_false_iff_not, Bool.not_eq_true, Bool.not_eq_false, Bool.not_eq_true', Bool.not_eq_false', Bool.and_eq_true, Bool.or_eq_true, Bool.and_eq_false_iff, Bool.or_eq_false_iff, Int.not_lt, Int.not_le, gt_iff_lt, ge_iff_le, ne_eq, Decidable.not_not, beq_iff_eq] at hc)
        have hg := hc; clear hc
        refine wl_noD rfl rfl rfl rfl rfl rfl ?_
        refine wl_noD rfl rfl rfl rfl rfl rfl ?_
        refine wl_noD rfl rfl rfl rfl rfl rfl ?_
        refine wl_noD rfl rfl rfl rfl rfl rfl ?_
        refine wl_noD rfl rfl rfl rfl rfl rfl ?_
        refine wl_noD rfl rfl rfl rfl rfl rfl ?_
        refine wl_noD rfl rfl rfl rfl rfl rfl ?_
        refine wl_noD rfl rfl rfl rfl rfl rfl ?_
        refine wl_op rfl rfl (ow_vr (vr_pick (b := false) (v := .bool _) rfl rfl) ?_)
        refine wl_op rfl rfl (ow_vr (vr_assign (v := .bool _) rfl) ?_)
        refine wl_nil ?_
        refine hK10 _ _ ?_
        refine cw_cond_f rfl rfl (rfl) ?_
        refine cw_seq fun K14 hK14 => ?_
        rw [if_neg (by simp at *; omega)] at hR
        refine cw_region ?_
        refine wl_op rfl rfl (ow_vr (vr_move (v := v4) rfl) ?_)
        refine wl_op rfl rfl (ow_vr (vr_move (v := .int .i64 n) rfl) ?_)
        refine wl_op rfl rfl (ow_vr (vr_assign (v := v4) rfl) ?_)
        refine wl_op rfl rfl (ow_vr (vr_assign (v := .int .i64 n) rfl) ?_)
        refine wl_nil ?_
        refine hK14 _ _ ?_
        refine cw_ret ?_
        refine inB_ret (inB_ret (thenF_ret (thenF_ret (inB_ret (thenF_ret (?_))))))
        refine ret_two (fn := Try.f17) (n := 61) (t := 2) (u := 3) (.inl rfl) rfl rfl rfl ?_
        exact ⟨[D4], ⟨v4, D4, by rw [← hR] <;> rfl, rfl, by rw [← hR]; exact ho4⟩, hS.front1.tail1⟩
  · (try simp only [decide_eq_true_eq, decide_eq_false_iff_not, Bool.not_eq_true, Bool.not_eq_false, Bool.not_eq_true', Bool.not_eq_false', Bool.and_eq_true, Bool.or_eq_true, Bool.and_eq_false_iff, Bool.or_eq_false_iff, Int.not_lt, Int.not_le, gt_iff_lt, ge_iff_le, ne_eq, Decidable.not_not, beq_iff_eq] at hc)
    have hc0 := hc; clear hc
    refine cw_exit ?_
    refine hK4 _ _ ?_
    refine cw_seq fun K15 hK15 => ?_
    rw [show k = es.length by omega, List.drop_length, changesGo] at hR
    refine cw_region ?_
    refine wl_op rfl rfl (ow_vr (vr_move (v := v4) rfl) ?_)
    refine wl_op rfl rfl (ow_vr (vr_move (v := .int .i64 n) rfl) ?_)
    refine wl_op rfl rfl (ow_vr (vr_assign (v := v4) rfl) ?_)
    refine wl_op rfl rfl (ow_vr (vr_assign (v := .int .i64 n) rfl) ?_)
    refine wl_nil ?_
    refine hK15 _ _ ?_
    refine cw_ret ?_
    refine ret_two (fn := Try.f17) (n := 61) (t := 2) (u := 3) (.inl rfl) rfl rfl rfl ?_
    exact ⟨[D4], ⟨v4, D4, by rw [← hR] <;> rfl, rfl, by rw [← hR]; exact ho4⟩, hS.front1.tail1⟩
end Go.Proofs.Ytjcagoighpmdkaa
