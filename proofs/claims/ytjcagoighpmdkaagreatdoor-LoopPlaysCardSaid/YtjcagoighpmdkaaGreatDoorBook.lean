/- What package flittingbook's functions return. -/
import Derived.Test.YtjcagoighpmdkaaGreatDoorEntry
namespace Go.Proofs.YtjcagoighpmdkaaGreatDoor
open Go Go.RowKit
set_option linter.unusedVariables false
set_option linter.unusedSimpArgs false
attribute [local irreducible] actF WL CW OW PL SW VR LR yes Returns Fn
theorem book_SameChanges (a b : List (Int × Int)) (v u : Value) (Δ Δ' : Chunk) (hv : View 2 encC v a Δ) (hu : View 2 encC u b Δ') (hn : a.length ≤ 1000000) (hn' : b.length ≤ 1000000) :
    FnG Tryz.prog 14 [v, u] [Δ, Δ'] (fun r Δs => r = .bool (decide (a = b)) ∧ Δs = []) := by
  refine FnG.mk fun E F w hS hF => ?_
  have hF0 : Δ ∈ F := hF _ (by simp)
  have hF1 : Δ' ∈ F := hF _ (by simp)
  refine returns_enter Tryz.func14 rfl Tryz.ntmps14 rfl ?_
  refine cw_seq fun K1 hK1 => ?_
  refine cw_region ?_
  refine wl_op rfl rfl (ow_vr (vr_assign (v := .bool false) rfl) ?_)
  refine wl_nil ?_
  refine hK1 _ _ ?_
  refine cw_seq fun K2 hK2 => ?_
  refine cw_seq fun K3 hK3 => ?_
  refine cw_region ?_
  refine wl_op rfl rfl (ow_vr (vr_move (v := v) rfl) ?_)
  first | (refine wl_op rfl rfl (ow_vr (vr_len_sl Tryz.underlying28 rfl) ?_)) | (refine wl_op rfl rfl (ow_vr (vr_len_v (v := v) Tryz.underlying28 rfl (by first | assumption | (refine Own.view ?_ (by assumption); exact fun _ => rfl) | exact OwnB.view (by assumption))) ?_))
  refine wl_op rfl rfl (ow_vr (vr_move (v := u) rfl) ?_)
  first | (refine wl_op rfl rfl (ow_vr (vr_len_sl Tryz.underlying28 rfl) ?_)) | (refine wl_op rfl rfl (ow_vr (vr_len_v (v := u) Tryz.underlying28 rfl (by first | assumption | (refine Own.view ?_ (by assumption); exact fun _ => rfl) | exact OwnB.view (by assumption))) ?_))
  refine wl_op rfl rfl (ow_vr (vr_neq rfl rfl) ?_)
  refine wl_nil ?_
  refine hK3 _ _ ?_
  refine cw_cond rfl rfl (fun hc => ?_) (fun hc => ?_)
  · (try simp only [decide_eq_true_eq, decide_eq_false_iff_not, Bool.not_eq_true, Bool.not_eq_false, Bool.not_eq_true', Bool.not_eq_false', Bool.and_eq_true, Bool.or_eq_true, Bool.and_eq_false_iff, Bool.or_eq_false_iff, Int.not_lt, Int.not_le, gt_iff_lt, ge_iff_le, ne_eq, Decidable.not_not, beq_iff_eq] at hc)
    have hc0 := hc; clear hc
    refine cw_seq fun K4 hK4 => ?_
    refine cw_region ?_
    refine wl_op rfl rfl (ow_vr (vr_assign (v := .bool false) rfl) ?_)
    refine wl_nil ?_
    refine hK4 _ _ ?_
    refine cw_ret ?_
    refine thenF_ret (?_)
    refine ret_one (fn := Tryz.f14) (n := 27) (t := 4) (.inl rfl) rfl rfl ?_
    exact ⟨[], ⟨congrArg Value.bool (by first | (symm; rw [decide_eq_false_iff_not]; intro e; subst e; omega) | (have h1 := hI0.2; rw [show k = a.length by omega, List.take_length, hl, List.take_length] at h1; symm; exact decide_eq_true h1) | (symm; rw [decide_eq_false_iff_not]; intro e; subst e; rw [hx] at hy; cases hy; simp at hc2)), rfl⟩, hS⟩
  · (try simp only [decide_eq_true_eq, decide_eq_false_iff_not, Bool.not_eq_true, Bool.not_eq_false, Bool.not_eq_true', Bool.not_eq_false', Bool.and_eq_true, Bool.or_eq_true, Bool.and_eq_false_iff, Bool.or_eq_false_iff, Int.not_lt, Int.not_le, gt_iff_lt, ge_iff_le, ne_eq, Decidable.not_not, beq_iff_eq] at hc)
    have hc0 := hc; clear hc
    refine cw_skip ?_
    refine hK2 _ _ ?_
    refine cw_seq fun K5 hK5 => ?_
    refine cw_seq fun K6 hK6 => ?_
    have hl : a.length = b.length := by omega
    refine cw_region ?_
    refine wl_op rfl rfl (ow_vr (vr_assign (v := .int .i64 0) rfl) ?_)
    refine wl_nil ?_
    refine hK6 _ _ ?_
    refine cw_block ?_
    refine cw_loop (fun m f w => ∃ (k : Nat) (g : Nat → Value), f = (upd (upd (upd g 0 (v)) 1 (u)) 5 (.int .i64 (k : Int))) ∧ (k ≤ a.length ∧ a.take k = b.take k) ∧ m = a.length - k ∧ Sat E (F) w) ⟨0, _, (reb (reb (reb rfl rfl) rfl) rfl), ?_, rfl, hS⟩ ?_
    · exact ⟨by omega, by simp⟩
    clear hS; rintro m f w ⟨k, g, rfl, hI0, rfl, hS⟩
    refine cw_seq fun K7 hK7 => ?_
    refine cw_seq fun K8 hK8 => ?_
    refine cw_region ?_
    refine wl_op rfl rfl (ow_vr (vr_move (v := .int .i64 (k : Int)) rfl) ?_)
    refine wl_op rfl rfl (ow_vr (vr_move (v := v) rfl) ?_)
    first | (refine wl_op rfl rfl (ow_vr (vr_len_sl Tryz.underlying28 rfl) ?_)) | (refine wl_op rfl rfl (ow_vr (vr_len_v (v := v) Tryz.underlying28 rfl (by first | assumption | (refine Own.view ?_ (by assumption); exact fun _ => rfl) | exact OwnB.view (by assumption))) ?_))
    refine wl_op rfl rfl (ow_vr (vr_lss rfl rfl) ?_)
    refine wl_nil ?_
    refine hK8 _ _ ?_
    refine cw_cond rfl rfl (fun hc => ?_) (fun hc => ?_)
    · (try simp only [decide_eq_true_eq, decide_eq_false_iff_not, Bool.not_eq_true, Bool.not_eq_false, Bool.not_eq_true', Bool.not_eq_false', Bool.and_eq_true, Bool.or_eq_true, Bool.and_eq_false_iff, Bool.or_eq_false_iff, Int.not_lt, Int.not_le, gt_iff_lt, ge_iff_le, ne_eq, Decidable.not_not, beq_iff_eq] at hc)
      have hc1 := hc; clear hc
      refine cw_skip ?_
      refine hK7 _ _ ?_
      refine cw_seq fun K9 hK9 => ?_
      refine cw_block ?_
      refine cw_seq fun K10 hK10 => ?_
      obtain ⟨x, hx⟩ := get_lt (xs := a) (k := k) (by omega)
      obtain ⟨y, hy⟩ := get_lt (xs := b) (k := k) (by omega)
      refine cw_draw_sat hS [(0, 0), (1, 0), (2, 0), (3, 1), (4, 0), (5, 0), (6, 0), (7, 1), (8, 0), (9, 0)] mixed (planFast_ok (by kernel_rfl)) (by rintro _ _ _ ⟨⟩) ?_
      clear hS; intro w hS
      refine pl_take rfl (yes_none rfl) (vr_move (v := v) rfl) ?_
      refine pl_take rfl (yes_none rfl) (vr_move (v := .int .i64 (k : Int)) rfl) ?_
      first | (refine pl_take rfl (yes_none rfl) (vr_indexAddr Tryz.underlying28 sz_55 rfl rfl (by omega) (by omega)) ?_) | (refine pl_take rfl (yes_none rfl) (vr_indexV (v := v) Tryz.underlying28 sz_55 rfl (by first | assumption | (refine Own.view ?_ (by assumption); exact fun _ => rfl) | exact OwnB.view (by assumption)) rfl (by omega) (by first | omega | (simp <;> omega))) ?_)
      refine pl_load rfl (yes_none rfl) (lr_loadVA (cs := [.int .i64 _, .int .i64 _]) Tryz.underlying55 rfl sz_55 rfl hv (by repeat (first | exact List.mem_cons_self | assumption | refine List.mem_cons_of_mem _ ?_)) (hx) (by exact fun _ => rfl) (by rfl)) ?_
      refine pl_take rfl (yes_none rfl) (vr_move (v := u) rfl) ?_
      refine pl_take rfl (yes_none rfl) (vr_move (v := .int .i64 (k : Int)) rfl) ?_
      first | (refine pl_take rfl (yes_none rfl) (vr_indexAddr Tryz.underlying28 sz_55 rfl rfl (by omega) (by omega)) ?_) | (refine pl_take rfl (yes_none rfl) (vr_indexV (v := u) Tryz.underlying28 sz_55 rfl (by first | assumption | (refine Own.view ?_ (by assumption); exact fun _ => rfl) | exact OwnB.view (by assumption)) rfl (by omega) (by first | omega | (simp <;> omega))) ?_)
      refine pl_load rfl (yes_none rfl) (lr_loadVA (cs := [.int .i64 _, .int .i64 _]) Tryz.underlying55 rfl sz_55 rfl hu (by repeat (first | exact List.mem_cons_self | assumption | refine List.mem_cons_of_mem _ ?_)) (hy) (by exact fun _ => rfl) (by rfl)) ?_
      refine pl_take rfl (yes_none rfl) (vr_eql_st eg_55 rfl rfl (eq_55 _ _ _ _)) ?_
      refine pl_take rfl (yes_none rfl) (vr_not rfl) ?_
      refine pl_nil hS ?_
      clear hS; intro w hS
      refine hK10 _ _ ?_
      refine cw_cond rfl rfl (fun hc => ?_) (fun hc => ?_)
      · (try simp only [decide_eq_true_eq, decide_eq_false_iff_not, Bool.not_eq_true, Bool.not_eq_false, Bool.not_eq_true', Bool.not_eq_false', Bool.and_eq_true, Bool.or_eq_true, Bool.and_eq_false_iff, Bool.or_eq_false_iff, Int.not_lt, Int.not_le, gt_iff_lt, ge_iff_le, ne_eq, Decidable.not_not, beq_iff_eq] at hc)
        have hc2 := hc; clear hc
        refine cw_seq fun K11 hK11 => ?_
        refine cw_region ?_
        refine wl_op rfl rfl (ow_vr (vr_assign (v := .bool false) rfl) ?_)
        refine wl_nil ?_
        refine hK11 _ _ ?_
        refine cw_ret ?_
        refine inB_ret (thenF_ret (thenF_ret (inB_ret (thenF_ret (?_)))))
        refine ret_one (fn := Tryz.f14) (n := 27) (t := 4) (.inl rfl) rfl rfl ?_
        exact ⟨[], ⟨congrArg Value.bool (by first | (symm; rw [decide_eq_false_iff_not]; intro e; subst e; omega) | (have h1 := hI0.2; rw [show k = a.length by omega, List.take_length, hl, List.take_length] at h1; symm; exact decide_eq_true h1) | (symm; rw [decide_eq_false_iff_not]; intro e; subst e; rw [hx] at hy; cases hy; simp at hc2)), rfl⟩, hS⟩
      · (try simp only [decide_eq_true_eq, decide_eq_false_iff_not, Bool.not_eq_true, Bool.not_eq_false, Bool.not_eq_true', Bool.not_eq_false', Bool.and_eq_true, Bool.or_eq_true, Bool.and_eq_false_iff, Bool.or_eq_false_iff, Int.not_lt, Int.not_le, gt_iff_lt, ge_iff_le, ne_eq, Decidable.not_not, beq_iff_eq] at hc)
        have hc2 := hc; clear hc
        refine cw_skip ?_
        refine hK9 _ _ ?_
        refine cw_region ?_
        refine wl_op rfl rfl (ow_vr (vr_move (v := .int .i64 (k : Int)) rfl) ?_)
        first | (refine wl_op rfl rfl (ow_vr (vr_addi rfl rfl (by unfold inI64; omega)) ?_)) | (refine wl_op rfl rfl (ow_vr (vr_add rfl rfl) ?_))
        refine wl_op rfl rfl (ow_vr (vr_assign (v := .int .i64 _) rfl) ?_)
        refine wl_nil ?_
        refine thenF_normal ⟨_, ?_, k + 1, _, (reb (reb (reb rfl rfl) rfl) rfl), ?_, rfl, hS⟩
        · omega
        · refine ⟨by omega, ?_⟩; rw [take_snoc hx, take_snoc hy, hI0.2]; congr 2; simp at hc2; exact Prod.ext hc2.1 hc2.2
    · (try simp only [decide_eq_true_eq, decide_eq_false_iff_not, Bool.not_eq_true, Bool.not_eq_false, Bool.not_eq_true', Bool.not_eq_false', Bool.and_eq_true, Bool.or_eq_true, Bool.and_eq_false_iff, Bool.or_eq_false_iff, Int.not_lt, Int.not_le, gt_iff_lt, ge_iff_le, ne_eq, Decidable.not_not, beq_iff_eq] at hc)
      have hc1 := hc; clear hc
      refine cw_exit ?_
      refine hK5 _ _ ?_
      refine cw_seq fun K12 hK12 => ?_
      refine cw_region ?_
      refine wl_op rfl rfl (ow_vr (vr_assign (v := .bool true) rfl) ?_)
      refine wl_nil ?_
      refine hK12 _ _ ?_
      refine cw_ret ?_
      refine ret_one (fn := Tryz.f14) (n := 27) (t := 4) (.inl rfl) rfl rfl ?_
      exact ⟨[], ⟨congrArg Value.bool (by first | (symm; rw [decide_eq_false_iff_not]; intro e; subst e; omega) | (have h1 := hI0.2; rw [show k = a.length by omega, List.take_length, hl, List.take_length] at h1; symm; exact decide_eq_true h1) | (symm; rw [decide_eq_false_iff_not]; intro e; subst e; rw [hx] at hy; cases hy; simp at hc2)), rfl⟩, hS⟩
end Go.Proofs.YtjcagoighpmdkaaGreatDoor
