/- flittingbook.SameInts. -/
import Derived.Test.YtjcagoighpmdkaaGreatDoorSlice
import Derived.Test.YtjcagoighpmdkaaGreatDoorBytes
import Derived.Test.YtjcagoighpmdkaaGreatDoorDraw
import Derived.Test.YtjcagoighpmdkaaGreatDoorFacts
namespace Go.Proofs.YtjcagoighpmdkaaGreatDoor
open Go Go.RowKit
set_option linter.unusedVariables false
set_option linter.unusedSimpArgs false
attribute [local irreducible] actF WL CW OW PL SW VR LR yes Returns Fn
theorem book_SameInts (xs ys : List Int) (va vb : Value) (Δa Δb : Chunk) (hva : View 1 encI va xs Δa) (hvb : View 1 encI vb ys Δb) (hn : xs.length ≤ 1000000) (hm : ys.length ≤ 1000000) : FnG Tryz.prog 71 [va, vb] [Δa, Δb] (fun u Δs => u = .bool (decide (xs = ys)) ∧ Δs = []) := by
  refine FnG.mk fun E F w hS hF => ?_
  have hFa : Δa ∈ F := hF _ (by simp)
  have hFb : Δb ∈ F := hF _ (by simp)
  refine returns_enter Tryz.func71 rfl Tryz.ntmps71 rfl ?_
  refine cw_seq fun K1 hK1 => ?_
  refine cw_region ?_
  refine wl_op rfl rfl (ow_vr (vr_assign (v := .bool false) rfl) ?_)
  refine wl_nil ?_
  refine hK1 _ _ ?_
  refine cw_seq fun K2 hK2 => ?_
  refine cw_seq fun K3 hK3 => ?_
  refine cw_region ?_
  refine wl_op rfl rfl (ow_vr (vr_move (v := va) rfl) ?_)
  refine wl_op rfl rfl (ow_vr (vr_len_v (v := va) Tryz.underlying38 rfl hva) ?_)
  refine wl_op rfl rfl (ow_vr (vr_move (v := vb) rfl) ?_)
  refine wl_op rfl rfl (ow_vr (vr_len_v (v := vb) Tryz.underlying38 rfl hvb) ?_)
  refine wl_op rfl rfl (ow_vr (vr_neq rfl rfl) ?_)
  refine wl_nil ?_
  refine hK3 _ _ ?_
  refine cw_cond rfl rfl (fun hc => ?_) (fun hc => ?_)
  · (try simp only [decide_eq_true_eq, decide_eq_false_iff_not, Bool.not_eq_true, Bool.not_eq_false, Bool.not_eq_true', Bool.not_eq_false', Bool.and_eq_true, Bool.or_eq_true, Bool.and_eq_false_iff, Bool.or_eq_false_iff, Int.not_lt, Int.not_le, gt_iff_lt, ge_iff_le, ne_eq, Decidable.not_not, beq_iff_eq] at hc)
    have hc0 := hc; clear hc
    refine cw_seq fun K4 hK4 => ?_
    refine cw_region ?_
    refine wl_op rfl rfl (ow_vr (vr_assign (v := .bool false) rfl) ?_)
    refine wl_nil ?_
    refine hK4 _ _ ?_
    refine cw_ret ?_
    refine thenF_ret (?_)
    refine ret_one (fn := Tryz.f71) (n := 27) (t := 4) (.inl rfl) rfl rfl ?_
    exact ⟨[], ⟨congrArg Value.bool (by rw [eq_comm, decide_eq_false_iff_not]; intro e; rw [e] at hc0; omega), rfl⟩, hS⟩
  · (try simp only [decide_eq_true_eq, decide_eq_false_iff_not, Bool.not_eq_true, Bool.not_eq_false, Bool.not_eq_true', Bool.not_eq_false', Bool.and_eq_true, Bool.or_eq_true, Bool.and_eq_false_iff, Bool.or_eq_false_iff, Int.not_lt, Int.not_le, gt_iff_lt, ge_iff_le, ne_eq, Decidable.not_not, beq_iff_eq] at hc)
    have hc0 := hc; clear hc
    refine cw_skip ?_
    refine hK2 _ _ ?_
    refine cw_seq fun K5 hK5 => ?_
    refine cw_seq fun K6 hK6 => ?_
    refine cw_region ?_
    refine wl_op rfl rfl (ow_vr (vr_assign (v := .int .i64 0) rfl) ?_)
    refine wl_nil ?_
    refine hK6 _ _ ?_
    refine cw_block ?_
    refine cw_loop (fun m f w => ∃ (k : Nat) (g : Nat → Value), f = (upd (upd (upd g 0 (va)) 1 (vb)) 5 (.int .i64 (k : Int))) ∧ (k ≤ xs.length ∧ xs.take k = ys.take k) ∧ m = xs.length - k ∧ Sat E (F) w) ⟨0, _, (reb (reb (reb rfl rfl) rfl) rfl), ?_, rfl, hS⟩ ?_
    · simp
    clear hS; rintro m f w ⟨k, g, rfl, hI0, rfl, hS⟩
    refine cw_seq fun K7 hK7 => ?_
    refine cw_seq fun K8 hK8 => ?_
    refine cw_region ?_
    refine wl_op rfl rfl (ow_vr (vr_move (v := .int .i64 (k : Int)) rfl) ?_)
    refine wl_op rfl rfl (ow_vr (vr_move (v := va) rfl) ?_)
    refine wl_op rfl rfl (ow_vr (vr_len_v (v := va) Tryz.underlying38 rfl hva) ?_)
    refine wl_op rfl rfl (ow_vr (vr_lss rfl rfl) ?_)
    refine wl_nil ?_
    refine hK8 _ _ ?_
    refine cw_cond rfl rfl (fun hc => ?_) (fun hc => ?_)
    · (try simp only [decide_eq_true_eq, decide_eq_false_iff_not, Bool.not_eq_true, Bool.not_eq_false, Bool.not_eq_true', Bool.not_eq_false', Bool.and_eq_true, Bool.or_eq_true, Bool.and_eq_false_iff, Bool.or_eq_false_iff, Int.not_lt, Int.not_le, gt_iff_lt, ge_iff_le, ne_eq, Decidable.not_not, beq_iff_eq] at hc)
      have hc1 := hc; clear hc
      refine cw_skip ?_
      refine hK7 _ _ ?_
      refine cw_seq fun K9 hK9 => ?_
      refine cw_block ?_
      refine cw_seq fun K10 hK10 => ?_
      obtain ⟨x, hx⟩ := get_lt (xs := xs) (k := k) (by omega)
      obtain ⟨y, hy⟩ := get_lt (xs := ys) (k := k) (by omega)
      refine cw_draw_sat hS [(0, 0), (1, 0), (2, 0), (3, 1), (4, 0), (5, 0), (6, 0), (7, 1), (8, 0), (9, 0)] mixed (planFast_ok (by kernel_rfl)) (by rintro _ _ _ ⟨⟩) ?_
      clear hS; intro w hS
      refine pl_take rfl (yes_none rfl) (vr_move (v := va) rfl) ?_
      refine pl_take rfl (yes_none rfl) (vr_move (v := .int .i64 (k : Int)) rfl) ?_
      refine pl_take rfl (yes_none rfl) (vr_indexV (v := va) Tryz.underlying38 sz_3 rfl hva rfl (by omega) (by omega)) ?_
      refine pl_load rfl (yes_none rfl) (lr_loadV1 (u := .int .i64 _) Tryz.underlying3 rfl rfl hva (by repeat (first | exact List.mem_cons_self | assumption | refine List.mem_cons_of_mem _ ?_)) (hx) (by exact fun _ => rfl) (by rfl)) ?_
      refine pl_take rfl (yes_none rfl) (vr_move (v := vb) rfl) ?_
      refine pl_take rfl (yes_none rfl) (vr_move (v := .int .i64 (k : Int)) rfl) ?_
      refine pl_take rfl (yes_none rfl) (vr_indexV (v := vb) Tryz.underlying38 sz_3 rfl hvb rfl (by omega) (by omega)) ?_
      refine pl_load rfl (yes_none rfl) (lr_loadV1 (u := .int .i64 _) Tryz.underlying3 rfl rfl hvb (by repeat (first | exact List.mem_cons_self | assumption | refine List.mem_cons_of_mem _ ?_)) (hy) (by exact fun _ => rfl) (by rfl)) ?_
      refine pl_take rfl (yes_none rfl) (vr_eql rfl rfl) ?_
      refine pl_take rfl (yes_none rfl) (vr_not rfl) ?_
      refine pl_nil hS ?_
      clear hS; intro w hS
      refine hK10 _ _ ?_
      refine cw_cond rfl rfl (fun hc => ?_) (fun hc => ?_)
      · (try simp only [decide_eq_true_eq, decide_eq_false_iff_not, Bool.not_eq_true, Bool.not_eq_false, Bool.not_eq_true', Bool.not_eq_false', Bool.and_eq_true, Bool.or_eq_true, Bool.and_eq_false_iff, Bool.or_eq_false_iff, Int.not_lt, Int.not_le, gt_iff_lt, ge_iff_le, ne_eq, Decidable.not_not, beq_iff_eq] at hc)
        have hc2 := hc; clear hc
        refine cw_seq fun K11 hK11 => ?_
        refine cw_region ?_
        refine wl_op rfl rfl (ow_vr (vr_assign (v := .bool false) rfl) ?_)
        refine wl_nil ?_
        refine hK11 _ _ ?_
        refine cw_ret ?_
        refine inB_ret (thenF_ret (thenF_ret (inB_ret (thenF_ret (?_)))))
        refine ret_one (fn := Tryz.f71) (n := 27) (t := 4) (.inl rfl) rfl rfl ?_
        exact ⟨[], ⟨congrArg Value.bool (by rw [eq_comm, decide_eq_false_iff_not]; intro e; subst e; rw [hx] at hy; cases hy; exact hc2 rfl), rfl⟩, hS⟩
      · (try simp only [decide_eq_true_eq, decide_eq_false_iff_not, Bool.not_eq_true, Bool.not_eq_false, Bool.not_eq_true', Bool.not_eq_false', Bool.and_eq_true, Bool.or_eq_true, Bool.and_eq_false_iff, Bool.or_eq_false_iff, Int.not_lt, Int.not_le, gt_iff_lt, ge_iff_le, ne_eq, Decidable.not_not, beq_iff_eq] at hc)
        have hc2 := hc; clear hc
        refine cw_skip ?_
        refine hK9 _ _ ?_
        refine cw_region ?_
        refine wl_op rfl rfl (ow_vr (vr_move (v := .int .i64 (k : Int)) rfl) ?_)
        first | (refine wl_op rfl rfl (ow_vr (vr_addi rfl rfl (by unfold inI64; omega)) ?_)) | (refine wl_op rfl rfl (ow_vr (vr_add rfl rfl) ?_))
        refine wl_op rfl rfl (ow_vr (vr_assign (v := .int .i64 _) rfl) ?_)
        refine wl_nil ?_
        refine thenF_normal ⟨_, ?_, k + 1, _, (reb (reb (reb rfl rfl) rfl) rfl), ?_, rfl, hS⟩
        · omega
        · refine ⟨by omega, ?_⟩; rw [take_snoc hx, take_snoc hy, hI0.2, hc2]
    · (try simp only [decide_eq_true_eq, decide_eq_false_iff_not, Bool.not_eq_true, Bool.not_eq_false, Bool.not_eq_true', Bool.not_eq_false', Bool.and_eq_true, Bool.or_eq_true, Bool.and_eq_false_iff, Bool.or_eq_false_iff, Int.not_lt, Int.not_le, gt_iff_lt, ge_iff_le, ne_eq, Decidable.not_not, beq_iff_eq] at hc)
      have hc1 := hc; clear hc
      refine cw_exit ?_
      refine hK5 _ _ ?_
      refine cw_seq fun K12 hK12 => ?_
      refine cw_region ?_
      refine wl_op rfl rfl (ow_vr (vr_assign (v := .bool true) rfl) ?_)
      refine wl_nil ?_
      refine hK12 _ _ ?_
      refine cw_ret ?_
      refine ret_one (fn := Tryz.f71) (n := 27) (t := 4) (.inl rfl) rfl rfl ?_
      exact ⟨[], ⟨congrArg Value.bool (by rw [eq_comm, decide_eq_true_eq]; have h := hI0.2; rwa [show k = xs.length by omega, List.take_length, List.take_of_length_le (by omega)] at h), rfl⟩, hS⟩
end Go.Proofs.YtjcagoighpmdkaaGreatDoor
