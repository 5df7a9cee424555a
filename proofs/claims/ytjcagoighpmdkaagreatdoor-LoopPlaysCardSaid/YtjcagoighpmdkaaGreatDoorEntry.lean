/- What package entry's functions return: which entries may be, groups, the changes of groups. -/
import Derived.Test.YtjcagoighpmdkaaGreatDoorFacts
namespace Go.Proofs.YtjcagoighpmdkaaGreatDoor
open Go Go.RowKit
set_option linter.unusedVariables false
set_option linter.unusedSimpArgs false
attribute [local irreducible] actF WL CW OW PL SW VR LR yes Returns Fn
def okN (x : Int) : Bool := decide (0 ≤ x) && decide (x < 4294967296)
theorem entry_number (xs : List Int) (v : Value) (Δ : Chunk) (hv : View 1 encI v xs Δ) (hn : xs.length ≤ 1000000) : FnG Tryz.prog 81 [v] [Δ] (fun u Δs => u = .bool (xs.all okN) ∧ Δs = []) := by
  refine FnG.mk fun E F w hS hF => ?_
  have hF0 : Δ ∈ F := hF _ (by simp)
  refine returns_enter Tryz.func81 rfl Tryz.ntmps81 rfl ?_
  refine cw_seq fun K1 hK1 => ?_
  refine cw_region ?_
  refine wl_op rfl rfl (ow_vr (vr_assign (v := .bool false) rfl) ?_)
  refine wl_nil ?_
  refine hK1 _ _ ?_
  refine cw_seq fun K2 hK2 => ?_
  refine cw_seq fun K3 hK3 => ?_
  refine cw_region ?_
  refine wl_op rfl rfl (ow_vr (vr_move (v := v) rfl) ?_)
  first | (refine wl_op rfl rfl (ow_vr (vr_len_sl Tryz.underlying38 rfl) ?_)) | (refine wl_op rfl rfl (ow_vr (vr_len_v (v := v) Tryz.underlying38 rfl (by first | assumption | (refine Own.view ?_ (by assumption); exact fun _ => rfl) | exact OwnB.view (by assumption))) ?_))
  refine wl_op rfl rfl (ow_vr (vr_move (v := .int .i64 0) rfl) ?_)
  refine wl_nil ?_
  refine hK3 _ _ ?_
  refine cw_block ?_
  refine cw_loop (fun m f w => ∃ (k : Nat) (g : Nat → Value), f = (upd (upd (upd g 5 (v)) 6 (.int .i64 (xs.length : Int))) 7 (.int .i64 (k : Int))) ∧ (k ≤ xs.length ∧ (xs.take k).all okN = true) ∧ m = xs.length - k ∧ Sat E (F) w) ⟨0, _, (reb (reb (reb rfl rfl) rfl) rfl), ?_, rfl, hS⟩ ?_
  · simp
  clear hS; rintro m f w ⟨k, g, rfl, hI0, rfl, hS⟩
  refine cw_seq fun K4 hK4 => ?_
  refine cw_region ?_
  refine wl_op rfl rfl (ow_vr (vr_lss rfl rfl) ?_)
  refine wl_nil ?_
  refine hK4 _ _ ?_
  refine cw_seq fun K5 hK5 => ?_
  refine cw_cond rfl rfl (fun hc => ?_) (fun hc => ?_)
  · (try simp only [decide_eq_true_eq, decide_eq_false_iff_not, Bool.not_eq_true, Bool.not_eq_false, Bool.not_eq_true', Bool.not_eq_false', Bool.and_eq_true, Bool.or_eq_true, Bool.and_eq_false_iff, Bool.or_eq_false_iff, Int.not_lt, Int.not_le, gt_iff_lt, ge_iff_le, ne_eq, Decidable.not_not, beq_iff_eq] at hc)
    have hc0 := hc; clear hc
    refine cw_skip ?_
    refine hK5 _ _ ?_
    refine cw_seq fun K6 hK6 => ?_
    refine cw_block ?_
    refine cw_seq fun K7 hK7 => ?_
    obtain ⟨x, hx⟩ := get_lt (xs := xs) (k := k) (by omega)
    refine cw_region ?_
    first | (refine wl_op rfl rfl (ow_vr (vr_indexAddr Tryz.underlying38 sz_3 rfl rfl (by omega) (by omega)) ?_)) | (refine wl_op rfl rfl (ow_vr (vr_indexV (v := v) Tryz.underlying38 sz_3 rfl (by first | assumption | (refine Own.view ?_ (by assumption); exact fun _ => rfl) | exact OwnB.view (by assumption)) rfl (by omega) (by first | omega | (simp <;> omega))) ?_))
    refine wl_op rfl rfl (ow_lr (S := Sat _ _) (lr_loadV1 (u := .int .i64 _) Tryz.underlying3 rfl rfl (by first | assumption | (refine Own.view ?_ (by assumption); exact fun _ => rfl) | exact OwnB.view (by assumption)) (by repeat (first | exact List.mem_cons_self | assumption | refine List.mem_cons_of_mem _ ?_)) (hx) (by exact fun _ => rfl) (by rfl)) hS ?_)
    refine wl_op rfl rfl (ow_vr (vr_assign (v := .int .i64 _) rfl) ?_)
    refine wl_nil ?_
    refine hK7 _ _ ?_
    refine cw_seq fun K8 hK8 => ?_
    refine cw_region ?_
    refine wl_op rfl rfl (ow_vr (vr_move (v := .int .i64 _) rfl) ?_)
    refine wl_op rfl rfl (ow_vr (vr_lss rfl rfl) ?_)
    refine wl_op rfl rfl (ow_vr (vr_move (v := .bool _) rfl) ?_)
    refine wl_split 13 rfl (fun hc => ?_) (fun hc => ?_)
    · (try simp only [decide_eq_true_eq, decide_eq_false_iff_not, Bool.not_eq_true, Bool.not_eq_false, Bool.not_eq_true', Bool.not_eq_false', Bool.and_eq_true, Bool.or_eq_true, Bool.and_eq_false_iff, Bool.or_eq_false_iff, Int.not_lt, Int.not_le, gt_iff_lt, ge_iff_le, ne_eq, Decidable.not_not, beq_iff_eq] at hc)
      have hg13 := hc; clear hc
      refine wl_noD rfl rfl rfl rfl rfl rfl ?_
      refine wl_noD rfl rfl rfl rfl rfl rfl ?_
      refine wl_op rfl rfl (ow_vr (vr_pick (b := true) (v := .bool _) rfl rfl) ?_)
      refine wl_nil ?_
      refine hK8 _ _ ?_
      refine cw_cond_t rfl rfl (rfl) ?_
      refine cw_seq fun K9 hK9 => ?_
      refine cw_region ?_
      refine wl_op rfl rfl (ow_vr (vr_assign (v := .bool false) rfl) ?_)
      refine wl_nil ?_
      refine hK9 _ _ ?_
      refine cw_ret ?_
      refine inB_ret (thenF_ret (thenF_ret (inB_ret (thenF_ret (?_)))))
      refine ret_one (fn := Tryz.f81) (n := 18) (t := 2) (.inl rfl) rfl rfl ?_
      refine ⟨[], ⟨congrArg Value.bool ?_, rfl⟩, hS⟩; first | (rw [eq_comm, List.all_eq_false]; exact ⟨x, List.mem_of_getElem? hx, by simp [okN]; omega⟩) | (have h1 := hI0.2; rw [show k = xs.length by omega, List.take_length] at h1; exact h1.symm)
    · (try simp only [decide_eq_true_eq, decide_eq_false_iff_not, Bool.not_eq_true, Bool.not_eq_false, Bool.not_eq_true', Bool.not_eq_false', Bool.and_eq_true, Bool.or_eq_true, Bool.and_eq_false_iff, Bool.or_eq_false_iff, Int.not_lt, Int.not_le, gt_iff_lt, ge_iff_le, ne_eq, Decidable.not_not, beq_iff_eq] at hc)
      have hg13 := hc; clear hc
      refine wl_yes rfl rfl rfl rfl rfl (ow_vr (vr_move (v := .int .i64 _) rfl) ?_)
      refine wl_yes rfl rfl rfl rfl rfl (ow_vr (vr_geq rfl rfl) ?_)
      refine wl_op rfl rfl (ow_vr (vr_pick (b := false) (v := .bool _) rfl rfl) ?_)
      refine wl_nil ?_
      refine hK8 _ _ ?_
      refine cw_cond rfl rfl (fun hc => ?_) (fun hc => ?_)
      · (try simp only [decide_eq_true_eq, decide_eq_false_iff_not, Bool.not_eq_true, Bool.not_eq_false, Bool.not_eq_true', Bool.not_eq_false', Bool.and_eq_true, Bool.or_eq_true, Bool.and_eq_false_iff, Bool.or_eq_false_iff, Int.not_lt, Int.not_le, gt_iff_lt, ge_iff_le, ne_eq, Decidable.not_not, beq_iff_eq] at hc)
        have hc1 := hc; clear hc
        refine cw_seq fun K10 hK10 => ?_
        refine cw_region ?_
        refine wl_op rfl rfl (ow_vr (vr_assign (v := .bool false) rfl) ?_)
        refine wl_nil ?_
        refine hK10 _ _ ?_
        refine cw_ret ?_
        refine inB_ret (thenF_ret (thenF_ret (inB_ret (thenF_ret (?_)))))
        refine ret_one (fn := Tryz.f81) (n := 18) (t := 2) (.inl rfl) rfl rfl ?_
        refine ⟨[], ⟨congrArg Value.bool ?_, rfl⟩, hS⟩; first | (rw [eq_comm, List.all_eq_false]; exact ⟨x, List.mem_of_getElem? hx, by simp [okN]; omega⟩) | (have h1 := hI0.2; rw [show k = xs.length by omega, List.take_length] at h1; exact h1.symm)
      · (try simp only [decide_eq_true_eq, decide_eq_false_iff_not, Bool.not_eq_true, Bool.not_eq_false, Bool.not_eq_true', Bool.not_eq_false', Bool.and_eq_true, Bool.or_eq_true, Bool.and_eq_false_iff, Bool.or_eq_false_iff, Int.not_lt, Int.not_le, gt_iff_lt, ge_iff_le, ne_eq, Decidable.not_not, beq_iff_eq] at hc)
        have hc1 := hc; clear hc
        refine cw_skip ?_
        refine hK6 _ _ ?_
        refine cw_region ?_
        first | (refine wl_op rfl rfl (ow_vr (vr_addi rfl rfl (by unfold inI64; omega)) ?_)) | (refine wl_op rfl rfl (ow_vr (vr_add rfl rfl) ?_))
        refine wl_op rfl rfl (ow_vr (vr_move (v := .int .i64 _) rfl) ?_)
        refine wl_nil ?_
        refine thenF_normal ⟨_, ?_, k + 1, _, (reb (reb (reb rfl rfl) rfl) rfl), ?_, rfl, hS⟩
        · omega
        · refine ⟨by omega, ?_⟩; rw [take_snoc hx, List.all_append, hI0.2]; simp [okN]; omega
  · (try simp only [decide_eq_true_eq, decide_eq_false_iff_not, Bool.not_eq_true, Bool.not_eq_false, Bool.not_eq_true', Bool.not_eq_false', Bool.and_eq_true, Bool.or_eq_true, Bool.and_eq_false_iff, Bool.or_eq_false_iff, Int.not_lt, Int.not_le, gt_iff_lt, ge_iff_le, ne_eq, Decidable.not_not, beq_iff_eq] at hc)
    have hc0 := hc; clear hc
    refine cw_exit ?_
    refine hK2 _ _ ?_
    refine cw_seq fun K11 hK11 => ?_
    refine cw_region ?_
    refine wl_op rfl rfl (ow_vr (vr_assign (v := .bool true) rfl) ?_)
    refine wl_nil ?_
    refine hK11 _ _ ?_
    refine cw_ret ?_
    refine ret_one (fn := Tryz.f81) (n := 18) (t := 2) (.inl rfl) rfl rfl ?_
    refine ⟨[], ⟨congrArg Value.bool ?_, rfl⟩, hS⟩; first | (rw [eq_comm, List.all_eq_false]; exact ⟨x, List.mem_of_getElem? hx, by simp [okN]; omega⟩) | (have h1 := hI0.2; rw [show k = xs.length by omega, List.take_length] at h1; exact h1.symm)
/-- An entry. -/
structure Entr where
  kind : Int
  lsn : Int
  epoch : Int
  cell : Int
  value : Int
def encE (e : Entr) : List Value := [.int .i64 e.kind, .int .i64 e.lsn, .int .i64 e.epoch, .int .i64 e.cell, .int .i64 e.value]
def encC (c : Int × Int) : List Value := [.int .i64 c.1, .int .i64 c.2]
def rightE (e : Entr) : Bool := ((decide (e.kind = 2) && decide (e.value = 0)) || decide (e.kind = 1)) && [e.lsn, e.epoch, e.cell, e.value].all okN
theorem entry_Right (k l ep c v : Int) : FnV Tryz.prog 58 [.agg #[.int .i64 k, .int .i64 l, .int .i64 ep, .int .i64 c, .int .i64 v]] (.bool (rightE ⟨k, l, ep, c, v⟩)) := by
  refine FnV.mk fun E F w hS => ?_
  refine returns_enter Tryz.func58 rfl Tryz.ntmps58 rfl ?_
  refine cw_seq fun K1 hK1 => ?_
  refine cw_region ?_
  refine wl_op rfl rfl (ow_box (cs := [_, _, _, _, _]) hS rfl rfl ?_)
  clear hS; intro b1 w hS
  refine wl_op rfl rfl (ow_vr (vr_assign (v := .bool false) rfl) ?_)
  refine wl_nil ?_
  refine hK1 _ _ ?_
  refine cw_seq fun K2 hK2 => ?_
  refine cw_seq fun K3 hK3 => ?_
  refine cw_region ?_
  first | (refine wl_op rfl rfl (ow_vr (vr_fieldAddr fo_74_0 rfl) ?_)) | (refine wl_op rfl rfl (ow_vr (vr_fieldAddrV fo_74_0 rfl (by first | assumption | (refine Own.view ?_ (by assumption); exact fun _ => rfl) | exact OwnB.view (by assumption)) (by first | omega | (simp <;> omega))) ?_))
  refine wl_op rfl rfl (ow_lr (S := Sat _ _) (lr_load1 Tryz.underlying3 rfl rfl (by first | exact Has.here | exact Has.there (Has.here) | exact Has.there (Has.there (Has.here)) | exact Has.there (Has.there (Has.there (Has.here))) | exact Has.there (Has.there (Has.there (Has.there (Has.here)))) | exact Has.there (Has.there (Has.there (Has.there (Has.there (Has.here))))) | exact Has.there (Has.there (Has.there (Has.there (Has.there (Has.there (Has.here)))))) | exact Has.there (Has.there (Has.there (Has.there (Has.there (Has.there (Has.there (Has.here)))))))) rfl) hS ?_)
  refine wl_nil ?_
  refine hK3 _ _ ?_
  refine cw_block ?_
  refine cw_seq fun K4 hK4 => ?_
  refine cw_block ?_
  refine cw_seq fun K5 hK5 => ?_
  refine cw_block ?_
  refine cw_seq fun K6 hK6 => ?_
  refine cw_seq fun K7 hK7 => ?_
  refine cw_seq fun K8 hK8 => ?_
  refine cw_region ?_
  refine wl_op rfl rfl (ow_vr (vr_eql rfl rfl) ?_)
  refine wl_op rfl rfl (ow_vr (vr_assign (v := .bool _) rfl) ?_)
  refine wl_nil ?_
  refine hK8 _ _ ?_
  refine cw_cond rfl rfl (fun hc => ?_) (fun hc => ?_)
  · (try simp only [decide_eq_true_eq, decide_eq_false_iff_not, Bool.not_eq_true, Bool.not_eq_false, Bool.not_eq_true', Bool.not_eq_false', Bool.and_eq_true, Bool.or_eq_true, Bool.and_eq_false_iff, Bool.or_eq_false_iff, Int.not_lt, Int.not_le, gt_iff_lt, ge_iff_le, ne_eq, Decidable.not_not, beq_iff_eq] at hc)
    have hc0 := hc; clear hc
    refine cw_exit ?_
    refine hK5 _ _ ?_
    refine cw_seq fun K9 hK9 => ?_
    refine cw_region ?_
    first | (refine wl_op rfl rfl (ow_vr (vr_fieldAddr fo_74_4 rfl) ?_)) | (refine wl_op rfl rfl (ow_vr (vr_fieldAddrV fo_74_4 rfl (by first | assumption | (refine Own.view ?_ (by assumption); exact fun _ => rfl) | exact OwnB.view (by assumption)) (by first | omega | (simp <;> omega))) ?_))
    refine wl_op rfl rfl (ow_lr (S := Sat _ _) (lr_load1 Tryz.underlying3 rfl rfl (by first | exact Has.here | exact Has.there (Has.here) | exact Has.there (Has.there (Has.here)) | exact Has.there (Has.there (Has.there (Has.here))) | exact Has.there (Has.there (Has.there (Has.there (Has.here)))) | exact Has.there (Has.there (Has.there (Has.there (Has.there (Has.here))))) | exact Has.there (Has.there (Has.there (Has.there (Has.there (Has.there (Has.here)))))) | exact Has.there (Has.there (Has.there (Has.there (Has.there (Has.there (Has.there (Has.here)))))))) rfl) hS ?_)
    refine wl_op rfl rfl (ow_vr (vr_neq rfl rfl) ?_)
    refine wl_nil ?_
    refine hK9 _ _ ?_
    refine cw_cond rfl rfl (fun hc => ?_) (fun hc => ?_)
    · (try simp only [decide_eq_true_eq, decide_eq_false_iff_not, Bool.not_eq_true, Bool.not_eq_false, Bool.not_eq_true', Bool.not_eq_false', Bool.and_eq_true, Bool.or_eq_true, Bool.and_eq_false_iff, Bool.or_eq_false_iff, Int.not_lt, Int.not_le, gt_iff_lt, ge_iff_le, ne_eq, Decidable.not_not, beq_iff_eq] at hc)
      have hc2 := hc; clear hc
      refine cw_seq fun K10 hK10 => ?_
      refine cw_region ?_
      refine wl_op rfl rfl (ow_vr (vr_assign (v := .bool false) rfl) ?_)
      refine wl_nil ?_
      refine hK10 _ _ ?_
      refine cw_ret ?_
      refine inB_ret (thenF_ret (inB_ret (thenF_ret (?_))))
      refine ret_one (fn := Tryz.f58) (n := 22) (t := 2) (.inl rfl) rfl rfl ?_
      refine ⟨congrArg Value.bool ?_, by first | exact hS.tail1 | exact hS.tail1.tail1 | exact hS.tail1.tail1.tail1⟩; simp [rightE, *]
    · (try simp only [decide_eq_true_eq, decide_eq_false_iff_not, Bool.not_eq_true, Bool.not_eq_false, Bool.not_eq_true', Bool.not_eq_false', Bool.and_eq_true, Bool.or_eq_true, Bool.and_eq_false_iff, Bool.or_eq_false_iff, Int.not_lt, Int.not_le, gt_iff_lt, ge_iff_le, ne_eq, Decidable.not_not, beq_iff_eq] at hc)
      have hc2 := hc; clear hc
      refine cw_skip ?_
      refine hK4 _ _ ?_
      refine cw_seq fun K11 hK11 => ?_
      refine cw_seq fun K12 hK12 => ?_
      refine cw_region ?_
      first | (refine wl_op rfl rfl (ow_vr (vr_fieldAddr fo_74_1 rfl) ?_)) | (refine wl_op rfl rfl (ow_vr (vr_fieldAddrV fo_74_1 rfl (by first | assumption | (refine Own.view ?_ (by assumption); exact fun _ => rfl) | exact OwnB.view (by assumption)) (by first | omega | (simp <;> omega))) ?_))
      refine wl_op rfl rfl (ow_lr (S := Sat _ _) (lr_load1 Tryz.underlying3 rfl rfl (by first | exact Has.here | exact Has.there (Has.here) | exact Has.there (Has.there (Has.here)) | exact Has.there (Has.there (Has.there (Has.here))) | exact Has.there (Has.there (Has.there (Has.there (Has.here)))) | exact Has.there (Has.there (Has.there (Has.there (Has.there (Has.here))))) | exact Has.there (Has.there (Has.there (Has.there (Has.there (Has.there (Has.here)))))) | exact Has.there (Has.there (Has.there (Has.there (Has.there (Has.there (Has.there (Has.here)))))))) rfl) hS ?_)
      first | (refine wl_op rfl rfl (ow_vr (vr_fieldAddr fo_74_2 rfl) ?_)) | (refine wl_op rfl rfl (ow_vr (vr_fieldAddrV fo_74_2 rfl (by first | assumption | (refine Own.view ?_ (by assumption); exact fun _ => rfl) | exact OwnB.view (by assumption)) (by first | omega | (simp <;> omega))) ?_))
      refine wl_op rfl rfl (ow_lr (S := Sat _ _) (lr_load1 Tryz.underlying3 rfl rfl (by first | exact Has.here | exact Has.there (Has.here) | exact Has.there (Has.there (Has.here)) | exact Has.there (Has.there (Has.there (Has.here))) | exact Has.there (Has.there (Has.there (Has.there (Has.here)))) | exact Has.there (Has.there (Has.there (Has.there (Has.there (Has.here))))) | exact Has.there (Has.there (Has.there (Has.there (Has.there (Has.there (Has.here)))))) | exact Has.there (Has.there (Has.there (Has.there (Has.there (Has.there (Has.there (Has.here)))))))) rfl) hS ?_)
      first | (refine wl_op rfl rfl (ow_vr (vr_fieldAddr fo_74_3 rfl) ?_)) | (refine wl_op rfl rfl (ow_vr (vr_fieldAddrV fo_74_3 rfl (by first | assumption | (refine Own.view ?_ (by assumption); exact fun _ => rfl) | exact OwnB.view (by assumption)) (by first | omega | (simp <;> omega))) ?_))
      refine wl_op rfl rfl (ow_lr (S := Sat _ _) (lr_load1 Tryz.underlying3 rfl rfl (by first | exact Has.here | exact Has.there (Has.here) | exact Has.there (Has.there (Has.here)) | exact Has.there (Has.there (Has.there (Has.here))) | exact Has.there (Has.there (Has.there (Has.there (Has.here)))) | exact Has.there (Has.there (Has.there (Has.there (Has.there (Has.here))))) | exact Has.there (Has.there (Has.there (Has.there (Has.there (Has.there (Has.here)))))) | exact Has.there (Has.there (Has.there (Has.there (Has.there (Has.there (Has.there (Has.here)))))))) rfl) hS ?_)
      first | (refine wl_op rfl rfl (ow_vr (vr_fieldAddr fo_74_4 rfl) ?_)) | (refine wl_op rfl rfl (ow_vr (vr_fieldAddrV fo_74_4 rfl (by first | assumption | (refine Own.view ?_ (by assumption); exact fun _ => rfl) | exact OwnB.view (by assumption)) (by first | omega | (simp <;> omega))) ?_))
      refine wl_op rfl rfl (ow_lr (S := Sat _ _) (lr_load1 Tryz.underlying3 rfl rfl (by first | exact Has.here | exact Has.there (Has.here) | exact Has.there (Has.there (Has.here)) | exact Has.there (Has.there (Has.there (Has.here))) | exact Has.there (Has.there (Has.there (Has.there (Has.here)))) | exact Has.there (Has.there (Has.there (Has.there (Has.there (Has.here))))) | exact Has.there (Has.there (Has.there (Has.there (Has.there (Has.there (Has.here)))))) | exact Has.there (Has.there (Has.there (Has.there (Has.there (Has.there (Has.there (Has.here)))))))) rfl) hS ?_)
      refine wl_op rfl rfl (ow_buildSliceD (m := 1) (len := 4) (vs := [.int .i64 _, .int .i64 _, .int .i64 _, .int .i64 _]) (cs := [.int .i64 _, .int .i64 _, .int .i64 _, .int .i64 _]) hS Tryz.underlying38 if_3 rfl (by decide) (by decide) rfl rfl (by simp [Value.cells]) rfl ?_)
      clear hS; intro b20 w hS
      refine wl_op rfl rfl (ow_fng (vs := [.slice _ _ _]) en_81 rfl hS (entry_number [l, ep, c, v] _ _ (View.lits rfl rfl rfl) (by simp)) (by repeat (first | exact needs0 | (refine needsC ?_ ?_; · (repeat (first | exact List.mem_cons_self | assumption | refine List.mem_cons_of_mem _ ?_))))) ?_)
      clear hS; rintro v21 _ w ⟨rfl, rfl⟩ hS; (try simp only [List.cons_append, List.nil_append] at hS)
      refine wl_op rfl rfl (ow_vr (vr_assign (v := .bool _) rfl) ?_)
      refine wl_nil ?_
      refine hK12 _ _ ?_
      refine cw_ret ?_
      refine thenF_ret (inB_ret (thenF_ret (?_)))
      refine ret_one (fn := Tryz.f58) (n := 22) (t := 2) (.inl rfl) rfl rfl ?_
      refine ⟨congrArg Value.bool ?_, by first | exact hS.tail1 | exact hS.tail1.tail1 | exact hS.tail1.tail1.tail1⟩; simp [rightE, *]
  · (try simp only [decide_eq_true_eq, decide_eq_false_iff_not, Bool.not_eq_true, Bool.not_eq_false, Bool.not_eq_true', Bool.not_eq_false', Bool.and_eq_true, Bool.or_eq_true, Bool.and_eq_false_iff, Bool.or_eq_false_iff, Int.not_lt, Int.not_le, gt_iff_lt, ge_iff_le, ne_eq, Decidable.not_not, beq_iff_eq] at hc)
    have hc0 := hc; clear hc
    refine cw_skip ?_
    refine hK7 _ _ ?_
    refine cw_seq fun K13 hK13 => ?_
    refine cw_region ?_
    refine wl_op rfl rfl (ow_vr (vr_eql rfl rfl) ?_)
    refine wl_op rfl rfl (ow_vr (vr_assign (v := .bool _) rfl) ?_)
    refine wl_nil ?_
    refine hK13 _ _ ?_
    refine cw_cond rfl rfl (fun hc => ?_) (fun hc => ?_)
    · (try simp only [decide_eq_true_eq, decide_eq_false_iff_not, Bool.not_eq_true, Bool.not_eq_false, Bool.not_eq_true', Bool.not_eq_false', Bool.and_eq_true, Bool.or_eq_true, Bool.and_eq_false_iff, Bool.or_eq_false_iff, Int.not_lt, Int.not_le, gt_iff_lt, ge_iff_le, ne_eq, Decidable.not_not, beq_iff_eq] at hc)
      have hc1 := hc; clear hc
      refine cw_exit ?_
      refine hK4 _ _ ?_
      refine cw_seq fun K14 hK14 => ?_
      refine cw_seq fun K15 hK15 => ?_
      refine cw_region ?_
      first | (refine wl_op rfl rfl (ow_vr (vr_fieldAddr fo_74_1 rfl) ?_)) | (refine wl_op rfl rfl (ow_vr (vr_fieldAddrV fo_74_1 rfl (by first | assumption | (refine Own.view ?_ (by assumption); exact fun _ => rfl) | exact OwnB.view (by assumption)) (by first | omega | (simp <;> omega))) ?_))
      refine wl_op rfl rfl (ow_lr (S := Sat _ _) (lr_load1 Tryz.underlying3 rfl rfl (by first | exact Has.here | exact Has.there (Has.here) | exact Has.there (Has.there (Has.here)) | exact Has.there (Has.there (Has.there (Has.here))) | exact Has.there (Has.there (Has.there (Has.there (Has.here)))) | exact Has.there (Has.there (Has.there (Has.there (Has.there (Has.here))))) | exact Has.there (Has.there (Has.there (Has.there (Has.there (Has.there (Has.here)))))) | exact Has.there (Has.there (Has.there (Has.there (Has.there (Has.there (Has.there (Has.here)))))))) rfl) hS ?_)
      first | (refine wl_op rfl rfl (ow_vr (vr_fieldAddr fo_74_2 rfl) ?_)) | (refine wl_op rfl rfl (ow_vr (vr_fieldAddrV fo_74_2 rfl (by first | assumption | (refine Own.view ?_ (by assumption); exact fun _ => rfl) | exact OwnB.view (by assumption)) (by first | omega | (simp <;> omega))) ?_))
      refine wl_op rfl rfl (ow_lr (S := Sat _ _) (lr_load1 Tryz.underlying3 rfl rfl (by first | exact Has.here | exact Has.there (Has.here) | exact Has.there (Has.there (Has.here)) | exact Has.there (Has.there (Has.there (Has.here))) | exact Has.there (Has.there (Has.there (Has.there (Has.here)))) | exact Has.there (Has.there (Has.there (Has.there (Has.there (Has.here))))) | exact Has.there (Has.there (Has.there (Has.there (Has.there (Has.there (Has.here)))))) | exact Has.there (Has.there (Has.there (Has.there (Has.there (Has.there (Has.there (Has.here)))))))) rfl) hS ?_)
      first | (refine wl_op rfl rfl (ow_vr (vr_fieldAddr fo_74_3 rfl) ?_)) | (refine wl_op rfl rfl (ow_vr (vr_fieldAddrV fo_74_3 rfl (by first | assumption | (refine Own.view ?_ (by assumption); exact fun _ => rfl) | exact OwnB.view (by assumption)) (by first | omega | (simp <;> omega))) ?_))
      refine wl_op rfl rfl (ow_lr (S := Sat _ _) (lr_load1 Tryz.underlying3 rfl rfl (by first | exact Has.here | exact Has.there (Has.here) | exact Has.there (Has.there (Has.here)) | exact Has.there (Has.there (Has.there (Has.here))) | exact Has.there (Has.there (Has.there (Has.there (Has.here)))) | exact Has.there (Has.there (Has.there (Has.there (Has.there (Has.here))))) | exact Has.there (Has.there (Has.there (Has.there (Has.there (Has.there (Has.here)))))) | exact Has.there (Has.there (Has.there (Has.there (Has.there (Has.there (Has.there (Has.here)))))))) rfl) hS ?_)
      first | (refine wl_op rfl rfl (ow_vr (vr_fieldAddr fo_74_4 rfl) ?_)) | (refine wl_op rfl rfl (ow_vr (vr_fieldAddrV fo_74_4 rfl (by first | assumption | (refine Own.view ?_ (by assumption); exact fun _ => rfl) | exact OwnB.view (by assumption)) (by first | omega | (simp <;> omega))) ?_))
      refine wl_op rfl rfl (ow_lr (S := Sat _ _) (lr_load1 Tryz.underlying3 rfl rfl (by first | exact Has.here | exact Has.there (Has.here) | exact Has.there (Has.there (Has.here)) | exact Has.there (Has.there (Has.there (Has.here))) | exact Has.there (Has.there (Has.there (Has.there (Has.here)))) | exact Has.there (Has.there (Has.there (Has.there (Has.there (Has.here))))) | exact Has.there (Has.there (Has.there (Has.there (Has.there (Has.there (Has.here)))))) | exact Has.there (Has.there (Has.there (Has.there (Has.there (Has.there (Has.there (Has.here)))))))) rfl) hS ?_)
      refine wl_op rfl rfl (ow_buildSliceD (m := 1) (len := 4) (vs := [.int .i64 _, .int .i64 _, .int .i64 _, .int .i64 _]) (cs := [.int .i64 _, .int .i64 _, .int .i64 _, .int .i64 _]) hS Tryz.underlying38 if_3 rfl (by decide) (by decide) rfl rfl (by simp [Value.cells]) rfl ?_)
      clear hS; intro b20 w hS
      refine wl_op rfl rfl (ow_fng (vs := [.slice _ _ _]) en_81 rfl hS (entry_number [l, ep, c, v] _ _ (View.lits rfl rfl rfl) (by simp)) (by repeat (first | exact needs0 | (refine needsC ?_ ?_; · (repeat (first | exact List.mem_cons_self | assumption | refine List.mem_cons_of_mem _ ?_))))) ?_)
      clear hS; rintro v21 _ w ⟨rfl, rfl⟩ hS; (try simp only [List.cons_append, List.nil_append] at hS)
      refine wl_op rfl rfl (ow_vr (vr_assign (v := .bool _) rfl) ?_)
      refine wl_nil ?_
      refine hK15 _ _ ?_
      refine cw_ret ?_
      refine thenF_ret (inB_ret (thenF_ret (?_)))
      refine ret_one (fn := Tryz.f58) (n := 22) (t := 2) (.inl rfl) rfl rfl ?_
      refine ⟨congrArg Value.bool ?_, by first | exact hS.tail1 | exact hS.tail1.tail1 | exact hS.tail1.tail1.tail1⟩; simp [rightE, *]
    · (try simp only [decide_eq_true_eq, decide_eq_false_iff_not, Bool.not_eq_true, Bool.not_eq_false, Bool.not_eq_true', Bool.not_eq_false', Bool.and_eq_true, Bool.or_eq_true, Bool.and_eq_false_iff, Bool.or_eq_false_iff, Int.not_lt, Int.not_le, gt_iff_lt, ge_iff_le, ne_eq, Decidable.not_not, beq_iff_eq] at hc)
      have hc1 := hc; clear hc
      refine cw_skip ?_
      refine hK6 _ _ ?_
      refine cw_exit ?_
      refine hK2 _ _ ?_
      refine cw_seq fun K16 hK16 => ?_
      refine cw_region ?_
      refine wl_op rfl rfl (ow_vr (vr_assign (v := .bool false) rfl) ?_)
      refine wl_nil ?_
      refine hK16 _ _ ?_
      refine cw_ret ?_
      refine ret_one (fn := Tryz.f58) (n := 22) (t := 2) (.inl rfl) rfl rfl ?_
      refine ⟨congrArg Value.bool ?_, by first | exact hS.tail1 | exact hS.tail1.tail1 | exact hS.tail1.tail1.tail1⟩; simp [rightE, *]
/-- The entries of some changes from number lsn on. -/
def chE (ep : Int) : Int → List (Int × Int) → List Entr
  | _, [] => []
  | lsn, c :: l => ⟨1, lsn, ep, c.1, c.2⟩ :: chE ep (lsn + 1) l
theorem chE_length (ep : Int) : ∀ (l : List (Int × Int)) (lsn : Int), (chE ep lsn l).length = l.length
  | [], _ => rfl
  | c :: l, lsn => by simp [chE, chE_length ep l]
theorem chE_snoc (ep : Int) (c : Int × Int) : ∀ (l : List (Int × Int)) (lsn : Int), chE ep lsn (l ++ [c]) = chE ep lsn l ++ [⟨1, lsn + (l.length : Int), ep, c.1, c.2⟩]
  | [], lsn => by simp [chE]
  | d :: l, lsn => by
    simp only [List.cons_append, chE, chE_snoc ep c l, List.length_cons, List.cons.injEq, true_and, List.append_cancel_left_eq, and_true, Entr.mk.injEq]
    omega
def groupL (lsn ep : Int) (l : List (Int × Int)) : List Entr := chE ep lsn l ++ [⟨2, lsn + (l.length : Int), ep, (l.length : Int), 0⟩]
theorem groupL_length (lsn ep : Int) (l : List (Int × Int)) : (groupL lsn ep l).length = l.length + 1 := by simp [groupL, chE_length]
theorem entry_Group (lsn ep : Int) (l : List (Int × Int)) (v : Value) (Δ : Chunk) (hv : View 2 encC v l Δ) (hn : l.length ≤ 1000000) (h1 : -4611686018427387904 ≤ lsn) (h2 : lsn ≤ 4611686018427387904) :
    FnG Tryz.prog 25 [.int .i64 lsn, .int .i64 ep, v] [Δ] (fun u Δs => ∃ v' D, u = .tuple #[v', .bool ((groupL lsn ep l).all rightE)] ∧ Δs = [D] ∧ Own 74 5 encE v' (if (groupL lsn ep l).all rightE then groupL lsn ep l else []) D) := by
  refine FnG.mk fun E F w hS hF => ?_
  have hF0 : Δ ∈ F := hF _ (by simp)
  refine returns_enter Tryz.func25 rfl Tryz.ntmps25 rfl ?_
  refine cw_seq fun K1 hK1 => ?_
  refine cw_region ?_
  refine wl_op rfl rfl (ow_vr (vr_assign (v := .slice none 0 0) rfl) ?_)
  refine wl_op rfl rfl (ow_vr (vr_assign (v := .bool false) rfl) ?_)
  refine wl_nil ?_
  refine hK1 _ _ ?_
  refine cw_seq fun K2 hK2 => ?_
  refine cw_region ?_
  refine wl_op rfl rfl (ow_vr (vr_assign (v := .slice none 0 0) rfl) ?_)
  refine wl_nil ?_
  refine hK2 _ _ ?_
  refine cw_seq fun K3 hK3 => ?_
  refine cw_seq fun K4 hK4 => ?_
  have hS := Sat.nilc.2 hS
  refine cw_region ?_
  refine wl_op rfl rfl (ow_vr (vr_move (v := v) rfl) ?_)
  first | (refine wl_op rfl rfl (ow_vr (vr_len_sl Tryz.underlying28 rfl) ?_)) | (refine wl_op rfl rfl (ow_vr (vr_len_v (v := v) Tryz.underlying28 rfl (by first | assumption | (refine Own.view ?_ (by assumption); exact fun _ => rfl) | exact OwnB.view (by assumption))) ?_))
  refine wl_op rfl rfl (ow_vr (vr_move (v := .int .i64 0) rfl) ?_)
  refine wl_nil ?_
  refine hK4 _ _ ?_
  refine cw_block ?_
  refine cw_loop (fun m f w => ∃ (k : Nat) (v8 : Value) (D8 : Chunk) (g : Nat → Value), f = (upd (upd (upd (upd (upd (upd (upd g 0 (.int .i64 lsn)) 1 (.int .i64 ep)) 2 (v)) 8 (v8)) 13 (v)) 14 (.int .i64 (l.length : Int))) 15 (.int .i64 (k : Int))) ∧ (k ≤ l.length ∧ Own 74 5 encE v8 (chE ep lsn (l.take k)) D8) ∧ m = l.length - k ∧ Sat E (D8 :: F) w) ⟨0, .slice none 0 0, [], _, (reb (reb (reb (reb (reb (reb (reb rfl rfl) rfl) rfl) rfl) rfl) rfl) rfl), ?_, rfl, hS⟩ ?_
  · exact ⟨by omega, Own.nil⟩
  clear hS; rintro m f w ⟨k, v8, D8, g, rfl, hI0, rfl, hS⟩
  obtain ⟨hk, ho8⟩ := hI0
  refine cw_seq fun K5 hK5 => ?_
  refine cw_region ?_
  refine wl_op rfl rfl (ow_vr (vr_lss rfl rfl) ?_)
  refine wl_nil ?_
  refine hK5 _ _ ?_
  refine cw_seq fun K6 hK6 => ?_
  refine cw_cond rfl rfl (fun hc => ?_) (fun hc => ?_)
  · (try simp only [decide_eq_true_eq, decide_eq_false_iff_not, Bool.not_eq_true, Bool.not_eq_false, Bool.not_eq_true', Bool.not_eq_false', Bool.and_eq_true, Bool.or_eq_true, Bool.and_eq_false_iff, Bool.or_eq_false_iff, Int.not_lt, Int.not_le, gt_iff_lt, ge_iff_le, ne_eq, Decidable.not_not, beq_iff_eq] at hc)
    have hc0 := hc; clear hc
    refine cw_skip ?_
    refine hK6 _ _ ?_
    refine cw_seq fun K7 hK7 => ?_
    refine cw_block ?_
    refine cw_seq fun K8 hK8 => ?_
    obtain ⟨c, hc⟩ := get_lt (xs := l) (k := k) (by omega)
    refine cw_region ?_
    refine wl_op rfl rfl (ow_vr (vr_move (v := .int .i64 (k : Int)) rfl) ?_)
    first | (refine wl_op rfl rfl (ow_vr (vr_indexAddr Tryz.underlying28 sz_55 rfl rfl (by omega) (by omega)) ?_)) | (refine wl_op rfl rfl (ow_vr (vr_indexV (v := v) Tryz.underlying28 sz_55 rfl (by first | assumption | (refine Own.view ?_ (by assumption); exact fun _ => rfl) | exact OwnB.view (by assumption)) rfl (by omega) (by first | omega | (simp <;> omega))) ?_))
    refine wl_op rfl rfl (ow_lr (S := Sat _ _) (lr_loadVA (cs := [.int .i64 _, .int .i64 _]) Tryz.underlying55 rfl sz_55 rfl (by first | assumption | (refine Own.view ?_ (by assumption); exact fun _ => rfl) | exact OwnB.view (by assumption)) (by repeat (first | exact List.mem_cons_self | assumption | refine List.mem_cons_of_mem _ ?_)) (hc) (by exact fun _ => rfl) (by rfl)) hS ?_)
    refine wl_op rfl rfl (ow_alloc (cs := [_, _]) hS zr_55 rfl ?_)
    clear hS; intro b10 w hS
    refine wl_op rfl rfl (ow_vr (vr_assign (v := .int .i64 (k : Int)) rfl) ?_)
    refine wl_op rfl rfl (ow_storeA (vs := [.int .i64 _, .int .i64 _]) hS sz_55 rfl rfl rfl (by first | rfl | (simp only [List.all_cons, List.all_nil, Bool.and_true, Bool.and_eq_true]; repeat (first | refine ⟨by first | rfl | assumption, ?_⟩ | rfl | assumption))) (by first | exact Has.here | exact Has.there (Has.here) | exact Has.there (Has.there (Has.here)) | exact Has.there (Has.there (Has.there (Has.here))) | exact Has.there (Has.there (Has.there (Has.there (Has.here)))) | exact Has.there (Has.there (Has.there (Has.there (Has.there (Has.here))))) | exact Has.there (Has.there (Has.there (Has.there (Has.there (Has.there (Has.here)))))) | exact Has.there (Has.there (Has.there (Has.there (Has.there (Has.there (Has.there (Has.here)))))))) (by simp) ?_)
    clear hS; intro w hS; try simp only [putAt, List.set_cons_zero, List.set_cons_succ] at hS
    refine wl_nil ?_
    refine hK8 _ _ ?_
    refine cw_region ?_
    refine wl_op rfl rfl (ow_vr (vr_move (v := v8) rfl) ?_)
    refine wl_op rfl rfl (ow_vr (vr_move (v := .int .i64 lsn) rfl) ?_)
    refine wl_op rfl rfl (ow_vr (vr_move (v := .int .i64 (k : Int)) rfl) ?_)
    first | (refine wl_op rfl rfl (ow_vr (vr_addi rfl rfl (by unfold inI64; omega)) ?_)) | (refine wl_op rfl rfl (ow_vr (vr_add rfl rfl) ?_))
    refine wl_op rfl rfl (ow_vr (vr_move (v := .int .i64 ep) rfl) ?_)
    first | (refine wl_op rfl rfl (ow_vr (vr_fieldAddr fo_55_0 rfl) ?_)) | (refine wl_op rfl rfl (ow_vr (vr_fieldAddrV fo_55_0 rfl (by first | assumption | (refine Own.view ?_ (by assumption); exact fun _ => rfl) | exact OwnB.view (by assumption)) (by first | omega | (simp <;> omega))) ?_))
    refine wl_op rfl rfl (ow_lr (S := Sat _ _) (lr_load1 Tryz.underlying3 rfl rfl (by first | exact Has.here | exact Has.there (Has.here) | exact Has.there (Has.there (Has.here)) | exact Has.there (Has.there (Has.there (Has.here))) | exact Has.there (Has.there (Has.there (Has.there (Has.here)))) | exact Has.there (Has.there (Has.there (Has.there (Has.there (Has.here))))) | exact Has.there (Has.there (Has.there (Has.there (Has.there (Has.there (Has.here)))))) | exact Has.there (Has.there (Has.there (Has.there (Has.there (Has.there (Has.there (Has.here)))))))) rfl) hS ?_)
    first | (refine wl_op rfl rfl (ow_vr (vr_fieldAddr fo_55_1 rfl) ?_)) | (refine wl_op rfl rfl (ow_vr (vr_fieldAddrV fo_55_1 rfl (by first | assumption | (refine Own.view ?_ (by assumption); exact fun _ => rfl) | exact OwnB.view (by assumption)) (by first | omega | (simp <;> omega))) ?_))
    refine wl_op rfl rfl (ow_lr (S := Sat _ _) (lr_load1 Tryz.underlying3 rfl rfl (by first | exact Has.here | exact Has.there (Has.here) | exact Has.there (Has.there (Has.here)) | exact Has.there (Has.there (Has.there (Has.here))) | exact Has.there (Has.there (Has.there (Has.there (Has.here)))) | exact Has.there (Has.there (Has.there (Has.there (Has.there (Has.here))))) | exact Has.there (Has.there (Has.there (Has.there (Has.there (Has.there (Has.here)))))) | exact Has.there (Has.there (Has.there (Has.there (Has.there (Has.there (Has.there (Has.here)))))))) rfl) hS ?_)
    refine wl_op rfl rfl (ow_vr (vr_build1 (ps := [(0, .int .i64 _), (1, .int .i64 _), (2, .int .i64 _), (3, .int .i64 _), (4, .int .i64 _)]) (vs := [.int .i64 _, .int .i64 _, .int .i64 _, .int .i64 _, .int .i64 _]) zr_74 pl_74 rfl rfl rfl rfl (by first | rfl | (simp only [List.all_cons, List.all_nil, Bool.and_true, Bool.and_eq_true]; repeat (first | refine ⟨by first | rfl | assumption, ?_⟩ | rfl | assumption)))) ?_)
    refine wl_op rfl rfl (ow_buildSliceD (m := 5) (len := 1) (vs := [.agg #[.int .i64 _, .int .i64 _, .int .i64 _, .int .i64 _, .int .i64 _]]) (cs := [.int .i64 _, .int .i64 _, .int .i64 _, .int .i64 _, .int .i64 _]) hS Tryz.underlying63 if_74 rfl (by decide) (by decide) rfl rfl (by simp [Value.cells]) rfl ?_)
    clear hS; intro b30 w hS
    refine wl_op rfl rfl (ow_append (v := v8) hS Tryz.underlying63 Tryz.underlying63 if_74 rfl (by decide) rfl rfl (by assumption) (View.single (x := (⟨1, lsn + (k : Int), ep, c.1, c.2⟩ : Entr)) rfl rfl (by decide)) (by first | exact HasC.here | exact HasC.there (HasC.here) | exact HasC.there (HasC.there (HasC.here)) | exact HasC.there (HasC.there (HasC.there (HasC.here))) | exact HasC.there (HasC.there (HasC.there (HasC.there (HasC.here)))) | exact HasC.there (HasC.there (HasC.there (HasC.there (HasC.there (HasC.here))))) | exact HasC.there (HasC.there (HasC.there (HasC.there (HasC.there (HasC.there (HasC.here)))))) | exact HasC.there (HasC.there (HasC.there (HasC.there (HasC.there (HasC.there (HasC.there (HasC.here))))))) | exact HasC.there (HasC.there (HasC.there (HasC.there (HasC.there (HasC.there (HasC.there (HasC.there (HasC.here))))))))) (by repeat (first | exact List.mem_cons_self | assumption | refine List.mem_cons_of_mem _ ?_)) (by exact fun _ => rfl) (by exact fun _ => rfl) (by simp [maxLen, chE_length] <;> omega) (by simp [maxLen, chE_length] <;> omega) ?_)
    clear hS; intro v31 D31 w ho31 hS
    refine wl_op rfl rfl (ow_vr (vr_assign (v := v31) rfl) ?_)
    refine wl_nil ?_
    refine hK7 _ _ ?_
    replace hS := hS.tail1.tail1
    refine cw_region ?_
    first | (refine wl_op rfl rfl (ow_vr (vr_addi rfl rfl (by unfold inI64; omega)) ?_)) | (refine wl_op rfl rfl (ow_vr (vr_add rfl rfl) ?_))
    refine wl_op rfl rfl (ow_vr (vr_move (v := .int .i64 _) rfl) ?_)
    refine wl_nil ?_
    refine thenF_normal ⟨_, ?_, k + 1, v31, D31, _, (reb (reb (reb (reb (reb (reb (reb rfl rfl) rfl) rfl) rfl) rfl) rfl) rfl), ?_, rfl, hS⟩
    · omega
    · refine ⟨by omega, ?_⟩; rw [take_snoc hc, chE_snoc, List.length_take, Nat.min_eq_left (by omega)]; exact ho31
  · (try simp only [decide_eq_true_eq, decide_eq_false_iff_not, Bool.not_eq_true, Bool.not_eq_false, Bool.not_eq_true', Bool.not_eq_false', Bool.and_eq_true, Bool.or_eq_true, Bool.and_eq_false_iff, Bool.or_eq_false_iff, Int.not_lt, Int.not_le, gt_iff_lt, ge_iff_le, ne_eq, Decidable.not_not, beq_iff_eq] at hc)
    have hc0 := hc; clear hc
    refine cw_exit ?_
    refine hK3 _ _ ?_
    refine cw_seq fun K9 hK9 => ?_
    obtain rfl : k = l.length := by omega
    rw [List.take_length] at ho8
    refine cw_region ?_
    refine wl_op rfl rfl (ow_vr (vr_move (v := v8) rfl) ?_)
    refine wl_op rfl rfl (ow_vr (vr_move (v := .int .i64 lsn) rfl) ?_)
    refine wl_op rfl rfl (ow_vr (vr_move (v := v) rfl) ?_)
    first | (refine wl_op rfl rfl (ow_vr (vr_len_sl Tryz.underlying28 rfl) ?_)) | (refine wl_op rfl rfl (ow_vr (vr_len_v (v := v) Tryz.underlying28 rfl (by first | assumption | (refine Own.view ?_ (by assumption); exact fun _ => rfl) | exact OwnB.view (by assumption))) ?_))
    first | (refine wl_op rfl rfl (ow_vr (vr_addi rfl rfl (by unfold inI64; omega)) ?_)) | (refine wl_op rfl rfl (ow_vr (vr_add rfl rfl) ?_))
    refine wl_op rfl rfl (ow_vr (vr_move (v := .int .i64 ep) rfl) ?_)
    refine wl_op rfl rfl (ow_vr (vr_move (v := v) rfl) ?_)
    first | (refine wl_op rfl rfl (ow_vr (vr_len_sl Tryz.underlying28 rfl) ?_)) | (refine wl_op rfl rfl (ow_vr (vr_len_v (v := v) Tryz.underlying28 rfl (by first | assumption | (refine Own.view ?_ (by assumption); exact fun _ => rfl) | exact OwnB.view (by assumption))) ?_))
    refine wl_op rfl rfl (ow_vr (vr_build (vs := [(0, .int .i64 _), (1, .int .i64 _), (2, .int .i64 _), (3, .int .i64 _)]) (cs := [.int .i64 _, .int .i64 _, .int .i64 _, .int .i64 _, .int .i64 _]) zr_74 pl_74 rfl rfl) ?_)
    refine wl_op rfl rfl (ow_buildSliceD (m := 5) (len := 1) (vs := [.agg #[.int .i64 _, .int .i64 _, .int .i64 _, .int .i64 _, .int .i64 _]]) (cs := [.int .i64 _, .int .i64 _, .int .i64 _, .int .i64 _, .int .i64 _]) hS Tryz.underlying63 if_74 rfl (by decide) (by decide) rfl rfl (by simp [Value.cells]) rfl ?_)
    clear hS; intro b42 w hS
    refine wl_op rfl rfl (ow_append (v := v8) hS Tryz.underlying63 Tryz.underlying63 if_74 rfl (by decide) rfl rfl (by assumption) (View.single (x := (⟨2, lsn + (l.length : Int), ep, (l.length : Int), 0⟩ : Entr)) rfl rfl (by decide)) (by first | exact HasC.here | exact HasC.there (HasC.here) | exact HasC.there (HasC.there (HasC.here)) | exact HasC.there (HasC.there (HasC.there (HasC.here))) | exact HasC.there (HasC.there (HasC.there (HasC.there (HasC.here)))) | exact HasC.there (HasC.there (HasC.there (HasC.there (HasC.there (HasC.here))))) | exact HasC.there (HasC.there (HasC.there (HasC.there (HasC.there (HasC.there (HasC.here)))))) | exact HasC.there (HasC.there (HasC.there (HasC.there (HasC.there (HasC.there (HasC.there (HasC.here))))))) | exact HasC.there (HasC.there (HasC.there (HasC.there (HasC.there (HasC.there (HasC.there (HasC.there (HasC.here))))))))) (by repeat (first | exact List.mem_cons_self | assumption | refine List.mem_cons_of_mem _ ?_)) (by exact fun _ => rfl) (by exact fun _ => rfl) (by simp [maxLen, chE_length] <;> omega) (by simp [maxLen, chE_length] <;> omega) ?_)
    clear hS; intro v43 D43 w ho43 hS
    refine wl_op rfl rfl (ow_vr (vr_assign (v := v43) rfl) ?_)
    refine wl_nil ?_
    replace hS := hS.tail1
    have hlen := groupL_length lsn ep l
    have ho : Own 74 5 encE v43 (groupL lsn ep l) D43 := ho43
    clear ho8 ho43
    refine hK9 _ _ ?_
    refine cw_seq fun K10 hK10 => ?_
    refine cw_seq fun K11 hK11 => ?_
    refine cw_region ?_
    refine wl_op rfl rfl (ow_vr (vr_move (v := v43) rfl) ?_)
    first | (refine wl_op rfl rfl (ow_vr (vr_len_sl Tryz.underlying63 rfl) ?_)) | (refine wl_op rfl rfl (ow_vr (vr_len_v (v := v43) Tryz.underlying63 rfl (by first | assumption | (refine Own.view ?_ (by assumption); exact fun _ => rfl) | exact OwnB.view (by assumption))) ?_))
    refine wl_op rfl rfl (ow_vr (vr_move (v := .int .i64 0) rfl) ?_)
    refine wl_nil ?_
    refine hK11 _ _ ?_
    refine cw_block ?_
    refine cw_loop (fun m f w => ∃ (k : Nat) (g : Nat → Value), f = (upd (upd (upd (upd g 8 (v43)) 44 (v43)) 45 (.int .i64 ((groupL lsn ep l).length : Int))) 46 (.int .i64 (k : Int))) ∧ (k ≤ (groupL lsn ep l).length ∧ ((groupL lsn ep l).take k).all rightE = true) ∧ m = (groupL lsn ep l).length - k ∧ Sat E (D43 :: F) w) ⟨0, _, (reb (reb (reb (reb rfl rfl) rfl) rfl) rfl), ?_, rfl, hS⟩ ?_
    · simp
    clear hS; rintro m f w ⟨k, g, rfl, hI1, rfl, hS⟩
    refine cw_seq fun K12 hK12 => ?_
    refine cw_region ?_
    refine wl_op rfl rfl (ow_vr (vr_lss rfl rfl) ?_)
    refine wl_nil ?_
    refine hK12 _ _ ?_
    refine cw_seq fun K13 hK13 => ?_
    refine cw_cond rfl rfl (fun hc => ?_) (fun hc => ?_)
    · (try simp only [decide_eq_true_eq, decide_eq_false_iff_not, Bool.not_eq_true, Bool.not_eq_false, Bool.not_eq_true', Bool.not_eq_false', Bool.and_eq_true, Bool.or_eq_true, Bool.and_eq_false_iff, Bool.or_eq_false_iff, Int.not_lt, Int.not_le, gt_iff_lt, ge_iff_le, ne_eq, Decidable.not_not, beq_iff_eq] at hc)
      have hc1 := hc; clear hc
      refine cw_skip ?_
      refine hK13 _ _ ?_
      refine cw_seq fun K14 hK14 => ?_
      refine cw_block ?_
      refine cw_seq fun K15 hK15 => ?_
      obtain ⟨x, hx⟩ := get_lt (xs := groupL lsn ep l) (k := k) (by omega)
      refine cw_region ?_
      first | (refine wl_op rfl rfl (ow_vr (vr_indexAddr Tryz.underlying63 sz_74 rfl rfl (by omega) (by omega)) ?_)) | (refine wl_op rfl rfl (ow_vr (vr_indexV (v := v43) Tryz.underlying63 sz_74 rfl (by first | assumption | (refine Own.view ?_ (by assumption); exact fun _ => rfl) | exact OwnB.view (by assumption)) rfl (by omega) (by first | omega | (simp <;> omega))) ?_))
      refine wl_op rfl rfl (ow_lr (S := Sat _ _) (lr_loadVA (cs := [.int .i64 _, .int .i64 _, .int .i64 _, .int .i64 _, .int .i64 _]) Tryz.underlying74 rfl sz_74 rfl (by first | assumption | (refine Own.view ?_ (by assumption); exact fun _ => rfl) | exact OwnB.view (by assumption)) (by repeat (first | exact List.mem_cons_self | assumption | refine List.mem_cons_of_mem _ ?_)) (hx) (by exact fun _ => rfl) (by rfl)) hS ?_)
      refine wl_op rfl rfl (ow_alloc (cs := [_, _, _, _, _]) hS zr_74 rfl ?_)
      clear hS; intro b12 w hS
      refine wl_op rfl rfl (ow_storeA (vs := [.int .i64 _, .int .i64 _, .int .i64 _, .int .i64 _, .int .i64 _]) hS sz_74 rfl rfl rfl (by first | rfl | (simp only [List.all_cons, List.all_nil, Bool.and_true, Bool.and_eq_true]; repeat (first | refine ⟨by first | rfl | assumption, ?_⟩ | rfl | assumption))) (by first | exact Has.here | exact Has.there (Has.here) | exact Has.there (Has.there (Has.here)) | exact Has.there (Has.there (Has.there (Has.here))) | exact Has.there (Has.there (Has.there (Has.there (Has.here)))) | exact Has.there (Has.there (Has.there (Has.there (Has.there (Has.here))))) | exact Has.there (Has.there (Has.there (Has.there (Has.there (Has.there (Has.here)))))) | exact Has.there (Has.there (Has.there (Has.there (Has.there (Has.there (Has.there (Has.here)))))))) (by simp) ?_)
      clear hS; intro w hS; try simp only [putAt, List.set_cons_zero, List.set_cons_succ] at hS
      refine wl_nil ?_
      refine hK15 _ _ ?_
      refine cw_seq fun K16 hK16 => ?_
      refine cw_region ?_
      first | (refine wl_op rfl rfl (ow_lr (S := Sat _ _) (lr_loadA (vs := [.int .i64 _, .int .i64 _, .int .i64 _, .int .i64 _, .int .i64 _]) Tryz.underlying74 rfl sz_74 rfl (by first | exact Has.here | exact Has.there (Has.here) | exact Has.there (Has.there (Has.here)) | exact Has.there (Has.there (Has.there (Has.here))) | exact Has.there (Has.there (Has.there (Has.there (Has.here)))) | exact Has.there (Has.there (Has.there (Has.there (Has.there (Has.here))))) | exact Has.there (Has.there (Has.there (Has.there (Has.there (Has.there (Has.here)))))) | exact Has.there (Has.there (Has.there (Has.there (Has.there (Has.there (Has.there (Has.here)))))))) rfl rfl) hS ?_)) | (refine wl_op rfl rfl (ow_lr (S := Sat _ _) (lr_loadA (vs := [_, _, _, _, _]) Tryz.underlying74 rfl sz_74 rfl (by first | exact Has.here | exact Has.there (Has.here) | exact Has.there (Has.there (Has.here)) | exact Has.there (Has.there (Has.there (Has.here))) | exact Has.there (Has.there (Has.there (Has.there (Has.here)))) | exact Has.there (Has.there (Has.there (Has.there (Has.there (Has.here))))) | exact Has.there (Has.there (Has.there (Has.there (Has.there (Has.there (Has.here)))))) | exact Has.there (Has.there (Has.there (Has.there (Has.there (Has.there (Has.there (Has.here)))))))) rfl rfl) hS ?_))
      refine wl_op rfl rfl (ow_fn (vs := [.agg _]) en_58 rfl hS (entry_Right x.kind x.lsn x.epoch x.cell x.value) ?_)
      clear hS; rintro v51 _ w ⟨rfl, rfl⟩ hS; (try simp only [List.cons_append, List.nil_append] at hS)
      refine wl_op rfl rfl (ow_vr (vr_not rfl) ?_)
      refine wl_nil ?_
      refine hK16 _ _ ?_
      refine cw_cond rfl rfl (fun hc => ?_) (fun hc => ?_)
      · (try simp only [decide_eq_true_eq, decide_eq_false_iff_not, Bool.not_eq_true, Bool.not_eq_false, Bool.not_eq_true', Bool.not_eq_false', Bool.and_eq_true, Bool.or_eq_true, Bool.and_eq_false_iff, Bool.or_eq_false_iff, Int.not_lt, Int.not_le, gt_iff_lt, ge_iff_le, ne_eq, Decidable.not_not, beq_iff_eq] at hc)
        have hc2 := hc; clear hc
        refine cw_seq fun K17 hK17 => ?_
        have hall : (groupL lsn ep l).all rightE = false := by rw [List.all_eq_false]; exact ⟨x, List.mem_of_getElem? hx, by rw [show rightE x = false from hc2]; simp⟩
        refine cw_region ?_
        refine wl_op rfl rfl (ow_vr (vr_assign (v := .slice none 0 0) rfl) ?_)
        refine wl_op rfl rfl (ow_vr (vr_assign (v := .bool false) rfl) ?_)
        refine wl_nil ?_
        refine hK17 _ _ ?_
        refine cw_ret ?_
        refine inB_ret (thenF_ret (thenF_ret (inB_ret (thenF_ret (?_)))))
        refine ret_two (fn := Tryz.f25) (n := 55) (t := 6) (u := 7) (.inl rfl) rfl rfl rfl ?_
        first | exact ⟨[[]], ⟨.slice none 0 0, [], (by rw [hall] <;> rfl), rfl, (by rw [hall]; exact Own.nil)⟩, Sat.nilc.2 hS.tail1.tail1⟩ | exact ⟨[D43], ⟨v43, D43, (by rw [hall] <;> rfl), rfl, (by rw [hall]; exact ho)⟩, hS⟩
      · (try simp only [decide_eq_true_eq, decide_eq_false_iff_not, Bool.not_eq_true, Bool.not_eq_false, Bool.not_eq_true', Bool.not_eq_false', Bool.and_eq_true, Bool.or_eq_true, Bool.and_eq_false_iff, Bool.or_eq_false_iff, Int.not_lt, Int.not_le, gt_iff_lt, ge_iff_le, ne_eq, Decidable.not_not, beq_iff_eq] at hc)
        have hc2 := hc; clear hc
        refine cw_skip ?_
        refine hK14 _ _ ?_
        replace hS := hS.tail1
        refine cw_region ?_
        first | (refine wl_op rfl rfl (ow_vr (vr_addi rfl rfl (by unfold inI64; omega)) ?_)) | (refine wl_op rfl rfl (ow_vr (vr_add rfl rfl) ?_))
        refine wl_op rfl rfl (ow_vr (vr_move (v := .int .i64 _) rfl) ?_)
        refine wl_nil ?_
        refine thenF_normal ⟨_, ?_, k + 1, _, (reb (reb (reb (reb rfl rfl) rfl) rfl) rfl), ?_, rfl, hS⟩
        · omega
        · refine ⟨by omega, ?_⟩; rw [take_snoc hx, List.all_append, hI1.2]; simp; assumption
    · (try simp only [decide_eq_true_eq, decide_eq_false_iff_not, Bool.not_eq_true, Bool.not_eq_false, Bool.not_eq_true', Bool.not_eq_false', Bool.and_eq_true, Bool.or_eq_true, Bool.and_eq_false_iff, Bool.or_eq_false_iff, Int.not_lt, Int.not_le, gt_iff_lt, ge_iff_le, ne_eq, Decidable.not_not, beq_iff_eq] at hc)
      have hc1 := hc; clear hc
      refine cw_exit ?_
      refine hK10 _ _ ?_
      refine cw_seq fun K18 hK18 => ?_
      have hall : (groupL lsn ep l).all rightE = true := by have h3 := hI1.2; rw [show k = (groupL lsn ep l).length by omega, List.take_length] at h3; exact h3
      refine cw_region ?_
      refine wl_op rfl rfl (ow_vr (vr_move (v := v43) rfl) ?_)
      refine wl_op rfl rfl (ow_vr (vr_assign (v := v43) rfl) ?_)
      refine wl_op rfl rfl (ow_vr (vr_assign (v := .bool true) rfl) ?_)
      refine wl_nil ?_
      refine hK18 _ _ ?_
      refine cw_ret ?_
      refine ret_two (fn := Tryz.f25) (n := 55) (t := 6) (u := 7) (.inl rfl) rfl rfl rfl ?_
      first | exact ⟨[[]], ⟨.slice none 0 0, [], (by rw [hall] <;> rfl), rfl, (by rw [hall]; exact Own.nil)⟩, Sat.nilc.2 hS.tail1.tail1⟩ | exact ⟨[D43], ⟨v43, D43, (by rw [hall] <;> rfl), rfl, (by rw [hall]; exact ho)⟩, hS⟩
/-- What is told of entries: the changes of groups that are whole, and how many entries these are. -/
def changesGo : List Entr → Nat → List (Int × Int) → List (Int × Int) → Int → List (Int × Int) × Int
  | [], _, out, _, n => (out, n)
  | e :: es, i, out, grp, n =>
    if e.kind = 1 then changesGo es (i + 1) out (grp ++ [(e.cell, e.value)]) n
    else if e.kind = 2 ∧ e.cell = (grp.length : Int) then changesGo es (i + 1) (out ++ grp) [] ((i : Int) + 1) else (out, n)
def changesE (es : List Entr) : List (Int × Int) × Int := changesGo es 0 [] [] 0
theorem entry_Changes (es : List Entr) (v : Value) (Δ : Chunk) (hv : View 5 encE v es Δ) (hn : es.length ≤ 1000000) :
    FnG Tryz.prog 31 [v] [Δ] (fun u Δs => ∃ v' D, u = .tuple #[v', .int .i64 (changesE es).2] ∧ Δs = [D] ∧ Own 55 2 encC v' (changesE es).1 D) := by
  refine FnG.mk fun E F w hS hF => ?_
  have hF0 : Δ ∈ F := hF _ (by simp)
  refine returns_enter Tryz.func31 rfl Tryz.ntmps31 rfl ?_
  refine cw_seq fun K1 hK1 => ?_
  refine cw_region ?_
  refine wl_op rfl rfl (ow_vr (vr_assign (v := .slice none 0 0) rfl) ?_)
  refine wl_op rfl rfl (ow_vr (vr_assign (v := .int .i64 0) rfl) ?_)
  refine wl_nil ?_
  refine hK1 _ _ ?_
  refine cw_seq fun K2 hK2 => ?_
  refine cw_region ?_
  refine wl_op rfl rfl (ow_vr (vr_assign (v := .slice none 0 0) rfl) ?_)
  refine wl_op rfl rfl (ow_vr (vr_assign (v := .slice none 0 0) rfl) ?_)
  refine wl_nil ?_
  refine hK2 _ _ ?_
  refine cw_seq fun K3 hK3 => ?_
  refine cw_region ?_
  refine wl_op rfl rfl (ow_vr (vr_assign (v := .int .i64 0) rfl) ?_)
  refine wl_nil ?_
  refine hK3 _ _ ?_
  refine cw_seq fun K4 hK4 => ?_
  refine cw_seq fun K5 hK5 => ?_
  have hS := Sat.nilc.2 (Sat.nilc.2 hS)
  refine cw_region ?_
  refine wl_op rfl rfl (ow_vr (vr_move (v := v) rfl) ?_)
  first | (refine wl_op rfl rfl (ow_vr (vr_len_sl Tryz.underlying63 rfl) ?_)) | (refine wl_op rfl rfl (ow_vr (vr_len_v (v := v) Tryz.underlying63 rfl (by first | assumption | (refine Own.view ?_ (by assumption); exact fun _ => rfl) | exact OwnB.view (by assumption))) ?_))
  refine wl_op rfl rfl (ow_vr (vr_move (v := .int .i64 0) rfl) ?_)
  refine wl_nil ?_
  refine hK5 _ _ ?_
  refine cw_block ?_
  refine cw_loop (fun m f w => ∃ (k : Nat) (out : List (Int × Int)) (grp : List (Int × Int)) (n : Int) (v4 : Value) (D4 : Chunk) (v5 : Value) (D5 : Chunk) (g : Nat → Value), f = (upd (upd (upd (upd (upd (upd g 4 (v4)) 5 (v5)) 6 (.int .i64 n)) 9 (v)) 10 (.int .i64 (es.length : Int))) 11 (.int .i64 (k : Int))) ∧ (k ≤ es.length ∧ changesGo (es.drop k) k out grp n = changesE es ∧ Own 55 2 encC v4 out D4 ∧ Own 55 2 encC v5 grp D5 ∧ out.length + grp.length ≤ k) ∧ m = es.length - k ∧ Sat E (D4 :: D5 :: F) w) ⟨0, [], [], 0, .slice none 0 0, [], .slice none 0 0, [], _, (reb (reb (reb (reb (reb (reb rfl rfl) rfl) rfl) rfl) rfl) rfl), ?_, rfl, hS⟩ ?_
  · exact ⟨by omega, rfl, Own.nil, Own.nil, by simp⟩
  clear hS; rintro m f w ⟨k, out, grp, n, v4, D4, v5, D5, g, rfl, hI0, rfl, hS⟩
  obtain ⟨hk, hR, ho4, ho5, hb⟩ := hI0
  refine cw_seq fun K6 hK6 => ?_
  refine cw_region ?_
  refine wl_op rfl rfl (ow_vr (vr_lss rfl rfl) ?_)
  refine wl_nil ?_
  refine hK6 _ _ ?_
  refine cw_seq fun K7 hK7 => ?_
  refine cw_cond rfl rfl (fun hc => ?_) (fun hc => ?_)
  · (try simp only [decide_eq_true_eq, decide_eq_false_iff_not, Bool.not_eq_true, Bool.not_eq_false, Bool.not_eq_true', Bool.not_eq_false', Bool.and_eq_true, Bool.or_eq_true, Bool.and_eq_false_iff, Bool.or_eq_false_iff, Int.not_lt, Int.not_le, gt_iff_lt, ge_iff_le, ne_eq, Decidable.not_not, beq_iff_eq] at hc)
    have hc0 := hc; clear hc
    refine cw_skip ?_
    refine hK7 _ _ ?_
    refine cw_seq fun K8 hK8 => ?_
    refine cw_block ?_
    refine cw_seq fun K9 hK9 => ?_
    obtain ⟨x, hx⟩ := get_lt (xs := es) (k := k) (by omega)
    rw [drop_cons hx, changesGo] at hR
    refine cw_region ?_
    refine wl_op rfl rfl (ow_vr (vr_move (v := .int .i64 (k : Int)) rfl) ?_)
    first | (refine wl_op rfl rfl (ow_vr (vr_indexAddr Tryz.underlying63 sz_74 rfl rfl (by omega) (by omega)) ?_)) | (refine wl_op rfl rfl (ow_vr (vr_indexV (v := v) Tryz.underlying63 sz_74 rfl (by first | assumption | (refine Own.view ?_ (by assumption); exact fun _ => rfl) | exact OwnB.view (by assumption)) rfl (by omega) (by first | omega | (simp <;> omega))) ?_))
    refine wl_op rfl rfl (ow_lr (S := Sat _ _) (lr_loadVA (cs := [.int .i64 _, .int .i64 _, .int .i64 _, .int .i64 _, .int .i64 _]) Tryz.underlying74 rfl sz_74 rfl (by first | assumption | (refine Own.view ?_ (by assumption); exact fun _ => rfl) | exact OwnB.view (by assumption)) (by repeat (first | exact List.mem_cons_self | assumption | refine List.mem_cons_of_mem _ ?_)) (hx) (by exact fun _ => rfl) (by rfl)) hS ?_)
    refine wl_op rfl rfl (ow_alloc (cs := [_, _, _, _, _]) hS zr_74 rfl ?_)
    clear hS; intro b8 w hS
    refine wl_op rfl rfl (ow_vr (vr_assign (v := .int .i64 (k : Int)) rfl) ?_)
    refine wl_op rfl rfl (ow_storeA (vs := [.int .i64 _, .int .i64 _, .int .i64 _, .int .i64 _, .int .i64 _]) hS sz_74 rfl rfl rfl (by first | rfl | (simp only [List.all_cons, List.all_nil, Bool.and_true, Bool.and_eq_true]; repeat (first | refine ⟨by first | rfl | assumption, ?_⟩ | rfl | assumption))) (by first | exact Has.here | exact Has.there (Has.here) | exact Has.there (Has.there (Has.here)) | exact Has.there (Has.there (Has.there (Has.here))) | exact Has.there (Has.there (Has.there (Has.there (Has.here)))) | exact Has.there (Has.there (Has.there (Has.there (Has.there (Has.here))))) | exact Has.there (Has.there (Has.there (Has.there (Has.there (Has.there (Has.here)))))) | exact Has.there (Has.there (Has.there (Has.there (Has.there (Has.there (Has.there (Has.here)))))))) (by simp) ?_)
    clear hS; intro w hS; try simp only [putAt, List.set_cons_zero, List.set_cons_succ] at hS
    refine wl_nil ?_
    refine hK9 _ _ ?_
    refine cw_seq fun K10 hK10 => ?_
    refine cw_region ?_
    first | (refine wl_op rfl rfl (ow_vr (vr_fieldAddr fo_74_0 rfl) ?_)) | (refine wl_op rfl rfl (ow_vr (vr_fieldAddrV fo_74_0 rfl (by first | assumption | (refine Own.view ?_ (by assumption); exact fun _ => rfl) | exact OwnB.view (by assumption)) (by first | omega | (simp <;> omega))) ?_))
    refine wl_op rfl rfl (ow_lr (S := Sat _ _) (lr_load1 Tryz.underlying3 rfl rfl (by first | exact Has.here | exact Has.there (Has.here) | exact Has.there (Has.there (Has.here)) | exact Has.there (Has.there (Has.there (Has.here))) | exact Has.there (Has.there (Has.there (Has.there (Has.here)))) | exact Has.there (Has.there (Has.there (Has.there (Has.there (Has.here))))) | exact Has.there (Has.there (Has.there (Has.there (Has.there (Has.there (Has.here)))))) | exact Has.there (Has.there (Has.there (Has.there (Has.there (Has.there (Has.there (Has.here)))))))) rfl) hS ?_)
    refine wl_nil ?_
    refine hK10 _ _ ?_
    refine cw_block ?_
    refine cw_seq fun K11 hK11 => ?_
    refine cw_block ?_
    refine cw_seq fun K12 hK12 => ?_
    refine cw_block ?_
    refine cw_seq fun K13 hK13 => ?_
    refine cw_block ?_
    refine cw_seq fun K14 hK14 => ?_
    refine cw_seq fun K15 hK15 => ?_
    refine cw_seq fun K16 hK16 => ?_
    refine cw_region ?_
    refine wl_op rfl rfl (ow_vr (vr_eql rfl rfl) ?_)
    refine wl_op rfl rfl (ow_vr (vr_assign (v := .bool _) rfl) ?_)
    refine wl_nil ?_
    refine hK16 _ _ ?_
    refine cw_cond rfl rfl (fun hc => ?_) (fun hc => ?_)
    · (try simp only [decide_eq_true_eq, decide_eq_false_iff_not, Bool.not_eq_true, Bool.not_eq_false, Bool.not_eq_true', Bool.not_eq_false', Bool.and_eq_true, Bool.or_eq_true, Bool.and_eq_false_iff, Bool.or_eq_false_iff, Int.not_lt, Int.not_le, gt_iff_lt, ge_iff_le, ne_eq, Decidable.not_not, beq_iff_eq] at hc)
      have hc1 := hc; clear hc
      refine cw_exit ?_
      refine hK13 _ _ ?_
      refine cw_seq fun K17 hK17 => ?_
      refine cw_seq fun K18 hK18 => ?_
      rw [if_pos hc1] at hR
      refine cw_region ?_
      refine wl_op rfl rfl (ow_vr (vr_move (v := v5) rfl) ?_)
      first | (refine wl_op rfl rfl (ow_vr (vr_fieldAddr fo_74_3 rfl) ?_)) | (refine wl_op rfl rfl (ow_vr (vr_fieldAddrV fo_74_3 rfl (by first | assumption | (refine Own.view ?_ (by assumption); exact fun _ => rfl) | exact OwnB.view (by assumption)) (by first | omega | (simp <;> omega))) ?_))
      refine wl_op rfl rfl (ow_lr (S := Sat _ _) (lr_load1 Tryz.underlying3 rfl rfl (by first | exact Has.here | exact Has.there (Has.here) | exact Has.there (Has.there (Has.here)) | exact Has.there (Has.there (Has.there (Has.here))) | exact Has.there (Has.there (Has.there (Has.there (Has.here)))) | exact Has.there (Has.there (Has.there (Has.there (Has.there (Has.here))))) | exact Has.there (Has.there (Has.there (Has.there (Has.there (Has.there (Has.here)))))) | exact Has.there (Has.there (Has.there (Has.there (Has.there (Has.there (Has.there (Has.here)))))))) rfl) hS ?_)
      first | (refine wl_op rfl rfl (ow_vr (vr_fieldAddr fo_74_4 rfl) ?_)) | (refine wl_op rfl rfl (ow_vr (vr_fieldAddrV fo_74_4 rfl (by first | assumption | (refine Own.view ?_ (by assumption); exact fun _ => rfl) | exact OwnB.view (by assumption)) (by first | omega | (simp <;> omega))) ?_))
      refine wl_op rfl rfl (ow_lr (S := Sat _ _) (lr_load1 Tryz.underlying3 rfl rfl (by first | exact Has.here | exact Has.there (Has.here) | exact Has.there (Has.there (Has.here)) | exact Has.there (Has.there (Has.there (Has.here))) | exact Has.there (Has.there (Has.there (Has.there (Has.here)))) | exact Has.there (Has.there (Has.there (Has.there (Has.there (Has.here))))) | exact Has.there (Has.there (Has.there (Has.there (Has.there (Has.there (Has.here)))))) | exact Has.there (Has.there (Has.there (Has.there (Has.there (Has.there (Has.there (Has.here)))))))) rfl) hS ?_)
      refine wl_op rfl rfl (ow_vr (vr_build (vs := [(0, .int .i64 _), (1, .int .i64 _)]) (cs := [.int .i64 _, .int .i64 _]) zr_55 pl_55 rfl rfl) ?_)
      refine wl_op rfl rfl (ow_buildSliceD (m := 2) (len := 1) (vs := [.agg #[.int .i64 _, .int .i64 _]]) (cs := [.int .i64 _, .int .i64 _]) hS Tryz.underlying28 if_55 rfl (by decide) (by decide) rfl rfl (by simp [Value.cells]) rfl ?_)
      clear hS; intro b28 w hS
      refine wl_op rfl rfl (ow_append (v := v5) hS Tryz.underlying28 Tryz.underlying28 if_55 rfl (by decide) rfl rfl (by assumption) (View.single (x := (x.cell, x.value)) rfl rfl (by decide)) (by first | exact HasC.here | exact HasC.there (HasC.here) | exact HasC.there (HasC.there (HasC.here)) | exact HasC.there (HasC.there (HasC.there (HasC.here))) | exact HasC.there (HasC.there (HasC.there (HasC.there (HasC.here)))) | exact HasC.there (HasC.there (HasC.there (HasC.there (HasC.there (HasC.here))))) | exact HasC.there (HasC.there (HasC.there (HasC.there (HasC.there (HasC.there (HasC.here)))))) | exact HasC.there (HasC.there (HasC.there (HasC.there (HasC.there (HasC.there (HasC.there (HasC.here))))))) | exact HasC.there (HasC.there (HasC.there (HasC.there (HasC.there (HasC.there (HasC.there (HasC.there (HasC.here))))))))) (by repeat (first | exact List.mem_cons_self | assumption | refine List.mem_cons_of_mem _ ?_)) (by exact fun _ => rfl) (by exact fun _ => rfl) (by first | omega | (simp [maxLen] <;> omega) | (simp <;> omega)) (by first | omega | (simp [maxLen] <;> omega) | (simp <;> omega)) ?_)
      clear hS; intro v29 D29 w ho29 hS
      refine wl_op rfl rfl (ow_vr (vr_assign (v := v29) rfl) ?_)
      refine wl_nil ?_
      replace hS := hS.tail1.tail1
      refine hK18 _ _ ?_
      refine cw_exit ?_
      refine hK8 _ _ ?_
      refine cw_region ?_
      first | (refine wl_op rfl rfl (ow_vr (vr_addi rfl rfl (by unfold inI64; omega)) ?_)) | (refine wl_op rfl rfl (ow_vr (vr_add rfl rfl) ?_))
      refine wl_op rfl rfl (ow_vr (vr_move (v := .int .i64 _) rfl) ?_)
      refine wl_nil ?_
      refine thenF_normal ⟨_, ?_, k + 1, out, grp ++ [(x.cell, x.value)], n, v4, D4, v29, D29, _, (reb (reb (reb (reb (reb (reb rfl rfl) rfl) rfl) rfl) rfl) rfl), ?_, rfl, hS⟩
      · omega
      · exact ⟨by omega, hR, ho4, ho29, by simp; omega⟩
    · (try simp only [decide_eq_true_eq, decide_eq_false_iff_not, Bool.not_eq_true, Bool.not_eq_false, Bool.not_eq_true', Bool.not_eq_false', Bool.and_eq_true, Bool.or_eq_true, Bool.and_eq_false_iff, Bool.or_eq_false_iff, Int.not_lt, Int.not_le, gt_iff_lt, ge_iff_le, ne_eq, Decidable.not_not, beq_iff_eq] at hc)
      have hc1 := hc; clear hc
      refine cw_skip ?_
      refine hK15 _ _ ?_
      refine cw_seq fun K19 hK19 => ?_
      refine cw_region ?_
      refine wl_op rfl rfl (ow_vr (vr_eql rfl rfl) ?_)
      refine wl_op rfl rfl (ow_vr (vr_assign (v := .bool _) rfl) ?_)
      refine wl_nil ?_
      refine hK19 _ _ ?_
      refine cw_cond rfl rfl (fun hc => ?_) (fun hc => ?_)
      · (try simp only [decide_eq_true_eq, decide_eq_false_iff_not, Bool.not_eq_true, Bool.not_eq_false, Bool.not_eq_true', Bool.not_eq_false', Bool.and_eq_true, Bool.or_eq_true, Bool.and_eq_false_iff, Bool.or_eq_false_iff, Int.not_lt, Int.not_le, gt_iff_lt, ge_iff_le, ne_eq, Decidable.not_not, beq_iff_eq] at hc)
        have hc2 := hc; clear hc
        refine cw_exit ?_
        refine hK12 _ _ ?_
        refine cw_seq fun K20 hK20 => ?_
        rw [if_neg hc1] at hR
        refine cw_region ?_
        first | (refine wl_op rfl rfl (ow_vr (vr_fieldAddr fo_74_3 rfl) ?_)) | (refine wl_op rfl rfl (ow_vr (vr_fieldAddrV fo_74_3 rfl (by first | assumption | (refine Own.view ?_ (by assumption); exact fun _ => rfl) | exact OwnB.view (by assumption)) (by first | omega | (simp <;> omega))) ?_))
        refine wl_op rfl rfl (ow_lr (S := Sat _ _) (lr_load1 Tryz.underlying3 rfl rfl (by first | exact Has.here | exact Has.there (Has.here) | exact Has.there (Has.there (Has.here)) | exact Has.there (Has.there (Has.there (Has.here))) | exact Has.there (Has.there (Has.there (Has.there (Has.here)))) | exact Has.there (Has.there (Has.there (Has.there (Has.there (Has.here))))) | exact Has.there (Has.there (Has.there (Has.there (Has.there (Has.there (Has.here)))))) | exact Has.there (Has.there (Has.there (Has.there (Has.there (Has.there (Has.there (Has.here)))))))) rfl) hS ?_)
        refine wl_op rfl rfl (ow_vr (vr_move (v := v5) rfl) ?_)
        first | (refine wl_op rfl rfl (ow_vr (vr_len_sl Tryz.underlying28 rfl) ?_)) | (refine wl_op rfl rfl (ow_vr (vr_len_v (v := v5) Tryz.underlying28 rfl (by first | assumption | (refine Own.view ?_ (by assumption); exact fun _ => rfl) | exact OwnB.view (by assumption))) ?_))
        refine wl_op rfl rfl (ow_vr (vr_eql rfl rfl) ?_)
        refine wl_nil ?_
        refine hK20 _ _ ?_
        refine cw_cond rfl rfl (fun hc => ?_) (fun hc => ?_)
        · (try simp only [decide_eq_true_eq, decide_eq_false_iff_not, Bool.not_eq_true, Bool.not_eq_false, Bool.not_eq_true', Bool.not_eq_false', Bool.and_eq_true, Bool.or_eq_true, Bool.and_eq_false_iff, Bool.or_eq_false_iff, Int.not_lt, Int.not_le, gt_iff_lt, ge_iff_le, ne_eq, Decidable.not_not, beq_iff_eq] at hc)
          have hc3 := hc; clear hc
          refine cw_seq fun K21 hK21 => ?_
          rw [if_pos ⟨hc2, hc3⟩] at hR
          refine cw_region ?_
          refine wl_op rfl rfl (ow_vr (vr_move (v := v4) rfl) ?_)
          refine wl_op rfl rfl (ow_vr (vr_move (v := v5) rfl) ?_)
          refine wl_op rfl rfl (ow_append (v := v4) (u := v5) hS Tryz.underlying28 Tryz.underlying28 if_55 rfl (by decide) rfl rfl (by assumption) (by first | assumption | (refine Own.view ?_ (by assumption); exact fun _ => rfl) | exact OwnB.view (by assumption)) (by first | exact HasC.here | exact HasC.there (HasC.here) | exact HasC.there (HasC.there (HasC.here)) | exact HasC.there (HasC.there (HasC.there (HasC.here))) | exact HasC.there (HasC.there (HasC.there (HasC.there (HasC.here)))) | exact HasC.there (HasC.there (HasC.there (HasC.there (HasC.there (HasC.here))))) | exact HasC.there (HasC.there (HasC.there (HasC.there (HasC.there (HasC.there (HasC.here)))))) | exact HasC.there (HasC.there (HasC.there (HasC.there (HasC.there (HasC.there (HasC.there (HasC.here))))))) | exact HasC.there (HasC.there (HasC.there (HasC.there (HasC.there (HasC.there (HasC.there (HasC.there (HasC.here))))))))) (by repeat (first | exact List.mem_cons_self | assumption | refine List.mem_cons_of_mem _ ?_)) (by exact fun _ => rfl) (by exact fun _ => rfl) (by first | omega | (simp [maxLen] <;> omega) | (simp <;> omega)) (by first | omega | (simp [maxLen] <;> omega) | (simp <;> omega)) ?_)
          clear hS; intro v37 D37 w ho37 hS
          refine wl_op rfl rfl (ow_vr (vr_move (v := .int .i64 (k : Int)) rfl) ?_)
          first | (refine wl_op rfl rfl (ow_vr (vr_addi rfl rfl (by unfold inI64; omega)) ?_)) | (refine wl_op rfl rfl (ow_vr (vr_add rfl rfl) ?_))
          refine wl_op rfl rfl (ow_vr (vr_assign (v := v37) rfl) ?_)
          refine wl_op rfl rfl (ow_vr (vr_assign (v := .slice none 0 0) rfl) ?_)
          refine wl_op rfl rfl (ow_vr (vr_assign (v := .int .i64 _) rfl) ?_)
          refine wl_nil ?_
          replace hS := Sat.nilc.2 hS.tail1.front1.tail1
          replace hS := hS.front1
          refine hK21 _ _ ?_
          refine cw_exit ?_
          refine hK8 _ _ ?_
          refine cw_region ?_
          first | (refine wl_op rfl rfl (ow_vr (vr_addi rfl rfl (by unfold inI64; omega)) ?_)) | (refine wl_op rfl rfl (ow_vr (vr_add rfl rfl) ?_))
          refine wl_op rfl rfl (ow_vr (vr_move (v := .int .i64 _) rfl) ?_)
          refine wl_nil ?_
          refine thenF_normal ⟨_, ?_, k + 1, out ++ grp, [], (k : Int) + 1, v37, D37, .slice none 0 0, [], _, (reb (reb (reb (reb (reb (reb rfl rfl) rfl) rfl) rfl) rfl) rfl), ?_, rfl, hS⟩
          · omega
          · exact ⟨by omega, hR, ho37, Own.nil, by simp; omega⟩
        · (try simp only [decide_eq_true_eq, decide_eq_false_iff_not, Bool.not_eq_true, Bool.not_eq_false, Bool.not_eq_true', Bool.not_eq_false', Bool.and_eq_true, Bool.or_eq_true, Bool.and_eq_false_iff, Bool.or_eq_false_iff, Int.not_lt, Int.not_le, gt_iff_lt, ge_iff_le, ne_eq, Decidable.not_not, beq_iff_eq] at hc)
          have hc3 := hc; clear hc
          refine cw_skip ?_
          refine hK11 _ _ ?_
          refine cw_seq fun K22 hK22 => ?_
          refine cw_seq fun K23 hK23 => ?_
          rw [if_neg (fun h => by omega)] at hR
          refine cw_region ?_
          refine wl_op rfl rfl (ow_vr (vr_move (v := v4) rfl) ?_)
          refine wl_op rfl rfl (ow_vr (vr_move (v := .int .i64 n) rfl) ?_)
          refine wl_op rfl rfl (ow_vr (vr_assign (v := v4) rfl) ?_)
          refine wl_op rfl rfl (ow_vr (vr_assign (v := .int .i64 n) rfl) ?_)
          refine wl_nil ?_
          refine hK23 _ _ ?_
          refine cw_ret ?_
          refine thenF_ret (inB_ret (inB_ret (thenF_ret (thenF_ret (inB_ret (thenF_ret (?_)))))))
          refine ret_two (fn := Tryz.f31) (n := 45) (t := 2) (u := 3) (.inl rfl) rfl rfl rfl ?_
          first | exact ⟨[D4], ⟨v4, D4, by rw [← hR] <;> rfl, rfl, by rw [← hR]; exact ho4⟩, hS.tail1.front1.tail1⟩ | exact ⟨[D4], ⟨v4, D4, by rw [← hR] <;> rfl, rfl, by rw [← hR]; exact ho4⟩, hS.front1.tail1⟩
      · (try simp only [decide_eq_true_eq, decide_eq_false_iff_not, Bool.not_eq_true, Bool.not_eq_false, Bool.not_eq_true', Bool.not_eq_false', Bool.and_eq_true, Bool.or_eq_true, Bool.and_eq_false_iff, Bool.or_eq_false_iff, Int.not_lt, Int.not_le, gt_iff_lt, ge_iff_le, ne_eq, Decidable.not_not, beq_iff_eq] at hc)
        have hc2 := hc; clear hc
        refine cw_skip ?_
        refine hK14 _ _ ?_
        refine cw_exit ?_
        refine hK11 _ _ ?_
        refine cw_seq fun K24 hK24 => ?_
        refine cw_seq fun K25 hK25 => ?_
        rw [if_neg hc1, if_neg (by omega)] at hR
        refine cw_region ?_
        refine wl_op rfl rfl (ow_vr (vr_move (v := v4) rfl) ?_)
        refine wl_op rfl rfl (ow_vr (vr_move (v := .int .i64 n) rfl) ?_)
        refine wl_op rfl rfl (ow_vr (vr_assign (v := v4) rfl) ?_)
        refine wl_op rfl rfl (ow_vr (vr_assign (v := .int .i64 n) rfl) ?_)
        refine wl_nil ?_
        refine hK25 _ _ ?_
        refine cw_ret ?_
        refine thenF_ret (inB_ret (inB_ret (thenF_ret (thenF_ret (inB_ret (thenF_ret (?_)))))))
        refine ret_two (fn := Tryz.f31) (n := 45) (t := 2) (u := 3) (.inl rfl) rfl rfl rfl ?_
        first | exact ⟨[D4], ⟨v4, D4, by rw [← hR] <;> rfl, rfl, by rw [← hR]; exact ho4⟩, hS.tail1.front1.tail1⟩ | exact ⟨[D4], ⟨v4, D4, by rw [← hR] <;> rfl, rfl, by rw [← hR]; exact ho4⟩, hS.front1.tail1⟩
  · (try simp only [decide_eq_true_eq, decide_eq_false_iff_not, Bool.not_eq_true, Bool.not_eq_false, Bool.not_eq_true', Bool.not_eq_false', Bool.and_eq_true, Bool.or_eq_true, Bool.and_eq_false_iff, Bool.or_eq_false_iff, Int.not_lt, Int.not_le, gt_iff_lt, ge_iff_le, ne_eq, Decidable.not_not, beq_iff_eq] at hc)
    have hc0 := hc; clear hc
    refine cw_exit ?_
    refine hK4 _ _ ?_
    refine cw_seq fun K26 hK26 => ?_
    rw [show k = es.length by omega, List.drop_length, changesGo] at hR
    refine cw_region ?_
    refine wl_op rfl rfl (ow_vr (vr_move (v := v4) rfl) ?_)
    refine wl_op rfl rfl (ow_vr (vr_move (v := .int .i64 n) rfl) ?_)
    refine wl_op rfl rfl (ow_vr (vr_assign (v := v4) rfl) ?_)
    refine wl_op rfl rfl (ow_vr (vr_assign (v := .int .i64 n) rfl) ?_)
    refine wl_nil ?_
    refine hK26 _ _ ?_
    refine cw_ret ?_
    refine ret_two (fn := Tryz.f31) (n := 45) (t := 2) (u := 3) (.inl rfl) rfl rfl rfl ?_
    first | exact ⟨[D4], ⟨v4, D4, by rw [← hR] <;> rfl, rfl, by rw [← hR]; exact ho4⟩, hS.tail1.front1.tail1⟩ | exact ⟨[D4], ⟨v4, D4, by rw [← hR] <;> rfl, rfl, by rw [← hR]; exact ho4⟩, hS.front1.tail1⟩
end Go.Proofs.YtjcagoighpmdkaaGreatDoor
