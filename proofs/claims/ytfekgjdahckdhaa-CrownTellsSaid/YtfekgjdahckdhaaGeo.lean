/- What package geo's functions return, and the document's own. -/
import Derived.Test.YtfekgjdahckdhaaFacts
namespace Go.Proofs.Ytfekgjdahckdhaa
open Go Go.RowKit
set_option linter.unusedVariables false
set_option linter.unusedSimpArgs false
attribute [local irreducible] actF WL CW OW PL SW VR LR yes Returns Fn
def rightB (h l : Int) : Bool := decide (8 ≤ h) && decide (h ≤ 400) && decide (4 ≤ l) && decide (l ≤ 300)
theorem rightB_true {h l : Int} : rightB h l = true ↔ 8 ≤ h ∧ h ≤ 400 ∧ 4 ≤ l ∧ l ≤ 300 := by simp [rightB, and_assoc]
theorem rightB_false {h l : Int} : rightB h l = false ↔ ¬ (8 ≤ h ∧ h ≤ 400 ∧ 4 ≤ l ∧ l ≤ 300) := by rw [← rightB_true]; simp
def cellsI (h l : Int) : Int := if rightB h l then 16 + 2 * h else 0
theorem cellsI_bd (h l : Int) : 0 ≤ cellsI h l ∧ cellsI h l ≤ 816 := by
  unfold cellsI; split
  · rename_i hr; rw [rightB_true] at hr; omega
  · omega
def pagesI (h l : Int) : Int := (cellsI h l + 15) / 16
theorem pagesI_bd (h l : Int) : 0 ≤ pagesI h l ∧ pagesI h l ≤ 51 := by have := cellsI_bd h l; unfold pagesI; omega
def pageAtI (h l no slot : Int) : Int := if 0 ≤ no ∧ no < pagesI h l ∧ 0 ≤ slot ∧ slot < 2 then 2 + 6 * no + 3 * slot else 0
theorem pageAtI_bd (h l no slot : Int) : 0 ≤ pageAtI h l no slot ∧ pageAtI h l no slot ≤ 308 := by have := pagesI_bd h l; unfold pageAtI; split <;> omega
def logAtI (h l : Int) : Int := if rightB h l then 2 + 6 * pagesI h l else 0
theorem logAtI_bd (h l : Int) : 0 ≤ logAtI h l ∧ logAtI h l ≤ 308 := by have := pagesI_bd h l; unfold logAtI; split <;> omega
def sectorsI (h l : Int) : Int := if rightB h l then logAtI h l + l else 0
def baseI (h l s : Int) : Int := if rightB h l = true ∧ 0 ≤ s ∧ s ≤ 1 then 16 + s * h else 0
theorem baseI_bd (h l s : Int) : 0 ≤ baseI h l s ∧ baseI h l s ≤ 416 := by
  unfold baseI; split
  · rename_i hr; obtain ⟨hr, h0, h1⟩ := hr; rw [rightB_true] at hr
    rcases (show s = 0 ∨ s = 1 by omega) with rfl | rfl <;> omega
  · omega
def endI (h l s : Int) : Int := if rightB h l = true ∧ 0 ≤ s ∧ s ≤ 1 then baseI h l s + h else 0
theorem endI_bd (h l s : Int) : 0 ≤ endI h l s ∧ endI h l s ≤ 816 := by
  have := baseI_bd h l s
  unfold endI; split
  · rename_i hr; obtain ⟨hr, h0, h1⟩ := hr; rw [rightB_true] at hr; omega
  · omega
def inG (h l s c : Int) : Bool := decide (baseI h l s ≤ c) && decide (c < endI h l s)

theorem geo_Right (h l : Int) : FnV Try.prog 15 [.agg #[.int .i64 h, .int .i64 l]] (.bool (rightB h l)) := by
  refine FnV.mk fun E F w hS => ?_
  refine returns_enter Try.func15 rfl Try.ntmps15 rfl ?_
  refine cw_seq fun K1 hK1 => ?_
  refine cw_region ?_
  refine wl_op rfl rfl (ow_box (cs := [_, _]) hS rfl rfl ?_)
  clear hS; intro b1 w hS
  refine wl_op rfl rfl (ow_vr (vr_assign (v := .bool false) rfl) ?_)
  refine wl_nil ?_
  refine hK1 _ _ ?_
  refine cw_seq fun K2 hK2 => ?_
  refine cw_block ?_
  refine cw_seq fun K3 hK3 => ?_
  refine cw_block ?_
  refine cw_block ?_
  refine cw_seq fun K4 hK4 => ?_
  refine cw_seq fun K5 hK5 => ?_
  refine cw_seq fun K6 hK6 => ?_
  refine cw_region ?_
  first | (refine wl_op rfl rfl (ow_vr (vr_fieldAddr fo_23_0 rfl) ?_)) | (refine wl_op rfl rfl (ow_vr (vr_fieldAddrV fo_23_0 rfl (by first | assumption | (refine Own.view ?_ (by assumption); exact fun _ => rfl) | exact OwnB.view (by assumption)) (by first | omega | (simp <;> omega))) ?_))
  refine wl_op rfl rfl (ow_lr (S := Sat _ _) (lr_load1 Try.underlying3 rfl rfl (by first | exact Has.here | exact Has.there (Has.here) | exact Has.there (Has.there (Has.here)) | exact Has.there (Has.there (Has.there (Has.here))) | exact Has.there (Has.there (Has.there (Has.there (Has.here)))) | exact Has.there (Has.there (Has.there (Has.there (Has.there (Has.here))))) | exact Has.there (Has.there (Has.there (Has.there (Has.there (Has.there (Has.here)))))) | exact Has.there (Has.there (Has.there (Has.there (Has.there (Has.there (Has.there (Has.here)))))))) rfl) hS ?_)
  refine wl_op rfl rfl (ow_vr (vr_lss rfl rfl) ?_)
  refine wl_op rfl rfl (ow_vr (vr_move (v := .bool _) rfl) ?_)
  refine wl_split 7 rfl (fun hc => ?_) (fun hc => ?_)
  · (try simp only [decide_eq_true_eq, decide_eq_false_iff_not, Bool.not_eq_true, Bool.not_eq_false, Bool.not_eq_true', Bool.not_eq_false', Bool.and_eq_true, Bool.or_eq_true, Bool.and_eq_false_iff, Bool.or_eq_false_iff, Int.not_lt, Int.not_le, gt_iff_lt, ge_iff_le, ne_eq, Decidable.not_not, beq_iff_eq] at hc)
    have hg7 := hc; clear hc
    refine wl_noD rfl rfl rfl rfl rfl rfl ?_
    refine wl_noD rfl rfl rfl rfl rfl rfl ?_
    refine wl_noD rfl rfl rfl rfl rfl rfl ?_
    refine wl_op rfl rfl (ow_vr (vr_pick (b := true) (v := .bool _) rfl rfl) ?_)
    refine wl_op rfl rfl (ow_vr (vr_assign (v := .bool _) rfl) ?_)
    refine wl_nil ?_
    refine hK6 _ _ ?_
    refine cw_cond_t rfl rfl (rfl) ?_
    refine cw_exit ?_
    refine hK3 _ _ ?_
    refine cw_seq fun K7 hK7 => ?_
    refine cw_seq fun K8 hK8 => ?_
    refine cw_region ?_
    refine wl_op rfl rfl (ow_vr (vr_assign (v := .bool false) rfl) ?_)
    refine wl_nil ?_
    refine hK8 _ _ ?_
    refine cw_ret ?_
    refine thenF_ret (inB_ret (thenF_ret (?_)))
    refine ret_one (fn := Try.f15) (n := 21) (t := 2) (.inl rfl) rfl rfl ?_
    exact ⟨congrArg Value.bool (by first | (symm; rw [rightB_true]; omega) | (symm; rw [rightB_false]; omega)), hS.tail1⟩
  · (try simp only [decide_eq_true_eq, decide_eq_false_iff_not, Bool.not_eq_true, Bool.not_eq_false, Bool.not_eq_true', Bool.not_eq_false', Bool.and_eq_true, Bool.or_eq_true, Bool.and_eq_false_iff, Bool.or_eq_false_iff, Int.not_lt, Int.not_le, gt_iff_lt, ge_iff_le, ne_eq, Decidable.not_not, beq_iff_eq] at hc)
    have hg7 := hc; clear hc
    first | (refine wl_yes rfl rfl rfl rfl rfl (ow_vr (vr_fieldAddr fo_23_0 rfl) ?_)) | (refine wl_yes rfl rfl rfl rfl rfl (ow_vr (vr_fieldAddrV fo_23_0 rfl (by first | assumption | (refine Own.view ?_ (by assumption); exact fun _ => rfl) | exact OwnB.view (by assumption)) (by first | omega | (simp <;> omega))) ?_))
    refine wl_yes rfl rfl rfl rfl rfl (ow_lr (S := Sat _ _) (lr_load1 Try.underlying3 rfl rfl (by first | exact Has.here | exact Has.there (Has.here) | exact Has.there (Has.there (Has.here)) | exact Has.there (Has.there (Has.there (Has.here))) | exact Has.there (Has.there (Has.there (Has.there (Has.here)))) | exact Has.there (Has.there (Has.there (Has.there (Has.there (Has.here))))) | exact Has.there (Has.there (Has.there (Has.there (Has.there (Has.there (Has.here)))))) | exact Has.there (Has.there (Has.there (Has.there (Has.there (Has.there (Has.there (Has.here)))))))) rfl) hS ?_)
    refine wl_yes rfl rfl rfl rfl rfl (ow_vr (vr_gtr rfl rfl) ?_)
    refine wl_op rfl rfl (ow_vr (vr_pick (b := false) (v := .bool _) rfl rfl) ?_)
    refine wl_op rfl rfl (ow_vr (vr_assign (v := .bool _) rfl) ?_)
    refine wl_nil ?_
    refine hK6 _ _ ?_
    refine cw_cond rfl rfl (fun hc => ?_) (fun hc => ?_)
    · (try simp only [decide_eq_true_eq, decide_eq_false_iff_not, Bool.not_eq_true, Bool.not_eq_false, Bool.not_eq_true', Bool.not_eq_false', Bool.and_eq_true, Bool.or_eq_true, Bool.and_eq_false_iff, Bool.or_eq_false_iff, Int.not_lt, Int.not_le, gt_iff_lt, ge_iff_le, ne_eq, Decidable.not_not, beq_iff_eq] at hc)
      have hc0 := hc; clear hc
      refine cw_exit ?_
      refine hK3 _ _ ?_
      refine cw_seq fun K9 hK9 => ?_
      refine cw_seq fun K10 hK10 => ?_
      refine cw_region ?_
      refine wl_op rfl rfl (ow_vr (vr_assign (v := .bool false) rfl) ?_)
      refine wl_nil ?_
      refine hK10 _ _ ?_
      refine cw_ret ?_
      refine thenF_ret (inB_ret (thenF_ret (?_)))
      refine ret_one (fn := Try.f15) (n := 21) (t := 2) (.inl rfl) rfl rfl ?_
      exact ⟨congrArg Value.bool (by first | (symm; rw [rightB_true]; omega) | (symm; rw [rightB_false]; omega)), hS.tail1⟩
    · (try simp only [decide_eq_true_eq, decide_eq_false_iff_not, Bool.not_eq_true, Bool.not_eq_false, Bool.not_eq_true', Bool.not_eq_false', Bool.and_eq_true, Bool.or_eq_true, Bool.and_eq_false_iff, Bool.or_eq_false_iff, Int.not_lt, Int.not_le, gt_iff_lt, ge_iff_le, ne_eq, Decidable.not_not, beq_iff_eq] at hc)
      have hc0 := hc; clear hc
      refine cw_skip ?_
      refine hK5 _ _ ?_
      refine cw_seq fun K11 hK11 => ?_
      refine cw_region ?_
      first | (refine wl_op rfl rfl (ow_vr (vr_fieldAddr fo_23_1 rfl) ?_)) | (refine wl_op rfl rfl (ow_vr (vr_fieldAddrV fo_23_1 rfl (by first | assumption | (refine Own.view ?_ (by assumption); exact fun _ => rfl) | exact OwnB.view (by assumption)) (by first | omega | (simp <;> omega))) ?_))
      refine wl_op rfl rfl (ow_lr (S := Sat _ _) (lr_load1 Try.underlying3 rfl rfl (by first | exact Has.here | exact Has.there (Has.here) | exact Has.there (Has.there (Has.here)) | exact Has.there (Has.there (Has.there (Has.here))) | exact Has.there (Has.there (Has.there (Has.there (Has.here)))) | exact Has.there (Has.there (Has.there (Has.there (Has.there (Has.here))))) | exact Has.there (Has.there (Has.there (Has.there (Has.there (Has.there (Has.here)))))) | exact Has.there (Has.there (Has.there (Has.there (Has.there (Has.there (Has.there (Has.here)))))))) rfl) hS ?_)
      refine wl_op rfl rfl (ow_vr (vr_lss rfl rfl) ?_)
      refine wl_op rfl rfl (ow_vr (vr_move (v := .bool _) rfl) ?_)
      refine wl_split 16 rfl (fun hc => ?_) (fun hc => ?_)
      · (try simp only [decide_eq_true_eq, decide_eq_false_iff_not, Bool.not_eq_true, Bool.not_eq_false, Bool.not_eq_true', Bool.not_eq_false', Bool.and_eq_true, Bool.or_eq_true, Bool.and_eq_false_iff, Bool.or_eq_false_iff, Int.not_lt, Int.not_le, gt_iff_lt, ge_iff_le, ne_eq, Decidable.not_not, beq_iff_eq] at hc)
        have hg16 := hc; clear hc
        refine wl_noD rfl rfl rfl rfl rfl rfl ?_
        refine wl_noD rfl rfl rfl rfl rfl rfl ?_
        refine wl_noD rfl rfl rfl rfl rfl rfl ?_
        refine wl_op rfl rfl (ow_vr (vr_pick (b := true) (v := .bool _) rfl rfl) ?_)
        refine wl_op rfl rfl (ow_vr (vr_assign (v := .bool _) rfl) ?_)
        refine wl_nil ?_
        refine hK11 _ _ ?_
        refine cw_cond_t rfl rfl (rfl) ?_
        refine cw_exit ?_
        refine hK3 _ _ ?_
        refine cw_seq fun K12 hK12 => ?_
        refine cw_seq fun K13 hK13 => ?_
        refine cw_region ?_
        refine wl_op rfl rfl (ow_vr (vr_assign (v := .bool false) rfl) ?_)
        refine wl_nil ?_
        refine hK13 _ _ ?_
        refine cw_ret ?_
        refine thenF_ret (inB_ret (thenF_ret (?_)))
        refine ret_one (fn := Try.f15) (n := 21) (t := 2) (.inl rfl) rfl rfl ?_
        exact ⟨congrArg Value.bool (by first | (symm; rw [rightB_true]; omega) | (symm; rw [rightB_false]; omega)), hS.tail1⟩
      · (try simp only [decide_eq_true_eq, decide_eq_false_iff_not, Bool.not_eq_true, Bool.not_eq_false, Bool.not_eq_true', Bool.not_eq_false', Bool.and_eq_true, Bool.or_eq_true, Bool.and_eq_false_iff, Bool.or_eq_false_iff, Int.not_lt, Int.not_le, gt_iff_lt, ge_iff_le, ne_eq, Decidable.not_not, beq_iff_eq] at hc)
        have hg16 := hc; clear hc
        first | (refine wl_yes rfl rfl rfl rfl rfl (ow_vr (vr_fieldAddr fo_23_1 rfl) ?_)) | (refine wl_yes rfl rfl rfl rfl rfl (ow_vr (vr_fieldAddrV fo_23_1 rfl (by first | assumption | (refine Own.view ?_ (by assumption); exact fun _ => rfl) | exact OwnB.view (by assumption)) (by first | omega | (simp <;> omega))) ?_))
        refine wl_yes rfl rfl rfl rfl rfl (ow_lr (S := Sat _ _) (lr_load1 Try.underlying3 rfl rfl (by first | exact Has.here | exact Has.there (Has.here) | exact Has.there (Has.there (Has.here)) | exact Has.there (Has.there (Has.there (Has.here))) | exact Has.there (Has.there (Has.there (Has.there (Has.here)))) | exact Has.there (Has.there (Has.there (Has.there (Has.there (Has.here))))) | exact Has.there (Has.there (Has.there (Has.there (Has.there (Has.there (Has.here)))))) | exact Has.there (Has.there (Has.there (Has.there (Has.there (Has.there (Has.there (Has.here)))))))) rfl) hS ?_)
        refine wl_yes rfl rfl rfl rfl rfl (ow_vr (vr_gtr rfl rfl) ?_)
        refine wl_op rfl rfl (ow_vr (vr_pick (b := false) (v := .bool _) rfl rfl) ?_)
        refine wl_op rfl rfl (ow_vr (vr_assign (v := .bool _) rfl) ?_)
        refine wl_nil ?_
        refine hK11 _ _ ?_
        refine cw_cond rfl rfl (fun hc => ?_) (fun hc => ?_)
        · (try simp only [decide_eq_true_eq, decide_eq_false_iff_not, Bool.not_eq_true, Bool.not_eq_false, Bool.not_eq_true', Bool.not_eq_false', Bool.and_eq_true, Bool.or_eq_true, Bool.and_eq_false_iff, Bool.or_eq_false_iff, Int.not_lt, Int.not_le, gt_iff_lt, ge_iff_le, ne_eq, Decidable.not_not, beq_iff_eq] at hc)
          have hc1 := hc; clear hc
          refine cw_exit ?_
          refine hK3 _ _ ?_
          refine cw_seq fun K14 hK14 => ?_
          refine cw_seq fun K15 hK15 => ?_
          refine cw_region ?_
          refine wl_op rfl rfl (ow_vr (vr_assign (v := .bool false) rfl) ?_)
          refine wl_nil ?_
          refine hK15 _ _ ?_
          refine cw_ret ?_
          refine thenF_ret (inB_ret (thenF_ret (?_)))
          refine ret_one (fn := Try.f15) (n := 21) (t := 2) (.inl rfl) rfl rfl ?_
          exact ⟨congrArg Value.bool (by first | (symm; rw [rightB_true]; omega) | (symm; rw [rightB_false]; omega)), hS.tail1⟩
        · (try simp only [decide_eq_true_eq, decide_eq_false_iff_not, Bool.not_eq_true, Bool.not_eq_false, Bool.not_eq_true', Bool.not_eq_false', Bool.and_eq_true, Bool.or_eq_true, Bool.and_eq_false_iff, Bool.or_eq_false_iff, Int.not_lt, Int.not_le, gt_iff_lt, ge_iff_le, ne_eq, Decidable.not_not, beq_iff_eq] at hc)
          have hc1 := hc; clear hc
          refine cw_skip ?_
          refine hK4 _ _ ?_
          refine cw_exit ?_
          refine hK2 _ _ ?_
          refine cw_seq fun K16 hK16 => ?_
          refine cw_region ?_
          refine wl_op rfl rfl (ow_vr (vr_assign (v := .bool true) rfl) ?_)
          refine wl_nil ?_
          refine hK16 _ _ ?_
          refine cw_ret ?_
          refine ret_one (fn := Try.f15) (n := 21) (t := 2) (.inl rfl) rfl rfl ?_
          exact ⟨congrArg Value.bool (by first | (symm; rw [rightB_true]; omega) | (symm; rw [rightB_false]; omega)), hS.tail1⟩
theorem geo_Cells (h l : Int) : FnV Try.prog 20 [.agg #[.int .i64 h, .int .i64 l]] (.int .i64 (cellsI h l)) := by
  refine FnV.mk fun E F w hS => ?_
  have hr := @rightB_true h l
  refine returns_enter Try.func20 rfl Try.ntmps20 rfl ?_
  refine cw_seq fun K1 hK1 => ?_
  refine cw_region ?_
  refine wl_op rfl rfl (ow_box (cs := [_, _]) hS rfl rfl ?_)
  clear hS; intro b1 w hS
  refine wl_op rfl rfl (ow_vr (vr_assign (v := .int .i64 0) rfl) ?_)
  refine wl_nil ?_
  refine hK1 _ _ ?_
  refine cw_seq fun K2 hK2 => ?_
  refine cw_seq fun K3 hK3 => ?_
  refine cw_region ?_
  refine wl_op rfl rfl (ow_lr (S := Sat _ _) (lr_loadA Try.underlying23 rfl sz_23 rfl (by first | exact Has.here | exact Has.there (Has.here) | exact Has.there (Has.there (Has.here)) | exact Has.there (Has.there (Has.there (Has.here))) | exact Has.there (Has.there (Has.there (Has.there (Has.here)))) | exact Has.there (Has.there (Has.there (Has.there (Has.there (Has.here))))) | exact Has.there (Has.there (Has.there (Has.there (Has.there (Has.there (Has.here)))))) | exact Has.there (Has.there (Has.there (Has.there (Has.there (Has.there (Has.there (Has.here)))))))) rfl rfl) hS ?_)
  refine wl_op rfl rfl (ow_fn (vs := [.agg _]) en_15 rfl hS (geo_Right h l) ?_)
  clear hS; rintro _ _ w ⟨rfl, rfl⟩ hS; (try simp only [List.cons_append, List.nil_append] at hS)
  refine wl_op rfl rfl (ow_vr (vr_not rfl) ?_)
  refine wl_nil ?_
  refine hK3 _ _ ?_
  refine cw_cond rfl rfl (fun hc => ?_) (fun hc => ?_)
  · (try simp only [decide_eq_true_eq, decide_eq_false_iff_not, Bool.not_eq_true, Bool.not_eq_false, Bool.not_eq_true', Bool.not_eq_false', Bool.and_eq_true, Bool.or_eq_true, Bool.and_eq_false_iff, Bool.or_eq_false_iff, Int.not_lt, Int.not_le, gt_iff_lt, ge_iff_le, ne_eq, Decidable.not_not, beq_iff_eq] at hc)
    have hc := hc; clear hc
    refine cw_seq fun K4 hK4 => ?_
    refine cw_region ?_
    refine wl_op rfl rfl (ow_vr (vr_assign (v := .int .i64 0) rfl) ?_)
    refine wl_nil ?_
    refine hK4 _ _ ?_
    refine cw_ret ?_
    refine thenF_ret (?_)
    refine ret_one (fn := Try.f20) (n := 10) (t := 2) (.inl rfl) rfl rfl ?_
    exact ⟨congrArg (Value.int .i64) (by simp [cellsI, *]), hS.tail1⟩
  · (try simp only [decide_eq_true_eq, decide_eq_false_iff_not, Bool.not_eq_true, Bool.not_eq_false, Bool.not_eq_true', Bool.not_eq_false', Bool.and_eq_true, Bool.or_eq_true, Bool.and_eq_false_iff, Bool.or_eq_false_iff, Int.not_lt, Int.not_le, gt_iff_lt, ge_iff_le, ne_eq, Decidable.not_not, beq_iff_eq] at hc)
    have hc := hc; clear hc
    refine cw_skip ?_
    refine hK2 _ _ ?_
    refine cw_seq fun K5 hK5 => ?_
    (rw [hr] at hc)
    refine cw_region ?_
    first | (refine wl_op rfl rfl (ow_vr (vr_fieldAddr fo_23_0 rfl) ?_)) | (refine wl_op rfl rfl (ow_vr (vr_fieldAddrV fo_23_0 rfl (by first | assumption | (refine Own.view ?_ (by assumption); exact fun _ => rfl) | exact OwnB.view (by assumption)) (by first | omega | (simp <;> omega))) ?_))
    refine wl_op rfl rfl (ow_lr (S := Sat _ _) (lr_load1 Try.underlying3 rfl rfl (by first | exact Has.here | exact Has.there (Has.here) | exact Has.there (Has.there (Has.here)) | exact Has.there (Has.there (Has.there (Has.here))) | exact Has.there (Has.there (Has.there (Has.there (Has.here)))) | exact Has.there (Has.there (Has.there (Has.there (Has.there (Has.here))))) | exact Has.there (Has.there (Has.there (Has.there (Has.there (Has.there (Has.here)))))) | exact Has.there (Has.there (Has.there (Has.there (Has.there (Has.there (Has.there (Has.here)))))))) rfl) hS ?_)
    first | (refine wl_op rfl rfl (ow_vr (vr_muli rfl rfl (by unfold inI64; omega)) ?_)) | (refine wl_op rfl rfl (ow_vr (vr_mul rfl rfl) ?_))
    first | (refine wl_op rfl rfl (ow_vr (vr_addi rfl rfl (by unfold inI64; omega)) ?_)) | (refine wl_op rfl rfl (ow_vr (vr_add rfl rfl) ?_))
    refine wl_op rfl rfl (ow_vr (vr_assign (v := .int .i64 _) rfl) ?_)
    refine wl_nil ?_
    skip
    refine hK5 _ _ ?_
    refine cw_ret ?_
    refine ret_one (fn := Try.f20) (n := 10) (t := 2) (.inl rfl) rfl rfl ?_
    exact ⟨congrArg (Value.int .i64) (by simp [cellsI, *]), hS.tail1⟩
theorem geo_Pages (h l : Int) : FnV Try.prog 18 [.agg #[.int .i64 h, .int .i64 l]] (.int .i64 (pagesI h l)) := by
  refine FnV.mk fun E F w hS => ?_
  have hb := cellsI_bd h l
  refine returns_enter Try.func18 rfl Try.ntmps18 rfl ?_
  refine cw_seq fun K1 hK1 => ?_
  refine cw_region ?_
  refine wl_op rfl rfl (ow_box (cs := [_, _]) hS rfl rfl ?_)
  clear hS; intro b1 w hS
  refine wl_op rfl rfl (ow_vr (vr_assign (v := .int .i64 0) rfl) ?_)
  refine wl_nil ?_
  refine hK1 _ _ ?_
  refine cw_seq fun K2 hK2 => ?_
  refine cw_region ?_
  refine wl_op rfl rfl (ow_lr (S := Sat _ _) (lr_loadA Try.underlying23 rfl sz_23 rfl (by first | exact Has.here | exact Has.there (Has.here) | exact Has.there (Has.there (Has.here)) | exact Has.there (Has.there (Has.there (Has.here))) | exact Has.there (Has.there (Has.there (Has.there (Has.here)))) | exact Has.there (Has.there (Has.there (Has.there (Has.there (Has.here))))) | exact Has.there (Has.there (Has.there (Has.there (Has.there (Has.there (Has.here)))))) | exact Has.there (Has.there (Has.there (Has.there (Has.there (Has.there (Has.there (Has.here)))))))) rfl rfl) hS ?_)
  refine wl_op rfl rfl (ow_fn (vs := [.agg _]) en_20 rfl hS (geo_Cells h l) ?_)
  clear hS; rintro _ _ w ⟨rfl, rfl⟩ hS; (try simp only [List.cons_append, List.nil_append] at hS)
  first | (refine wl_op rfl rfl (ow_vr (vr_addi rfl rfl (by unfold inI64; omega)) ?_)) | (refine wl_op rfl rfl (ow_vr (vr_add rfl rfl) ?_))
  first | (refine wl_op rfl rfl (ow_vr (vr_subi rfl rfl (by unfold inI64; omega)) ?_)) | (refine wl_op rfl rfl (ow_vr (vr_sub rfl rfl) ?_))
  refine wl_op rfl rfl (ow_vr (vr_quo rfl rfl (by omega) (by omega)) ?_)
  refine wl_op rfl rfl (ow_vr (vr_assign (v := .int .i64 _) rfl) ?_)
  refine wl_nil ?_
  refine hK2 _ _ ?_
  refine cw_ret ?_
  refine ret_one (fn := Try.f18) (n := 8) (t := 2) (.inl rfl) rfl rfl ?_
  exact ⟨congrArg (Value.int .i64) (by unfold pagesI; omega), hS.tail1⟩
theorem geo_PageAt (h l no slot : Int) : FnV Try.prog 19 [.agg #[.int .i64 h, .int .i64 l], .int .i64 no, .int .i64 slot] (.int .i64 (pageAtI h l no slot)) := by
  refine FnV.mk fun E F w hS => ?_
  have hb := pagesI_bd h l
  refine returns_enter Try.func19 rfl Try.ntmps19 rfl ?_
  refine cw_seq fun K1 hK1 => ?_
  refine cw_region ?_
  refine wl_op rfl rfl (ow_box (cs := [_, _]) hS rfl rfl ?_)
  clear hS; intro b3 w hS
  refine wl_op rfl rfl (ow_vr (vr_assign (v := .int .i64 0) rfl) ?_)
  refine wl_nil ?_
  refine hK1 _ _ ?_
  refine cw_seq fun K2 hK2 => ?_
  refine cw_seq fun K3 hK3 => ?_
  refine cw_region ?_
  refine wl_op rfl rfl (ow_vr (vr_move (v := .int .i64 _) rfl) ?_)
  refine wl_op rfl rfl (ow_vr (vr_lss rfl rfl) ?_)
  refine wl_op rfl rfl (ow_vr (vr_move (v := .bool _) rfl) ?_)
  refine wl_split 9 rfl (fun hc => ?_) (fun hc => ?_)
  · (try simp only [decide_eq_true_eq, decide_eq_false_iff_not, Bool.not_eq_true, Bool.not_eq_false, Bool.not_eq_true', Bool.not_eq_false', Bool.and_eq_true, Bool.or_eq_true, Bool.and_eq_false_iff, Bool.or_eq_false_iff, Int.not_lt, Int.not_le, gt_iff_lt, ge_iff_le, ne_eq, Decidable.not_not, beq_iff_eq] at hc)
    have hg9 := hc; clear hc
    refine wl_noD rfl rfl rfl rfl rfl rfl ?_
    refine wl_noD rfl rfl rfl rfl rfl rfl ?_
    refine wl_noD rfl rfl rfl rfl rfl rfl ?_
    refine wl_noD rfl rfl rfl rfl rfl rfl ?_
    refine wl_op rfl rfl (ow_vr (vr_pick (b := true) (v := .bool _) rfl rfl) ?_)
    refine wl_op rfl rfl (ow_vr (vr_move (v := .bool _) rfl) ?_)
    refine wl_noD rfl rfl rfl rfl rfl rfl ?_
    refine wl_noD rfl rfl rfl rfl rfl rfl ?_
    refine wl_op rfl rfl (ow_vr (vr_pick (b := true) (v := .bool _) rfl rfl) ?_)
    refine wl_op rfl rfl (ow_vr (vr_move (v := .bool _) rfl) ?_)
    refine wl_noD rfl rfl rfl rfl rfl rfl ?_
    refine wl_noD rfl rfl rfl rfl rfl rfl ?_
    refine wl_op rfl rfl (ow_vr (vr_pick (b := true) (v := .bool _) rfl rfl) ?_)
    refine wl_nil ?_
    refine hK3 _ _ ?_
    refine cw_cond_t rfl rfl (rfl) ?_
    refine cw_seq fun K4 hK4 => ?_
    refine cw_region ?_
    refine wl_op rfl rfl (ow_vr (vr_assign (v := .int .i64 0) rfl) ?_)
    refine wl_nil ?_
    refine hK4 _ _ ?_
    refine cw_ret ?_
    refine thenF_ret (?_)
    refine ret_one (fn := Try.f19) (n := 29) (t := 6) (.inl rfl) rfl rfl ?_
    exact ⟨congrArg (Value.int .i64) (by unfold pageAtI; first | rw [if_neg (by omega)] | (rw [if_pos (by omega)])), hS.tail1⟩
  · (try simp only [decide_eq_true_eq, decide_eq_false_iff_not, Bool.not_eq_true, Bool.not_eq_false, Bool.not_eq_true', Bool.not_eq_false', Bool.and_eq_true, Bool.or_eq_true, Bool.and_eq_false_iff, Bool.or_eq_false_iff, Int.not_lt, Int.not_le, gt_iff_lt, ge_iff_le, ne_eq, Decidable.not_not, beq_iff_eq] at hc)
    have hg9 := hc; clear hc
    refine wl_yes rfl rfl rfl rfl rfl (ow_vr (vr_move (v := .int .i64 _) rfl) ?_)
    refine wl_yes rfl rfl rfl rfl rfl (ow_lr (S := Sat _ _) (lr_loadA Try.underlying23 rfl sz_23 rfl (by first | exact Has.here | exact Has.there (Has.here) | exact Has.there (Has.there (Has.here)) | exact Has.there (Has.there (Has.there (Has.here))) | exact Has.there (Has.there (Has.there (Has.there (Has.here)))) | exact Has.there (Has.there (Has.there (Has.there (Has.there (Has.here))))) | exact Has.there (Has.there (Has.there (Has.there (Has.there (Has.there (Has.here)))))) | exact Has.there (Has.there (Has.there (Has.there (Has.there (Has.there (Has.there (Has.here)))))))) rfl rfl) hS ?_)
    refine wl_yes rfl rfl rfl rfl rfl (ow_fn (vs := [.agg _]) en_18 rfl hS (geo_Pages h l) ?_)
    clear hS; rintro _ _ w ⟨rfl, rfl⟩ hS; (try simp only [List.cons_append, List.nil_append] at hS)
    refine wl_yes rfl rfl rfl rfl rfl (ow_vr (vr_geq rfl rfl) ?_)
    refine wl_op rfl rfl (ow_vr (vr_pick (b := false) (v := .bool _) rfl rfl) ?_)
    refine wl_op rfl rfl (ow_vr (vr_move (v := .bool _) rfl) ?_)
    refine wl_split 15 rfl (fun hc => ?_) (fun hc => ?_)
    · (try simp only [decide_eq_true_eq, decide_eq_false_iff_not, Bool.not_eq_true, Bool.not_eq_false, Bool.not_eq_true', Bool.not_eq_false', Bool.and_eq_true, Bool.or_eq_true, Bool.and_eq_false_iff, Bool.or_eq_false_iff, Int.not_lt, Int.not_le, gt_iff_lt, ge_iff_le, ne_eq, Decidable.not_not, beq_iff_eq] at hc)
      have hg15 := hc; clear hc
      refine wl_noD rfl rfl rfl rfl rfl rfl ?_
      refine wl_noD rfl rfl rfl rfl rfl rfl ?_
      refine wl_op rfl rfl (ow_vr (vr_pick (b := true) (v := .bool _) rfl rfl) ?_)
      refine wl_op rfl rfl (ow_vr (vr_move (v := .bool _) rfl) ?_)
      refine wl_noD rfl rfl rfl rfl rfl rfl ?_
      refine wl_noD rfl rfl rfl rfl rfl rfl ?_
      refine wl_op rfl rfl (ow_vr (vr_pick (b := true) (v := .bool _) rfl rfl) ?_)
      refine wl_nil ?_
      refine hK3 _ _ ?_
      refine cw_cond_t rfl rfl (rfl) ?_
      refine cw_seq fun K5 hK5 => ?_
      refine cw_region ?_
      refine wl_op rfl rfl (ow_vr (vr_assign (v := .int .i64 0) rfl) ?_)
      refine wl_nil ?_
      refine hK5 _ _ ?_
      refine cw_ret ?_
      refine thenF_ret (?_)
      refine ret_one (fn := Try.f19) (n := 29) (t := 6) (.inl rfl) rfl rfl ?_
      exact ⟨congrArg (Value.int .i64) (by unfold pageAtI; first | rw [if_neg (by omega)] | (rw [if_pos (by omega)])), hS.tail1⟩
    · (try simp only [decide_eq_true_eq, decide_eq_false_iff_not, Bool.not_eq_true, Bool.not_eq_false, Bool.not_eq_true', Bool.not_eq_false', Bool.and_eq_true, Bool.or_eq_true, Bool.and_eq_false_iff, Bool.or_eq_false_iff, Int.not_lt, Int.not_le, gt_iff_lt, ge_iff_le, ne_eq, Decidable.not_not, beq_iff_eq] at hc)
      have hg15 := hc; clear hc
      refine wl_yes rfl rfl rfl rfl rfl (ow_vr (vr_move (v := .int .i64 _) rfl) ?_)
      refine wl_yes rfl rfl rfl rfl rfl (ow_vr (vr_lss rfl rfl) ?_)
      refine wl_op rfl rfl (ow_vr (vr_pick (b := false) (v := .bool _) rfl rfl) ?_)
      refine wl_op rfl rfl (ow_vr (vr_move (v := .bool _) rfl) ?_)
      refine wl_split 19 rfl (fun hc => ?_) (fun hc => ?_)
      · (try simp only [decide_eq_true_eq, decide_eq_false_iff_not, Bool.not_eq_true, Bool.not_eq_false, Bool.not_eq_true', Bool.not_eq_false', Bool.and_eq_true, Bool.or_eq_true, Bool.and_eq_false_iff, Bool.or_eq_false_iff, Int.not_lt, Int.not_le, gt_iff_lt, ge_iff_le, ne_eq, Decidable.not_not, beq_iff_eq] at hc)
        have hg19 := hc; clear hc
        refine wl_noD rfl rfl rfl rfl rfl rfl ?_
        refine wl_noD rfl rfl rfl rfl rfl rfl ?_
        refine wl_op rfl rfl (ow_vr (vr_pick (b := true) (v := .bool _) rfl rfl) ?_)
        refine wl_nil ?_
        refine hK3 _ _ ?_
        refine cw_cond_t rfl rfl (rfl) ?_
        refine cw_seq fun K6 hK6 => ?_
        refine cw_region ?_
        refine wl_op rfl rfl (ow_vr (vr_assign (v := .int .i64 0) rfl) ?_)
        refine wl_nil ?_
        refine hK6 _ _ ?_
        refine cw_ret ?_
        refine thenF_ret (?_)
        refine ret_one (fn := Try.f19) (n := 29) (t := 6) (.inl rfl) rfl rfl ?_
        exact ⟨congrArg (Value.int .i64) (by unfold pageAtI; first | rw [if_neg (by omega)] | (rw [if_pos (by omega)])), hS.tail1⟩
      · (try simp only [decide_eq_true_eq, decide_eq_false_iff_not, Bool.not_eq_true, Bool.not_eq_false, Bool.not_eq_true', Bool.not_eq_false', Bool.and_eq_true, Bool.or_eq_true, Bool.and_eq_false_iff, Bool.or_eq_false_iff, Int.not_lt, Int.not_le, gt_iff_lt, ge_iff_le, ne_eq, Decidable.not_not, beq_iff_eq] at hc)
        have hg19 := hc; clear hc
        refine wl_yes rfl rfl rfl rfl rfl (ow_vr (vr_move (v := .int .i64 _) rfl) ?_)
        refine wl_yes rfl rfl rfl rfl rfl (ow_vr (vr_geq rfl rfl) ?_)
        refine wl_op rfl rfl (ow_vr (vr_pick (b := false) (v := .bool _) rfl rfl) ?_)
        refine wl_nil ?_
        refine hK3 _ _ ?_
        refine cw_cond rfl rfl (fun hc => ?_) (fun hc => ?_)
        · (try simp only [decide_eq_true_eq, decide_eq_false_iff_not, Bool.not_eq_true, Bool.not_eq_false, Bool.not_eq_true', Bool.not_eq_false', Bool.and_eq_true, Bool.or_eq_true, Bool.and_eq_false_iff, Bool.or_eq_false_iff, Int.not_lt, Int.not_le, gt_iff_lt, ge_iff_le, ne_eq, Decidable.not_not, beq_iff_eq] at hc)
          have hc0 := hc; clear hc
          refine cw_seq fun K7 hK7 => ?_
          refine cw_region ?_
          refine wl_op rfl rfl (ow_vr (vr_assign (v := .int .i64 0) rfl) ?_)
          refine wl_nil ?_
          refine hK7 _ _ ?_
          refine cw_ret ?_
          refine thenF_ret (?_)
          refine ret_one (fn := Try.f19) (n := 29) (t := 6) (.inl rfl) rfl rfl ?_
          exact ⟨congrArg (Value.int .i64) (by unfold pageAtI; first | rw [if_neg (by omega)] | (rw [if_pos (by omega)])), hS.tail1⟩
        · (try simp only [decide_eq_true_eq, decide_eq_false_iff_not, Bool.not_eq_true, Bool.not_eq_false, Bool.not_eq_true', Bool.not_eq_false', Bool.and_eq_true, Bool.or_eq_true, Bool.and_eq_false_iff, Bool.or_eq_false_iff, Int.not_lt, Int.not_le, gt_iff_lt, ge_iff_le, ne_eq, Decidable.not_not, beq_iff_eq] at hc)
          have hc0 := hc; clear hc
          refine cw_skip ?_
          refine hK2 _ _ ?_
          refine cw_seq fun K8 hK8 => ?_
          refine cw_region ?_
          refine wl_op rfl rfl (ow_vr (vr_move (v := .int .i64 _) rfl) ?_)
          first | (refine wl_op rfl rfl (ow_vr (vr_muli rfl rfl (by unfold inI64; omega)) ?_)) | (refine wl_op rfl rfl (ow_vr (vr_mul rfl rfl) ?_))
          first | (refine wl_op rfl rfl (ow_vr (vr_addi rfl rfl (by unfold inI64; omega)) ?_)) | (refine wl_op rfl rfl (ow_vr (vr_add rfl rfl) ?_))
          refine wl_op rfl rfl (ow_vr (vr_move (v := .int .i64 _) rfl) ?_)
          first | (refine wl_op rfl rfl (ow_vr (vr_muli rfl rfl (by unfold inI64; omega)) ?_)) | (refine wl_op rfl rfl (ow_vr (vr_mul rfl rfl) ?_))
          first | (refine wl_op rfl rfl (ow_vr (vr_addi rfl rfl (by unfold inI64; omega)) ?_)) | (refine wl_op rfl rfl (ow_vr (vr_add rfl rfl) ?_))
          refine wl_op rfl rfl (ow_vr (vr_assign (v := .int .i64 _) rfl) ?_)
          refine wl_nil ?_
          refine hK8 _ _ ?_
          refine cw_ret ?_
          refine ret_one (fn := Try.f19) (n := 29) (t := 6) (.inl rfl) rfl rfl ?_
          exact ⟨congrArg (Value.int .i64) (by unfold pageAtI; first | rw [if_neg (by omega)] | (rw [if_pos (by omega)])), hS.tail1⟩
theorem geo_LogAt (h l : Int) : FnV Try.prog 21 [.agg #[.int .i64 h, .int .i64 l]] (.int .i64 (logAtI h l)) := by
  refine FnV.mk fun E F w hS => ?_
  have hb := pagesI_bd h l
  refine returns_enter Try.func21 rfl Try.ntmps21 rfl ?_
  refine cw_seq fun K1 hK1 => ?_
  refine cw_region ?_
  refine wl_op rfl rfl (ow_box (cs := [_, _]) hS rfl rfl ?_)
  clear hS; intro b1 w hS
  refine wl_op rfl rfl (ow_vr (vr_assign (v := .int .i64 0) rfl) ?_)
  refine wl_nil ?_
  refine hK1 _ _ ?_
  refine cw_seq fun K2 hK2 => ?_
  refine cw_seq fun K3 hK3 => ?_
  refine cw_region ?_
  refine wl_op rfl rfl (ow_lr (S := Sat _ _) (lr_loadA Try.underlying23 rfl sz_23 rfl (by first | exact Has.here | exact Has.there (Has.here) | exact Has.there (Has.there (Has.here)) | exact Has.there (Has.there (Has.there (Has.here))) | exact Has.there (Has.there (Has.there (Has.there (Has.here)))) | exact Has.there (Has.there (Has.there (Has.there (Has.there (Has.here))))) | exact Has.there (Has.there (Has.there (Has.there (Has.there (Has.there (Has.here)))))) | exact Has.there (Has.there (Has.there (Has.there (Has.there (Has.there (Has.there (Has.here)))))))) rfl rfl) hS ?_)
  refine wl_op rfl rfl (ow_fn (vs := [.agg _]) en_15 rfl hS (geo_Right h l) ?_)
  clear hS; rintro _ _ w ⟨rfl, rfl⟩ hS; (try simp only [List.cons_append, List.nil_append] at hS)
  refine wl_op rfl rfl (ow_vr (vr_not rfl) ?_)
  refine wl_nil ?_
  refine hK3 _ _ ?_
  refine cw_cond rfl rfl (fun hc => ?_) (fun hc => ?_)
  · (try simp only [decide_eq_true_eq, decide_eq_false_iff_not, Bool.not_eq_true, Bool.not_eq_false, Bool.not_eq_true', Bool.not_eq_false', Bool.and_eq_true, Bool.or_eq_true, Bool.and_eq_false_iff, Bool.or_eq_false_iff, Int.not_lt, Int.not_le, gt_iff_lt, ge_iff_le, ne_eq, Decidable.not_not, beq_iff_eq] at hc)
    have hc0 := hc; clear hc
    refine cw_seq fun K4 hK4 => ?_
    refine cw_region ?_
    refine wl_op rfl rfl (ow_vr (vr_assign (v := .int .i64 0) rfl) ?_)
    refine wl_nil ?_
    refine hK4 _ _ ?_
    refine cw_ret ?_
    refine thenF_ret (?_)
    refine ret_one (fn := Try.f21) (n := 10) (t := 2) (.inl rfl) rfl rfl ?_
    exact ⟨congrArg (Value.int .i64) (by simp [logAtI, *]), hS.tail1⟩
  · (try simp only [decide_eq_true_eq, decide_eq_false_iff_not, Bool.not_eq_true, Bool.not_eq_false, Bool.not_eq_true', Bool.not_eq_false', Bool.and_eq_true, Bool.or_eq_true, Bool.and_eq_false_iff, Bool.or_eq_false_iff, Int.not_lt, Int.not_le, gt_iff_lt, ge_iff_le, ne_eq, Decidable.not_not, beq_iff_eq] at hc)
    have hc0 := hc; clear hc
    refine cw_skip ?_
    refine hK2 _ _ ?_
    refine cw_seq fun K5 hK5 => ?_
    refine cw_region ?_
    refine wl_op rfl rfl (ow_lr (S := Sat _ _) (lr_loadA Try.underlying23 rfl sz_23 rfl (by first | exact Has.here | exact Has.there (Has.here) | exact Has.there (Has.there (Has.here)) | exact Has.there (Has.there (Has.there (Has.here))) | exact Has.there (Has.there (Has.there (Has.there (Has.here)))) | exact Has.there (Has.there (Has.there (Has.there (Has.there (Has.here))))) | exact Has.there (Has.there (Has.there (Has.there (Has.there (Has.there (Has.here)))))) | exact Has.there (Has.there (Has.there (Has.there (Has.there (Has.there (Has.there (Has.here)))))))) rfl rfl) hS ?_)
    refine wl_op rfl rfl (ow_fn (vs := [.agg _]) en_18 rfl hS (geo_Pages h l) ?_)
    clear hS; rintro _ _ w ⟨rfl, rfl⟩ hS; (try simp only [List.cons_append, List.nil_append] at hS)
    first | (refine wl_op rfl rfl (ow_vr (vr_muli rfl rfl (by unfold inI64; omega)) ?_)) | (refine wl_op rfl rfl (ow_vr (vr_mul rfl rfl) ?_))
    first | (refine wl_op rfl rfl (ow_vr (vr_addi rfl rfl (by unfold inI64; omega)) ?_)) | (refine wl_op rfl rfl (ow_vr (vr_add rfl rfl) ?_))
    refine wl_op rfl rfl (ow_vr (vr_assign (v := .int .i64 _) rfl) ?_)
    refine wl_nil ?_
    refine hK5 _ _ ?_
    refine cw_ret ?_
    refine ret_one (fn := Try.f21) (n := 10) (t := 2) (.inl rfl) rfl rfl ?_
    exact ⟨congrArg (Value.int .i64) (by simp [logAtI, *]), hS.tail1⟩
theorem geo_Sectors (h l : Int) : FnV Try.prog 17 [.agg #[.int .i64 h, .int .i64 l]] (.int .i64 (sectorsI h l)) := by
  refine FnV.mk fun E F w hS => ?_
  have hb := logAtI_bd h l
  have hr := @rightB_true h l
  refine returns_enter Try.func17 rfl Try.ntmps17 rfl ?_
  refine cw_seq fun K1 hK1 => ?_
  refine cw_region ?_
  refine wl_op rfl rfl (ow_box (cs := [_, _]) hS rfl rfl ?_)
  clear hS; intro b1 w hS
  refine wl_op rfl rfl (ow_vr (vr_assign (v := .int .i64 0) rfl) ?_)
  refine wl_nil ?_
  refine hK1 _ _ ?_
  refine cw_seq fun K2 hK2 => ?_
  refine cw_seq fun K3 hK3 => ?_
  refine cw_region ?_
  refine wl_op rfl rfl (ow_lr (S := Sat _ _) (lr_loadA Try.underlying23 rfl sz_23 rfl (by first | exact Has.here | exact Has.there (Has.here) | exact Has.there (Has.there (Has.here)) | exact Has.there (Has.there (Has.there (Has.here))) | exact Has.there (Has.there (Has.there (Has.there (Has.here)))) | exact Has.there (Has.there (Has.there (Has.there (Has.there (Has.here))))) | exact Has.there (Has.there (Has.there (Has.there (Has.there (Has.there (Has.here)))))) | exact Has.there (Has.there (Has.there (Has.there (Has.there (Has.there (Has.there (Has.here)))))))) rfl rfl) hS ?_)
  refine wl_op rfl rfl (ow_fn (vs := [.agg _]) en_15 rfl hS (geo_Right h l) ?_)
  clear hS; rintro _ _ w ⟨rfl, rfl⟩ hS; (try simp only [List.cons_append, List.nil_append] at hS)
  refine wl_op rfl rfl (ow_vr (vr_not rfl) ?_)
  refine wl_nil ?_
  refine hK3 _ _ ?_
  refine cw_cond rfl rfl (fun hc => ?_) (fun hc => ?_)
  · (try simp only [decide_eq_true_eq, decide_eq_false_iff_not, Bool.not_eq_true, Bool.not_eq_false, Bool.not_eq_true', Bool.not_eq_false', Bool.and_eq_true, Bool.or_eq_true, Bool.and_eq_false_iff, Bool.or_eq_false_iff, Int.not_lt, Int.not_le, gt_iff_lt, ge_iff_le, ne_eq, Decidable.not_not, beq_iff_eq] at hc)
    have hc := hc; clear hc
    refine cw_seq fun K4 hK4 => ?_
    refine cw_region ?_
    refine wl_op rfl rfl (ow_vr (vr_assign (v := .int .i64 0) rfl) ?_)
    refine wl_nil ?_
    refine hK4 _ _ ?_
    refine cw_ret ?_
    refine thenF_ret (?_)
    refine ret_one (fn := Try.f17) (n := 11) (t := 2) (.inl rfl) rfl rfl ?_
    exact ⟨congrArg (Value.int .i64) (by simp [sectorsI, *]), hS.tail1⟩
  · (try simp only [decide_eq_true_eq, decide_eq_false_iff_not, Bool.not_eq_true, Bool.not_eq_false, Bool.not_eq_true', Bool.not_eq_false', Bool.and_eq_true, Bool.or_eq_true, Bool.and_eq_false_iff, Bool.or_eq_false_iff, Int.not_lt, Int.not_le, gt_iff_lt, ge_iff_le, ne_eq, Decidable.not_not, beq_iff_eq] at hc)
    have hc := hc; clear hc
    refine cw_skip ?_
    refine hK2 _ _ ?_
    refine cw_seq fun K5 hK5 => ?_
    (rw [hr] at hc)
    refine cw_draw_sat hS [(0, 1), (2, 0), (3, 1), (1, 2), (4, 0), (5, 0)] mixed (planFast_ok (by kernel_rfl)) (by rintro _ _ _ ⟨⟩) ?_
    clear hS; intro w hS
    refine pl_load rfl (yes_none rfl) (lr_loadA Try.underlying23 rfl sz_23 rfl (by first | exact Has.here | exact Has.there (Has.here) | exact Has.there (Has.there (Has.here)) | exact Has.there (Has.there (Has.there (Has.here))) | exact Has.there (Has.there (Has.there (Has.there (Has.here)))) | exact Has.there (Has.there (Has.there (Has.there (Has.there (Has.here))))) | exact Has.there (Has.there (Has.there (Has.there (Has.there (Has.there (Has.here)))))) | exact Has.there (Has.there (Has.there (Has.there (Has.there (Has.there (Has.there (Has.here)))))))) rfl rfl) ?_
    first | (refine pl_take rfl (yes_none rfl) (vr_fieldAddr fo_23_1 rfl) ?_) | (refine pl_take rfl (yes_none rfl) (vr_fieldAddrV fo_23_1 rfl (by first | assumption | (refine Own.view ?_ (by assumption); exact fun _ => rfl) | exact OwnB.view (by assumption)) (by first | omega | (simp <;> omega))) ?_)
    refine pl_load rfl (yes_none rfl) (lr_load1 Try.underlying3 rfl rfl (by first | exact Has.here | exact Has.there (Has.here) | exact Has.there (Has.there (Has.here)) | exact Has.there (Has.there (Has.there (Has.here))) | exact Has.there (Has.there (Has.there (Has.there (Has.here)))) | exact Has.there (Has.there (Has.there (Has.there (Has.there (Has.here))))) | exact Has.there (Has.there (Has.there (Has.there (Has.there (Has.there (Has.here)))))) | exact Has.there (Has.there (Has.there (Has.there (Has.there (Has.there (Has.there (Has.here)))))))) rfl) ?_
    refine pl_act hS rfl (yes_none rfl) ?_
    clear hS; intro w hS
    refine (ow_fn (vs := [.agg _]) en_21 rfl hS (geo_LogAt h l) ?_)
    clear hS; rintro _ _ w ⟨rfl, rfl⟩ hS; (try simp only [List.cons_append, List.nil_append] at hS)
    refine ⟨by first | exact hS | exact hS.tail1 | exact hS.tail1.tail1, ?_⟩
    first | (refine pl_take rfl (yes_none rfl) (vr_addi rfl rfl (by unfold inI64; omega)) ?_) | (refine pl_take rfl (yes_none rfl) (vr_add rfl rfl) ?_)
    refine pl_take rfl (yes_none rfl) (vr_assign (v := .int .i64 _) rfl) ?_
    refine pl_nil hS ?_
    clear hS; intro w hS
    refine hK5 _ _ ?_
    refine cw_ret ?_
    refine ret_one (fn := Try.f17) (n := 11) (t := 2) (.inl rfl) rfl rfl ?_
    exact ⟨congrArg (Value.int .i64) (by simp [sectorsI, *]), hS.tail1⟩
theorem geo_Base (h l s : Int) : FnV Try.prog 23 [.agg #[.int .i64 h, .int .i64 l], .int .i64 s] (.int .i64 (baseI h l s)) := by
  refine FnV.mk fun E F w hS => ?_
  have hr := @rightB_true h l
  refine returns_enter Try.func23 rfl Try.ntmps23 rfl ?_
  refine cw_seq fun K1 hK1 => ?_
  refine cw_region ?_
  refine wl_op rfl rfl (ow_box (cs := [_, _]) hS rfl rfl ?_)
  clear hS; intro b2 w hS
  refine wl_op rfl rfl (ow_vr (vr_assign (v := .int .i64 0) rfl) ?_)
  refine wl_nil ?_
  refine hK1 _ _ ?_
  refine cw_seq fun K2 hK2 => ?_
  refine cw_seq fun K3 hK3 => ?_
  refine cw_region ?_
  refine wl_op rfl rfl (ow_lr (S := Sat _ _) (lr_loadA Try.underlying23 rfl sz_23 rfl (by first | exact Has.here | exact Has.there (Has.here) | exact Has.there (Has.there (Has.here)) | exact Has.there (Has.there (Has.there (Has.here))) | exact Has.there (Has.there (Has.there (Has.there (Has.here)))) | exact Has.there (Has.there (Has.there (Has.there (Has.there (Has.here))))) | exact Has.there (Has.there (Has.there (Has.there (Has.there (Has.there (Has.here)))))) | exact Has.there (Has.there (Has.there (Has.there (Has.there (Has.there (Has.there (Has.here)))))))) rfl rfl) hS ?_)
  refine wl_op rfl rfl (ow_fn (vs := [.agg _]) en_15 rfl hS (geo_Right h l) ?_)
  clear hS; rintro _ _ w ⟨rfl, rfl⟩ hS; (try simp only [List.cons_append, List.nil_append] at hS)
  refine wl_op rfl rfl (ow_vr (vr_not rfl) ?_)
  refine wl_op rfl rfl (ow_vr (vr_move (v := .bool _) rfl) ?_)
  refine wl_split 8 rfl (fun hc => ?_) (fun hc => ?_)
  · (try simp only [decide_eq_true_eq, decide_eq_false_iff_not, Bool.not_eq_true, Bool.not_eq_false, Bool.not_eq_true', Bool.not_eq_false', Bool.and_eq_true, Bool.or_eq_true, Bool.and_eq_false_iff, Bool.or_eq_false_iff, Int.not_lt, Int.not_le, gt_iff_lt, ge_iff_le, ne_eq, Decidable.not_not, beq_iff_eq] at hc)
    have hc := hc; clear hc
    refine wl_noD rfl rfl rfl rfl rfl rfl ?_
    refine wl_noD rfl rfl rfl rfl rfl rfl ?_
    refine wl_op rfl rfl (ow_vr (vr_pick (b := true) (v := .bool _) rfl rfl) ?_)
    refine wl_op rfl rfl (ow_vr (vr_move (v := .bool _) rfl) ?_)
    refine wl_noD rfl rfl rfl rfl rfl rfl ?_
    refine wl_noD rfl rfl rfl rfl rfl rfl ?_
    refine wl_op rfl rfl (ow_vr (vr_pick (b := true) (v := .bool _) rfl rfl) ?_)
    refine wl_nil ?_
    refine hK3 _ _ ?_
    refine cw_cond_t rfl rfl (rfl) ?_
    refine cw_seq fun K4 hK4 => ?_
    refine cw_region ?_
    refine wl_op rfl rfl (ow_vr (vr_assign (v := .int .i64 0) rfl) ?_)
    refine wl_nil ?_
    refine hK4 _ _ ?_
    refine cw_ret ?_
    refine thenF_ret (?_)
    refine ret_one (fn := Try.f23) (n := 21) (t := 4) (.inl rfl) rfl rfl ?_
    exact ⟨congrArg (Value.int .i64) (by unfold baseI; first | rw [if_neg (by rintro ⟨h1, h2, h3⟩; first | omega | exact absurd (hc.symm.trans h1) (by simp))] | rw [if_pos ⟨hr.2 (by omega), by omega, by omega⟩]), hS.tail1⟩
  · (try simp only [decide_eq_true_eq, decide_eq_false_iff_not, Bool.not_eq_true, Bool.not_eq_false, Bool.not_eq_true', Bool.not_eq_false', Bool.and_eq_true, Bool.or_eq_true, Bool.and_eq_false_iff, Bool.or_eq_false_iff, Int.not_lt, Int.not_le, gt_iff_lt, ge_iff_le, ne_eq, Decidable.not_not, beq_iff_eq] at hc)
    have hc := hc; clear hc
    refine wl_yes rfl rfl rfl rfl rfl (ow_vr (vr_move (v := .int .i64 _) rfl) ?_)
    refine wl_yes rfl rfl rfl rfl rfl (ow_vr (vr_lss rfl rfl) ?_)
    refine wl_op rfl rfl (ow_vr (vr_pick (b := false) (v := .bool _) rfl rfl) ?_)
    refine wl_op rfl rfl (ow_vr (vr_move (v := .bool _) rfl) ?_)
    refine wl_split 12 rfl (fun hc => ?_) (fun hc => ?_)
    · (try simp only [decide_eq_true_eq, decide_eq_false_iff_not, Bool.not_eq_true, Bool.not_eq_false, Bool.not_eq_true', Bool.not_eq_false', Bool.and_eq_true, Bool.or_eq_true, Bool.and_eq_false_iff, Bool.or_eq_false_iff, Int.not_lt, Int.not_le, gt_iff_lt, ge_iff_le, ne_eq, Decidable.not_not, beq_iff_eq] at hc)
      have hg12 := hc; clear hc
      refine wl_noD rfl rfl rfl rfl rfl rfl ?_
      refine wl_noD rfl rfl rfl rfl rfl rfl ?_
      refine wl_op rfl rfl (ow_vr (vr_pick (b := true) (v := .bool _) rfl rfl) ?_)
      refine wl_nil ?_
      refine hK3 _ _ ?_
      refine cw_cond_t rfl rfl (rfl) ?_
      refine cw_seq fun K5 hK5 => ?_
      refine cw_region ?_
      refine wl_op rfl rfl (ow_vr (vr_assign (v := .int .i64 0) rfl) ?_)
      refine wl_nil ?_
      refine hK5 _ _ ?_
      refine cw_ret ?_
      refine thenF_ret (?_)
      refine ret_one (fn := Try.f23) (n := 21) (t := 4) (.inl rfl) rfl rfl ?_
      exact ⟨congrArg (Value.int .i64) (by unfold baseI; first | rw [if_neg (by rintro ⟨h1, h2, h3⟩; first | omega | exact absurd (hc.symm.trans h1) (by simp))] | rw [if_pos ⟨hr.2 (by omega), by omega, by omega⟩]), hS.tail1⟩
    · (try simp only [decide_eq_true_eq, decide_eq_false_iff_not, Bool.not_eq_true, Bool.not_eq_false, Bool.not_eq_true', Bool.not_eq_false', Bool.and_eq_true, Bool.or_eq_true, Bool.and_eq_false_iff, Bool.or_eq_false_iff, Int.not_lt, Int.not_le, gt_iff_lt, ge_iff_le, ne_eq, Decidable.not_not, beq_iff_eq] at hc)
      have hg12 := hc; clear hc
      refine wl_yes rfl rfl rfl rfl rfl (ow_vr (vr_move (v := .int .i64 _) rfl) ?_)
      refine wl_yes rfl rfl rfl rfl rfl (ow_vr (vr_gtr rfl rfl) ?_)
      refine wl_op rfl rfl (ow_vr (vr_pick (b := false) (v := .bool _) rfl rfl) ?_)
      refine wl_nil ?_
      refine hK3 _ _ ?_
      refine cw_cond rfl rfl (fun hc => ?_) (fun hc => ?_)
      · (try simp only [decide_eq_true_eq, decide_eq_false_iff_not, Bool.not_eq_true, Bool.not_eq_false, Bool.not_eq_true', Bool.not_eq_false', Bool.and_eq_true, Bool.or_eq_true, Bool.and_eq_false_iff, Bool.or_eq_false_iff, Int.not_lt, Int.not_le, gt_iff_lt, ge_iff_le, ne_eq, Decidable.not_not, beq_iff_eq] at hc)
        have hc0 := hc; clear hc
        refine cw_seq fun K6 hK6 => ?_
        refine cw_region ?_
        refine wl_op rfl rfl (ow_vr (vr_assign (v := .int .i64 0) rfl) ?_)
        refine wl_nil ?_
        refine hK6 _ _ ?_
        refine cw_ret ?_
        refine thenF_ret (?_)
        refine ret_one (fn := Try.f23) (n := 21) (t := 4) (.inl rfl) rfl rfl ?_
        exact ⟨congrArg (Value.int .i64) (by unfold baseI; first | rw [if_neg (by rintro ⟨h1, h2, h3⟩; first | omega | exact absurd (hc.symm.trans h1) (by simp))] | rw [if_pos ⟨hr.2 (by omega), by omega, by omega⟩]), hS.tail1⟩
      · (try simp only [decide_eq_true_eq, decide_eq_false_iff_not, Bool.not_eq_true, Bool.not_eq_false, Bool.not_eq_true', Bool.not_eq_false', Bool.and_eq_true, Bool.or_eq_true, Bool.and_eq_false_iff, Bool.or_eq_false_iff, Int.not_lt, Int.not_le, gt_iff_lt, ge_iff_le, ne_eq, Decidable.not_not, beq_iff_eq] at hc)
        have hc0 := hc; clear hc
        refine cw_skip ?_
        refine hK2 _ _ ?_
        refine cw_seq fun K7 hK7 => ?_
        have hm : s * h = 0 ∨ s * h = h := by (rcases (show s = 0 ∨ s = 1 by omega) with rfl | rfl <;> omega)
        rw [hr] at hc
        refine cw_region ?_
        refine wl_op rfl rfl (ow_vr (vr_move (v := .int .i64 _) rfl) ?_)
        first | (refine wl_op rfl rfl (ow_vr (vr_fieldAddr fo_23_0 rfl) ?_)) | (refine wl_op rfl rfl (ow_vr (vr_fieldAddrV fo_23_0 rfl (by first | assumption | (refine Own.view ?_ (by assumption); exact fun _ => rfl) | exact OwnB.view (by assumption)) (by first | omega | (simp <;> omega))) ?_))
        refine wl_op rfl rfl (ow_lr (S := Sat _ _) (lr_load1 Try.underlying3 rfl rfl (by first | exact Has.here | exact Has.there (Has.here) | exact Has.there (Has.there (Has.here)) | exact Has.there (Has.there (Has.there (Has.here))) | exact Has.there (Has.there (Has.there (Has.there (Has.here)))) | exact Has.there (Has.there (Has.there (Has.there (Has.there (Has.here))))) | exact Has.there (Has.there (Has.there (Has.there (Has.there (Has.there (Has.here)))))) | exact Has.there (Has.there (Has.there (Has.there (Has.there (Has.there (Has.there (Has.here)))))))) rfl) hS ?_)
        first | (refine wl_op rfl rfl (ow_vr (vr_muli rfl rfl (by unfold inI64; omega)) ?_)) | (refine wl_op rfl rfl (ow_vr (vr_mul rfl rfl) ?_))
        first | (refine wl_op rfl rfl (ow_vr (vr_addi rfl rfl (by unfold inI64; omega)) ?_)) | (refine wl_op rfl rfl (ow_vr (vr_add rfl rfl) ?_))
        refine wl_op rfl rfl (ow_vr (vr_assign (v := .int .i64 _) rfl) ?_)
        refine wl_nil ?_
        refine hK7 _ _ ?_
        refine cw_ret ?_
        refine ret_one (fn := Try.f23) (n := 21) (t := 4) (.inl rfl) rfl rfl ?_
        exact ⟨congrArg (Value.int .i64) (by unfold baseI; first | rw [if_neg (by rintro ⟨h1, h2, h3⟩; first | omega | exact absurd (hc.symm.trans h1) (by simp))] | rw [if_pos ⟨hr.2 (by omega), by omega, by omega⟩]), hS.tail1⟩
theorem geo_End (h l s : Int) : FnV Try.prog 24 [.agg #[.int .i64 h, .int .i64 l], .int .i64 s] (.int .i64 (endI h l s)) := by
  refine FnV.mk fun E F w hS => ?_
  have hr := @rightB_true h l
  have hb := baseI_bd h l s
  refine returns_enter Try.func24 rfl Try.ntmps24 rfl ?_
  refine cw_seq fun K1 hK1 => ?_
  refine cw_region ?_
  refine wl_op rfl rfl (ow_box (cs := [_, _]) hS rfl rfl ?_)
  clear hS; intro b2 w hS
  refine wl_op rfl rfl (ow_vr (vr_assign (v := .int .i64 0) rfl) ?_)
  refine wl_nil ?_
  refine hK1 _ _ ?_
  refine cw_seq fun K2 hK2 => ?_
  refine cw_seq fun K3 hK3 => ?_
  refine cw_region ?_
  refine wl_op rfl rfl (ow_lr (S := Sat _ _) (lr_loadA Try.underlying23 rfl sz_23 rfl (by first | exact Has.here | exact Has.there (Has.here) | exact Has.there (Has.there (Has.here)) | exact Has.there (Has.there (Has.there (Has.here))) | exact Has.there (Has.there (Has.there (Has.there (Has.here)))) | exact Has.there (Has.there (Has.there (Has.there (Has.there (Has.here))))) | exact Has.there (Has.there (Has.there (Has.there (Has.there (Has.there (Has.here)))))) | exact Has.there (Has.there (Has.there (Has.there (Has.there (Has.there (Has.there (Has.here)))))))) rfl rfl) hS ?_)
  refine wl_op rfl rfl (ow_fn (vs := [.agg _]) en_15 rfl hS (geo_Right h l) ?_)
  clear hS; rintro _ _ w ⟨rfl, rfl⟩ hS; (try simp only [List.cons_append, List.nil_append] at hS)
  refine wl_op rfl rfl (ow_vr (vr_not rfl) ?_)
  refine wl_op rfl rfl (ow_vr (vr_move (v := .bool _) rfl) ?_)
  refine wl_split 8 rfl (fun hc => ?_) (fun hc => ?_)
  · (try simp only [decide_eq_true_eq, decide_eq_false_iff_not, Bool.not_eq_true, Bool.not_eq_false, Bool.not_eq_true', Bool.not_eq_false', Bool.and_eq_true, Bool.or_eq_true, Bool.and_eq_false_iff, Bool.or_eq_false_iff, Int.not_lt, Int.not_le, gt_iff_lt, ge_iff_le, ne_eq, Decidable.not_not, beq_iff_eq] at hc)
    have hc := hc; clear hc
    refine wl_noD rfl rfl rfl rfl rfl rfl ?_
    refine wl_noD rfl rfl rfl rfl rfl rfl ?_
    refine wl_op rfl rfl (ow_vr (vr_pick (b := true) (v := .bool _) rfl rfl) ?_)
    refine wl_op rfl rfl (ow_vr (vr_move (v := .bool _) rfl) ?_)
    refine wl_noD rfl rfl rfl rfl rfl rfl ?_
    refine wl_noD rfl rfl rfl rfl rfl rfl ?_
    refine wl_op rfl rfl (ow_vr (vr_pick (b := true) (v := .bool _) rfl rfl) ?_)
    refine wl_nil ?_
    refine hK3 _ _ ?_
    refine cw_cond_t rfl rfl (rfl) ?_
    refine cw_seq fun K4 hK4 => ?_
    refine cw_region ?_
    refine wl_op rfl rfl (ow_vr (vr_assign (v := .int .i64 0) rfl) ?_)
    refine wl_nil ?_
    refine hK4 _ _ ?_
    refine cw_ret ?_
    refine thenF_ret (?_)
    refine ret_one (fn := Try.f24) (n := 22) (t := 4) (.inl rfl) rfl rfl ?_
    exact ⟨congrArg (Value.int .i64) (by unfold endI; first | rw [if_neg (by rintro ⟨h1, h2, h3⟩; first | omega | exact absurd (hc.symm.trans h1) (by simp))] | rw [if_pos ⟨hr.2 (by omega), by omega, by omega⟩]), hS.tail1⟩
  · (try simp only [decide_eq_true_eq, decide_eq_false_iff_not, Bool.not_eq_true, Bool.not_eq_false, Bool.not_eq_true', Bool.not_eq_false', Bool.and_eq_true, Bool.or_eq_true, Bool.and_eq_false_iff, Bool.or_eq_false_iff, Int.not_lt, Int.not_le, gt_iff_lt, ge_iff_le, ne_eq, Decidable.not_not, beq_iff_eq] at hc)
    have hc := hc; clear hc
    refine wl_yes rfl rfl rfl rfl rfl (ow_vr (vr_move (v := .int .i64 _) rfl) ?_)
    refine wl_yes rfl rfl rfl rfl rfl (ow_vr (vr_lss rfl rfl) ?_)
    refine wl_op rfl rfl (ow_vr (vr_pick (b := false) (v := .bool _) rfl rfl) ?_)
    refine wl_op rfl rfl (ow_vr (vr_move (v := .bool _) rfl) ?_)
    refine wl_split 12 rfl (fun hc => ?_) (fun hc => ?_)
    · (try simp only [decide_eq_true_eq, decide_eq_false_iff_not, Bool.not_eq_true, Bool.not_eq_false, Bool.not_eq_true', Bool.not_eq_false', Bool.and_eq_true, Bool.or_eq_true, Bool.and_eq_false_iff, Bool.or_eq_false_iff, Int.not_lt, Int.not_le, gt_iff_lt, ge_iff_le, ne_eq, Decidable.not_not, beq_iff_eq] at hc)
      have hg12 := hc; clear hc
      refine wl_noD rfl rfl rfl rfl rfl rfl ?_
      refine wl_noD rfl rfl rfl rfl rfl rfl ?_
      refine wl_op rfl rfl (ow_vr (vr_pick (b := true) (v := .bool _) rfl rfl) ?_)
      refine wl_nil ?_
      refine hK3 _ _ ?_
      refine cw_cond_t rfl rfl (rfl) ?_
      refine cw_seq fun K5 hK5 => ?_
      refine cw_region ?_
      refine wl_op rfl rfl (ow_vr (vr_assign (v := .int .i64 0) rfl) ?_)
      refine wl_nil ?_
      refine hK5 _ _ ?_
      refine cw_ret ?_
      refine thenF_ret (?_)
      refine ret_one (fn := Try.f24) (n := 22) (t := 4) (.inl rfl) rfl rfl ?_
      exact ⟨congrArg (Value.int .i64) (by unfold endI; first | rw [if_neg (by rintro ⟨h1, h2, h3⟩; first | omega | exact absurd (hc.symm.trans h1) (by simp))] | rw [if_pos ⟨hr.2 (by omega), by omega, by omega⟩]), hS.tail1⟩
    · (try simp only [decide_eq_true_eq, decide_eq_false_iff_not, Bool.not_eq_true, Bool.not_eq_false, Bool.not_eq_true', Bool.not_eq_false', Bool.and_eq_true, Bool.or_eq_true, Bool.and_eq_false_iff, Bool.or_eq_false_iff, Int.not_lt, Int.not_le, gt_iff_lt, ge_iff_le, ne_eq, Decidable.not_not, beq_iff_eq] at hc)
      have hg12 := hc; clear hc
      refine wl_yes rfl rfl rfl rfl rfl (ow_vr (vr_move (v := .int .i64 _) rfl) ?_)
      refine wl_yes rfl rfl rfl rfl rfl (ow_vr (vr_gtr rfl rfl) ?_)
      refine wl_op rfl rfl (ow_vr (vr_pick (b := false) (v := .bool _) rfl rfl) ?_)
      refine wl_nil ?_
      refine hK3 _ _ ?_
      refine cw_cond rfl rfl (fun hc => ?_) (fun hc => ?_)
      · (try simp only [decide_eq_true_eq, decide_eq_false_iff_not, Bool.not_eq_true, Bool.not_eq_false, Bool.not_eq_true', Bool.not_eq_false', Bool.and_eq_true, Bool.or_eq_true, Bool.and_eq_false_iff, Bool.or_eq_false_iff, Int.not_lt, Int.not_le, gt_iff_lt, ge_iff_le, ne_eq, Decidable.not_not, beq_iff_eq] at hc)
        have hc0 := hc; clear hc
        refine cw_seq fun K6 hK6 => ?_
        refine cw_region ?_
        refine wl_op rfl rfl (ow_vr (vr_assign (v := .int .i64 0) rfl) ?_)
        refine wl_nil ?_
        refine hK6 _ _ ?_
        refine cw_ret ?_
        refine thenF_ret (?_)
        refine ret_one (fn := Try.f24) (n := 22) (t := 4) (.inl rfl) rfl rfl ?_
        exact ⟨congrArg (Value.int .i64) (by unfold endI; first | rw [if_neg (by rintro ⟨h1, h2, h3⟩; first | omega | exact absurd (hc.symm.trans h1) (by simp))] | rw [if_pos ⟨hr.2 (by omega), by omega, by omega⟩]), hS.tail1⟩
      · (try simp only [decide_eq_true_eq, decide_eq_false_iff_not, Bool.not_eq_true, Bool.not_eq_false, Bool.not_eq_true', Bool.not_eq_false', Bool.and_eq_true, Bool.or_eq_true, Bool.and_eq_false_iff, Bool.or_eq_false_iff, Int.not_lt, Int.not_le, gt_iff_lt, ge_iff_le, ne_eq, Decidable.not_not, beq_iff_eq] at hc)
        have hc0 := hc; clear hc
        refine cw_skip ?_
        refine hK2 _ _ ?_
        refine cw_seq fun K7 hK7 => ?_
        rw [hr] at hc
        refine cw_draw_sat hS [(0, 1), (1, 0), (3, 0), (4, 1), (2, 2), (5, 0), (6, 0)] mixed (planFast_ok (by kernel_rfl)) (by rintro _ _ _ ⟨⟩) ?_
        clear hS; intro w hS
        refine pl_load rfl (yes_none rfl) (lr_loadA Try.underlying23 rfl sz_23 rfl (by first | exact Has.here | exact Has.there (Has.here) | exact Has.there (Has.there (Has.here)) | exact Has.there (Has.there (Has.there (Has.here))) | exact Has.there (Has.there (Has.there (Has.there (Has.here)))) | exact Has.there (Has.there (Has.there (Has.there (Has.there (Has.here))))) | exact Has.there (Has.there (Has.there (Has.there (Has.there (Has.there (Has.here)))))) | exact Has.there (Has.there (Has.there (Has.there (Has.there (Has.there (Has.there (Has.here)))))))) rfl rfl) ?_
        refine pl_take rfl (yes_none rfl) (vr_move (v := .int .i64 _) rfl) ?_
        first | (refine pl_take rfl (yes_none rfl) (vr_fieldAddr fo_23_0 rfl) ?_) | (refine pl_take rfl (yes_none rfl) (vr_fieldAddrV fo_23_0 rfl (by first | assumption | (refine Own.view ?_ (by assumption); exact fun _ => rfl) | exact OwnB.view (by assumption)) (by first | omega | (simp <;> omega))) ?_)
        refine pl_load rfl (yes_none rfl) (lr_load1 Try.underlying3 rfl rfl (by first | exact Has.here | exact Has.there (Has.here) | exact Has.there (Has.there (Has.here)) | exact Has.there (Has.there (Has.there (Has.here))) | exact Has.there (Has.there (Has.there (Has.there (Has.here)))) | exact Has.there (Has.there (Has.there (Has.there (Has.there (Has.here))))) | exact Has.there (Has.there (Has.there (Has.there (Has.there (Has.there (Has.here)))))) | exact Has.there (Has.there (Has.there (Has.there (Has.there (Has.there (Has.there (Has.here)))))))) rfl) ?_
        refine pl_act hS rfl (yes_none rfl) ?_
        clear hS; intro w hS
        refine (ow_fn (vs := [.agg _, .int .i64 _]) en_23 rfl hS (geo_Base h l s) ?_)
        clear hS; rintro _ _ w ⟨rfl, rfl⟩ hS; (try simp only [List.cons_append, List.nil_append] at hS)
        refine ⟨by first | exact hS | exact hS.tail1 | exact hS.tail1.tail1, ?_⟩
        first | (refine pl_take rfl (yes_none rfl) (vr_addi rfl rfl (by unfold inI64; omega)) ?_) | (refine pl_take rfl (yes_none rfl) (vr_add rfl rfl) ?_)
        refine pl_take rfl (yes_none rfl) (vr_assign (v := .int .i64 _) rfl) ?_
        refine pl_nil hS ?_
        clear hS; intro w hS
        refine hK7 _ _ ?_
        refine cw_ret ?_
        refine ret_one (fn := Try.f24) (n := 22) (t := 4) (.inl rfl) rfl rfl ?_
        exact ⟨congrArg (Value.int .i64) (by unfold endI; first | rw [if_neg (by rintro ⟨h1, h2, h3⟩; first | omega | exact absurd (hc.symm.trans h1) (by simp))] | rw [if_pos ⟨hr.2 (by omega), by omega, by omega⟩]), hS.tail1⟩
theorem geo_In (h l s c : Int) : FnV Try.prog 25 [.agg #[.int .i64 h, .int .i64 l], .int .i64 s, .int .i64 c] (.bool (inG h l s c)) := by
  refine FnV.mk fun E F w hS => ?_
  refine returns_enter Try.func25 rfl Try.ntmps25 rfl ?_
  refine cw_seq fun K1 hK1 => ?_
  refine cw_region ?_
  refine wl_op rfl rfl (ow_box (cs := [_, _]) hS rfl rfl ?_)
  clear hS; intro b3 w hS
  refine wl_op rfl rfl (ow_vr (vr_assign (v := .bool false) rfl) ?_)
  refine wl_nil ?_
  refine hK1 _ _ ?_
  refine cw_seq fun K2 hK2 => ?_
  refine cw_region ?_
  refine wl_op rfl rfl (ow_vr (vr_move (v := .int .i64 _) rfl) ?_)
  refine wl_op rfl rfl (ow_lr (S := Sat _ _) (lr_loadA Try.underlying23 rfl sz_23 rfl (by first | exact Has.here | exact Has.there (Has.here) | exact Has.there (Has.there (Has.here)) | exact Has.there (Has.there (Has.there (Has.here))) | exact Has.there (Has.there (Has.there (Has.there (Has.here)))) | exact Has.there (Has.there (Has.there (Has.there (Has.there (Has.here))))) | exact Has.there (Has.there (Has.there (Has.there (Has.there (Has.there (Has.here)))))) | exact Has.there (Has.there (Has.there (Has.there (Has.there (Has.there (Has.there (Has.here)))))))) rfl rfl) hS ?_)
  refine wl_op rfl rfl (ow_vr (vr_move (v := .int .i64 _) rfl) ?_)
  refine wl_op rfl rfl (ow_fn (vs := [.agg _, .int .i64 _]) en_23 rfl hS (geo_Base h l s) ?_)
  clear hS; rintro _ _ w ⟨rfl, rfl⟩ hS; (try simp only [List.cons_append, List.nil_append] at hS)
  refine wl_op rfl rfl (ow_vr (vr_geq rfl rfl) ?_)
  refine wl_op rfl rfl (ow_vr (vr_move (v := .bool _) rfl) ?_)
  refine wl_split 12 rfl (fun hc => ?_) (fun hc => ?_)
  · (try simp only [decide_eq_true_eq, decide_eq_false_iff_not, Bool.not_eq_true, Bool.not_eq_false, Bool.not_eq_true', Bool.not_eq_false', Bool.and_eq_true, Bool.or_eq_true, Bool.and_eq_false_iff, Bool.or_eq_false_iff, Int.not_lt, Int.not_le, gt_iff_lt, ge_iff_le, ne_eq, Decidable.not_not, beq_iff_eq] at hc)
    have hc := hc; clear hc
    refine wl_yes rfl rfl rfl rfl rfl (ow_vr (vr_move (v := .int .i64 _) rfl) ?_)
    refine wl_yes rfl rfl rfl rfl rfl (ow_lr (S := Sat _ _) (lr_loadA Try.underlying23 rfl sz_23 rfl (by first | exact Has.here | exact Has.there (Has.here) | exact Has.there (Has.there (Has.here)) | exact Has.there (Has.there (Has.there (Has.here))) | exact Has.there (Has.there (Has.there (Has.there (Has.here)))) | exact Has.there (Has.there (Has.there (Has.there (Has.there (Has.here))))) | exact Has.there (Has.there (Has.there (Has.there (Has.there (Has.there (Has.here)))))) | exact Has.there (Has.there (Has.there (Has.there (Has.there (Has.there (Has.there (Has.here)))))))) rfl rfl) hS ?_)
    refine wl_yes rfl rfl rfl rfl rfl (ow_vr (vr_move (v := .int .i64 _) rfl) ?_)
    refine wl_yes rfl rfl rfl rfl rfl (ow_fn (vs := [.agg _, .int .i64 _]) en_24 rfl hS (geo_End h l s) ?_)
    clear hS; rintro _ _ w ⟨rfl, rfl⟩ hS; (try simp only [List.cons_append, List.nil_append] at hS)
    refine wl_yes rfl rfl rfl rfl rfl (ow_vr (vr_lss rfl rfl) ?_)
    refine wl_op rfl rfl (ow_vr (vr_pick (b := true) (v := .bool _) rfl rfl) ?_)
    refine wl_op rfl rfl (ow_vr (vr_assign (v := .bool _) rfl) ?_)
    refine wl_nil ?_
    refine hK2 _ _ ?_
    refine cw_ret ?_
    refine ret_one (fn := Try.f25) (n := 19) (t := 6) (.inl rfl) rfl rfl ?_
    exact ⟨congrArg Value.bool (by first | (simp [inG, *]; done) | (simp [inG]; omega)), hS.tail1⟩
  · (try simp only [decide_eq_true_eq, decide_eq_false_iff_not, Bool.not_eq_true, Bool.not_eq_false, Bool.not_eq_true', Bool.not_eq_false', Bool.and_eq_true, Bool.or_eq_true, Bool.and_eq_false_iff, Bool.or_eq_false_iff, Int.not_lt, Int.not_le, gt_iff_lt, ge_iff_le, ne_eq, Decidable.not_not, beq_iff_eq] at hc)
    have hc := hc; clear hc
    refine wl_noD rfl rfl rfl rfl rfl rfl ?_
    refine wl_noD rfl rfl rfl rfl rfl rfl ?_
    refine wl_noD rfl rfl rfl rfl rfl rfl ?_
    refine wl_noD rfl rfl rfl rfl rfl rfl ?_
    refine wl_noD rfl rfl rfl rfl rfl rfl ?_
    refine wl_op rfl rfl (ow_vr (vr_pick (b := false) (v := .bool _) rfl rfl) ?_)
    refine wl_op rfl rfl (ow_vr (vr_assign (v := .bool _) rfl) ?_)
    refine wl_nil ?_
    refine hK2 _ _ ?_
    refine cw_ret ?_
    refine ret_one (fn := Try.f25) (n := 19) (t := 6) (.inl rfl) rfl rfl ?_
    exact ⟨congrArg Value.bool (by first | (simp [inG, *]; done) | (simp [inG]; omega)), hS.tail1⟩

/-! the document's own -/

theorem ref_Geo (h l : Int) : FnV Try.prog 22 [.agg #[.int .i64 h, .int .i64 l]] (.bool (rightB h l)) := by
  refine FnV.mk fun E F w hS => ?_
  refine returns_enter Try.func22 rfl Try.ntmps22 rfl ?_
  refine cw_seq fun K1 hK1 => ?_
  refine cw_region ?_
  refine wl_op rfl rfl (ow_box (cs := [_, _]) hS rfl rfl ?_)
  clear hS; intro b1 w hS
  refine wl_op rfl rfl (ow_vr (vr_assign (v := .bool false) rfl) ?_)
  refine wl_nil ?_
  refine hK1 _ _ ?_
  refine cw_seq fun K2 hK2 => ?_
  refine cw_region ?_
  first | (refine wl_op rfl rfl (ow_vr (vr_fieldAddr fo_23_0 rfl) ?_)) | (refine wl_op rfl rfl (ow_vr (vr_fieldAddrV fo_23_0 rfl (by first | assumption | (refine Own.view ?_ (by assumption); exact fun _ => rfl) | exact OwnB.view (by assumption)) (by first | omega | (simp <;> omega))) ?_))
  refine wl_op rfl rfl (ow_lr (S := Sat _ _) (lr_load1 Try.underlying3 rfl rfl (by first | exact Has.here | exact Has.there (Has.here) | exact Has.there (Has.there (Has.here)) | exact Has.there (Has.there (Has.there (Has.here))) | exact Has.there (Has.there (Has.there (Has.there (Has.here)))) | exact Has.there (Has.there (Has.there (Has.there (Has.there (Has.here))))) | exact Has.there (Has.there (Has.there (Has.there (Has.there (Has.there (Has.here)))))) | exact Has.there (Has.there (Has.there (Has.there (Has.there (Has.there (Has.there (Has.here)))))))) rfl) hS ?_)
  refine wl_op rfl rfl (ow_vr (vr_geq rfl rfl) ?_)
  refine wl_op rfl rfl (ow_vr (vr_move (v := .bool _) rfl) ?_)
  refine wl_split 6 rfl (fun hc => ?_) (fun hc => ?_)
  · (try simp only [decide_eq_true_eq, decide_eq_false_iff_not, Bool.not_eq_true, Bool.not_eq_false, Bool.not_eq_true', Bool.not_eq_false', Bool.and_eq_true, Bool.or_eq_true, Bool.and_eq_false_iff, Bool.or_eq_false_iff, Int.not_lt, Int.not_le, gt_iff_lt, ge_iff_le, ne_eq, Decidable.not_not, beq_iff_eq] at hc)
    have hg6 := hc; clear hc
    first | (refine wl_yes rfl rfl rfl rfl rfl (ow_vr (vr_fieldAddr fo_23_0 rfl) ?_)) | (refine wl_yes rfl rfl rfl rfl rfl (ow_vr (vr_fieldAddrV fo_23_0 rfl (by first | assumption | (refine Own.view ?_ (by assumption); exact fun _ => rfl) | exact OwnB.view (by assumption)) (by first | omega | (simp <;> omega))) ?_))
    refine wl_yes rfl rfl rfl rfl rfl (ow_lr (S := Sat _ _) (lr_load1 Try.underlying3 rfl rfl (by first | exact Has.here | exact Has.there (Has.here) | exact Has.there (Has.there (Has.here)) | exact Has.there (Has.there (Has.there (Has.here))) | exact Has.there (Has.there (Has.there (Has.there (Has.here)))) | exact Has.there (Has.there (Has.there (Has.there (Has.there (Has.here))))) | exact Has.there (Has.there (Has.there (Has.there (Has.there (Has.there (Has.here)))))) | exact Has.there (Has.there (Has.there (Has.there (Has.there (Has.there (Has.there (Has.here)))))))) rfl) hS ?_)
    refine wl_yes rfl rfl rfl rfl rfl (ow_vr (vr_leq rfl rfl) ?_)
    refine wl_op rfl rfl (ow_vr (vr_pick (b := true) (v := .bool _) rfl rfl) ?_)
    refine wl_op rfl rfl (ow_vr (vr_move (v := .bool _) rfl) ?_)
    refine wl_split 11 rfl (fun hc => ?_) (fun hc => ?_)
    · (try simp only [decide_eq_true_eq, decide_eq_false_iff_not, Bool.not_eq_true, Bool.not_eq_false, Bool.not_eq_true', Bool.not_eq_false', Bool.and_eq_true, Bool.or_eq_true, Bool.and_eq_false_iff, Bool.or_eq_false_iff, Int.not_lt, Int.not_le, gt_iff_lt, ge_iff_le, ne_eq, Decidable.not_not, beq_iff_eq] at hc)
      have hg11 := hc; clear hc
      first | (refine wl_yes rfl rfl rfl rfl rfl (ow_vr (vr_fieldAddr fo_23_1 rfl) ?_)) | (refine wl_yes rfl rfl rfl rfl rfl (ow_vr (vr_fieldAddrV fo_23_1 rfl (by first | assumption | (refine Own.view ?_ (by assumption); exact fun _ => rfl) | exact OwnB.view (by assumption)) (by first | omega | (simp <;> omega))) ?_))
      refine wl_yes rfl rfl rfl rfl rfl (ow_lr (S := Sat _ _) (lr_load1 Try.underlying3 rfl rfl (by first | exact Has.here | exact Has.there (Has.here) | exact Has.there (Has.there (Has.here)) | exact Has.there (Has.there (Has.there (Has.here))) | exact Has.there (Has.there (Has.there (Has.there (Has.here)))) | exact Has.there (Has.there (Has.there (Has.there (Has.there (Has.here))))) | exact Has.there (Has.there (Has.there (Has.there (Has.there (Has.there (Has.here)))))) | exact Has.there (Has.there (Has.there (Has.there (Has.there (Has.there (Has.there (Has.here)))))))) rfl) hS ?_)
      refine wl_yes rfl rfl rfl rfl rfl (ow_vr (vr_geq rfl rfl) ?_)
      refine wl_op rfl rfl (ow_vr (vr_pick (b := true) (v := .bool _) rfl rfl) ?_)
      refine wl_op rfl rfl (ow_vr (vr_move (v := .bool _) rfl) ?_)
      refine wl_split 16 rfl (fun hc => ?_) (fun hc => ?_)
      · (try simp only [decide_eq_true_eq, decide_eq_false_iff_not, Bool.not_eq_true, Bool.not_eq_false, Bool.not_eq_true', Bool.not_eq_false', Bool.and_eq_true, Bool.or_eq_true, Bool.and_eq_false_iff, Bool.or_eq_false_iff, Int.not_lt, Int.not_le, gt_iff_lt, ge_iff_le, ne_eq, Decidable.not_not, beq_iff_eq] at hc)
        have hg16 := hc; clear hc
        first | (refine wl_yes rfl rfl rfl rfl rfl (ow_vr (vr_fieldAddr fo_23_1 rfl) ?_)) | (refine wl_yes rfl rfl rfl rfl rfl (ow_vr (vr_fieldAddrV fo_23_1 rfl (by first | assumption | (refine Own.view ?_ (by assumption); exact fun _ => rfl) | exact OwnB.view (by assumption)) (by first | omega | (simp <;> omega))) ?_))
        refine wl_yes rfl rfl rfl rfl rfl (ow_lr (S := Sat _ _) (lr_load1 Try.underlying3 rfl rfl (by first | exact Has.here | exact Has.there (Has.here) | exact Has.there (Has.there (Has.here)) | exact Has.there (Has.there (Has.there (Has.here))) | exact Has.there (Has.there (Has.there (Has.there (Has.here)))) | exact Has.there (Has.there (Has.there (Has.there (Has.there (Has.here))))) | exact Has.there (Has.there (Has.there (Has.there (Has.there (Has.there (Has.here)))))) | exact Has.there (Has.there (Has.there (Has.there (Has.there (Has.there (Has.there (Has.here)))))))) rfl) hS ?_)
        refine wl_yes rfl rfl rfl rfl rfl (ow_vr (vr_leq rfl rfl) ?_)
        refine wl_op rfl rfl (ow_vr (vr_pick (b := true) (v := .bool _) rfl rfl) ?_)
        refine wl_op rfl rfl (ow_vr (vr_assign (v := .bool _) rfl) ?_)
        refine wl_nil ?_
        refine hK2 _ _ ?_
        refine cw_ret ?_
        refine ret_one (fn := Try.f22) (n := 21) (t := 2) (.inl rfl) rfl rfl ?_
        exact ⟨congrArg Value.bool (by first | (symm; rw [rightB_false]; omega) | (simp [rightB, *])), hS.tail1⟩
      · (try simp only [decide_eq_true_eq, decide_eq_false_iff_not, Bool.not_eq_true, Bool.not_eq_false, Bool.not_eq_true', Bool.not_eq_false', Bool.and_eq_true, Bool.or_eq_true, Bool.and_eq_false_iff, Bool.or_eq_false_iff, Int.not_lt, Int.not_le, gt_iff_lt, ge_iff_le, ne_eq, Decidable.not_not, beq_iff_eq] at hc)
        have hg16 := hc; clear hc
        refine wl_noD rfl rfl rfl rfl rfl rfl ?_
        refine wl_noD rfl rfl rfl rfl rfl rfl ?_
        refine wl_noD rfl rfl rfl rfl rfl rfl ?_
        refine wl_op rfl rfl (ow_vr (vr_pick (b := false) (v := .bool _) rfl rfl) ?_)
        refine wl_op rfl rfl (ow_vr (vr_assign (v := .bool _) rfl) ?_)
        refine wl_nil ?_
        refine hK2 _ _ ?_
        refine cw_ret ?_
        refine ret_one (fn := Try.f22) (n := 21) (t := 2) (.inl rfl) rfl rfl ?_
        exact ⟨congrArg Value.bool (by first | (symm; rw [rightB_false]; omega) | (simp [rightB, *])), hS.tail1⟩
    · (try simp only [decide_eq_true_eq, decide_eq_false_iff_not, Bool.not_eq_true, Bool.not_eq_false, Bool.not_eq_true', Bool.not_eq_false', Bool.and_eq_true, Bool.or_eq_true, Bool.and_eq_false_iff, Bool.or_eq_false_iff, Int.not_lt, Int.not_le, gt_iff_lt, ge_iff_le, ne_eq, Decidable.not_not, beq_iff_eq] at hc)
      have hg11 := hc; clear hc
      refine wl_noD rfl rfl rfl rfl rfl rfl ?_
      refine wl_noD rfl rfl rfl rfl rfl rfl ?_
      refine wl_noD rfl rfl rfl rfl rfl rfl ?_
      refine wl_op rfl rfl (ow_vr (vr_pick (b := false) (v := .bool _) rfl rfl) ?_)
      refine wl_op rfl rfl (ow_vr (vr_move (v := .bool _) rfl) ?_)
      refine wl_noD rfl rfl rfl rfl rfl rfl ?_
      refine wl_noD rfl rfl rfl rfl rfl rfl ?_
      refine wl_noD rfl rfl rfl rfl rfl rfl ?_
      refine wl_op rfl rfl (ow_vr (vr_pick (b := false) (v := .bool _) rfl rfl) ?_)
      refine wl_op rfl rfl (ow_vr (vr_assign (v := .bool _) rfl) ?_)
      refine wl_nil ?_
      refine hK2 _ _ ?_
      refine cw_ret ?_
      refine ret_one (fn := Try.f22) (n := 21) (t := 2) (.inl rfl) rfl rfl ?_
      exact ⟨congrArg Value.bool (by first | (symm; rw [rightB_false]; omega) | (simp [rightB, *])), hS.tail1⟩
  · (try simp only [decide_eq_true_eq, decide_eq_false_iff_not, Bool.not_eq_true, Bool.not_eq_false, Bool.not_eq_true', Bool.not_eq_false', Bool.and_eq_true, Bool.or_eq_true, Bool.and_eq_false_iff, Bool.or_eq_false_iff, Int.not_lt, Int.not_le, gt_iff_lt, ge_iff_le, ne_eq, Decidable.not_not, beq_iff_eq] at hc)
    have hg6 := hc; clear hc
    refine wl_noD rfl rfl rfl rfl rfl rfl ?_
    refine wl_noD rfl rfl rfl rfl rfl rfl ?_
    refine wl_noD rfl rfl rfl rfl rfl rfl ?_
    refine wl_op rfl rfl (ow_vr (vr_pick (b := false) (v := .bool _) rfl rfl) ?_)
    refine wl_op rfl rfl (ow_vr (vr_move (v := .bool _) rfl) ?_)
    refine wl_noD rfl rfl rfl rfl rfl rfl ?_
    refine wl_noD rfl rfl rfl rfl rfl rfl ?_
    refine wl_noD rfl rfl rfl rfl rfl rfl ?_
    refine wl_op rfl rfl (ow_vr (vr_pick (b := false) (v := .bool _) rfl rfl) ?_)
    refine wl_op rfl rfl (ow_vr (vr_move (v := .bool _) rfl) ?_)
    refine wl_noD rfl rfl rfl rfl rfl rfl ?_
    refine wl_noD rfl rfl rfl rfl rfl rfl ?_
    refine wl_noD rfl rfl rfl rfl rfl rfl ?_
    refine wl_op rfl rfl (ow_vr (vr_pick (b := false) (v := .bool _) rfl rfl) ?_)
    refine wl_op rfl rfl (ow_vr (vr_assign (v := .bool _) rfl) ?_)
    refine wl_nil ?_
    refine hK2 _ _ ?_
    refine cw_ret ?_
    refine ret_one (fn := Try.f22) (n := 21) (t := 2) (.inl rfl) rfl rfl ?_
    exact ⟨congrArg Value.bool (by first | (symm; rw [rightB_false]; omega) | (simp [rightB, *])), hS.tail1⟩
theorem ref_Cells (h l : Int) (hr : rightB h l = true) : FnV Try.prog 28 [.agg #[.int .i64 h, .int .i64 l]] (.int .i64 (cellsI h l)) := by
  refine FnV.mk fun E F w hS => ?_
  have hb := rightB_true.1 hr
  refine returns_enter Try.func28 rfl Try.ntmps28 rfl ?_
  refine cw_seq fun K1 hK1 => ?_
  refine cw_region ?_
  refine wl_op rfl rfl (ow_box (cs := [_, _]) hS rfl rfl ?_)
  clear hS; intro b1 w hS
  refine wl_op rfl rfl (ow_vr (vr_assign (v := .int .i64 0) rfl) ?_)
  refine wl_nil ?_
  refine hK1 _ _ ?_
  refine cw_seq fun K2 hK2 => ?_
  refine cw_region ?_
  first | (refine wl_op rfl rfl (ow_vr (vr_fieldAddr fo_23_0 rfl) ?_)) | (refine wl_op rfl rfl (ow_vr (vr_fieldAddrV fo_23_0 rfl (by first | assumption | (refine Own.view ?_ (by assumption); exact fun _ => rfl) | exact OwnB.view (by assumption)) (by first | omega | (simp <;> omega))) ?_))
  refine wl_op rfl rfl (ow_lr (S := Sat _ _) (lr_load1 Try.underlying3 rfl rfl (by first | exact Has.here | exact Has.there (Has.here) | exact Has.there (Has.there (Has.here)) | exact Has.there (Has.there (Has.there (Has.here))) | exact Has.there (Has.there (Has.there (Has.there (Has.here)))) | exact Has.there (Has.there (Has.there (Has.there (Has.there (Has.here))))) | exact Has.there (Has.there (Has.there (Has.there (Has.there (Has.there (Has.here)))))) | exact Has.there (Has.there (Has.there (Has.there (Has.there (Has.there (Has.there (Has.here)))))))) rfl) hS ?_)
  first | (refine wl_op rfl rfl (ow_vr (vr_muli rfl rfl (by unfold inI64; omega)) ?_)) | (refine wl_op rfl rfl (ow_vr (vr_mul rfl rfl) ?_))
  first | (refine wl_op rfl rfl (ow_vr (vr_addi rfl rfl (by unfold inI64; omega)) ?_)) | (refine wl_op rfl rfl (ow_vr (vr_add rfl rfl) ?_))
  refine wl_op rfl rfl (ow_vr (vr_assign (v := .int .i64 _) rfl) ?_)
  refine wl_nil ?_
  refine hK2 _ _ ?_
  refine cw_ret ?_
  refine ret_one (fn := Try.f28) (n := 7) (t := 2) (.inl rfl) rfl rfl ?_
  exact ⟨congrArg (Value.int .i64) (by simp [cellsI, hr]), hS.tail1⟩
theorem ref_Pages (h l : Int) (hr : rightB h l = true) : FnV Try.prog 26 [.agg #[.int .i64 h, .int .i64 l]] (.int .i64 (pagesI h l)) := by
  refine FnV.mk fun E F w hS => ?_
  have hb := cellsI_bd h l
  refine returns_enter Try.func26 rfl Try.ntmps26 rfl ?_
  refine cw_seq fun K1 hK1 => ?_
  refine cw_region ?_
  refine wl_op rfl rfl (ow_box (cs := [_, _]) hS rfl rfl ?_)
  clear hS; intro b1 w hS
  refine wl_op rfl rfl (ow_vr (vr_assign (v := .int .i64 0) rfl) ?_)
  refine wl_nil ?_
  refine hK1 _ _ ?_
  refine cw_seq fun K2 hK2 => ?_
  refine cw_region ?_
  refine wl_op rfl rfl (ow_lr (S := Sat _ _) (lr_loadA Try.underlying23 rfl sz_23 rfl (by first | exact Has.here | exact Has.there (Has.here) | exact Has.there (Has.there (Has.here)) | exact Has.there (Has.there (Has.there (Has.here))) | exact Has.there (Has.there (Has.there (Has.there (Has.here)))) | exact Has.there (Has.there (Has.there (Has.there (Has.there (Has.here))))) | exact Has.there (Has.there (Has.there (Has.there (Has.there (Has.there (Has.here)))))) | exact Has.there (Has.there (Has.there (Has.there (Has.there (Has.there (Has.there (Has.here)))))))) rfl rfl) hS ?_)
  refine wl_op rfl rfl (ow_fn (vs := [.agg _]) en_28 rfl hS (ref_Cells h l hr) ?_)
  clear hS; rintro _ _ w ⟨rfl, rfl⟩ hS; (try simp only [List.cons_append, List.nil_append] at hS)
  first | (refine wl_op rfl rfl (ow_vr (vr_addi rfl rfl (by unfold inI64; omega)) ?_)) | (refine wl_op rfl rfl (ow_vr (vr_add rfl rfl) ?_))
  first | (refine wl_op rfl rfl (ow_vr (vr_subi rfl rfl (by unfold inI64; omega)) ?_)) | (refine wl_op rfl rfl (ow_vr (vr_sub rfl rfl) ?_))
  refine wl_op rfl rfl (ow_vr (vr_quo rfl rfl (by omega) (by omega)) ?_)
  refine wl_op rfl rfl (ow_vr (vr_assign (v := .int .i64 _) rfl) ?_)
  refine wl_nil ?_
  refine hK2 _ _ ?_
  refine cw_ret ?_
  refine ret_one (fn := Try.f26) (n := 8) (t := 2) (.inl rfl) rfl rfl ?_
  exact ⟨congrArg (Value.int .i64) (by unfold pagesI; omega), hS.tail1⟩
theorem ref_LogAt (h l : Int) (hr : rightB h l = true) : FnV Try.prog 29 [.agg #[.int .i64 h, .int .i64 l]] (.int .i64 (logAtI h l)) := by
  refine FnV.mk fun E F w hS => ?_
  have hb := pagesI_bd h l
  refine returns_enter Try.func29 rfl Try.ntmps29 rfl ?_
  refine cw_seq fun K1 hK1 => ?_
  refine cw_region ?_
  refine wl_op rfl rfl (ow_box (cs := [_, _]) hS rfl rfl ?_)
  clear hS; intro b1 w hS
  refine wl_op rfl rfl (ow_vr (vr_assign (v := .int .i64 0) rfl) ?_)
  refine wl_nil ?_
  refine hK1 _ _ ?_
  refine cw_seq fun K2 hK2 => ?_
  refine cw_region ?_
  refine wl_op rfl rfl (ow_lr (S := Sat _ _) (lr_loadA Try.underlying23 rfl sz_23 rfl (by first | exact Has.here | exact Has.there (Has.here) | exact Has.there (Has.there (Has.here)) | exact Has.there (Has.there (Has.there (Has.here))) | exact Has.there (Has.there (Has.there (Has.there (Has.here)))) | exact Has.there (Has.there (Has.there (Has.there (Has.there (Has.here))))) | exact Has.there (Has.there (Has.there (Has.there (Has.there (Has.there (Has.here)))))) | exact Has.there (Has.there (Has.there (Has.there (Has.there (Has.there (Has.there (Has.here)))))))) rfl rfl) hS ?_)
  refine wl_op rfl rfl (ow_fn (vs := [.agg _]) en_26 rfl hS (ref_Pages h l hr) ?_)
  clear hS; rintro _ _ w ⟨rfl, rfl⟩ hS; (try simp only [List.cons_append, List.nil_append] at hS)
  first | (refine wl_op rfl rfl (ow_vr (vr_muli rfl rfl (by unfold inI64; omega)) ?_)) | (refine wl_op rfl rfl (ow_vr (vr_mul rfl rfl) ?_))
  first | (refine wl_op rfl rfl (ow_vr (vr_addi rfl rfl (by unfold inI64; omega)) ?_)) | (refine wl_op rfl rfl (ow_vr (vr_add rfl rfl) ?_))
  refine wl_op rfl rfl (ow_vr (vr_assign (v := .int .i64 _) rfl) ?_)
  refine wl_nil ?_
  refine hK2 _ _ ?_
  refine cw_ret ?_
  refine ret_one (fn := Try.f29) (n := 7) (t := 2) (.inl rfl) rfl rfl ?_
  exact ⟨congrArg (Value.int .i64) (by simp [logAtI, hr]), hS.tail1⟩
theorem ref_Sectors (h l : Int) (hr : rightB h l = true) : FnV Try.prog 30 [.agg #[.int .i64 h, .int .i64 l]] (.int .i64 (sectorsI h l)) := by
  refine FnV.mk fun E F w hS => ?_
  have hb := logAtI_bd h l
  have hb' := rightB_true.1 hr
  refine returns_enter Try.func30 rfl Try.ntmps30 rfl ?_
  refine cw_seq fun K1 hK1 => ?_
  refine cw_region ?_
  refine wl_op rfl rfl (ow_box (cs := [_, _]) hS rfl rfl ?_)
  clear hS; intro b1 w hS
  refine wl_op rfl rfl (ow_vr (vr_assign (v := .int .i64 0) rfl) ?_)
  refine wl_nil ?_
  refine hK1 _ _ ?_
  refine cw_seq fun K2 hK2 => ?_
  refine cw_draw_sat hS [(0, 1), (2, 0), (3, 1), (1, 2), (4, 0), (5, 0)] mixed (planFast_ok (by kernel_rfl)) (by rintro _ _ _ ⟨⟩) ?_
  clear hS; intro w hS
  refine pl_load rfl (yes_none rfl) (lr_loadA Try.underlying23 rfl sz_23 rfl (by first | exact Has.here | exact Has.there (Has.here) | exact Has.there (Has.there (Has.here)) | exact Has.there (Has.there (Has.there (Has.here))) | exact Has.there (Has.there (Has.there (Has.there (Has.here)))) | exact Has.there (Has.there (Has.there (Has.there (Has.there (Has.here))))) | exact Has.there (Has.there (Has.there (Has.there (Has.there (Has.there (Has.here)))))) | exact Has.there (Has.there (Has.there (Has.there (Has.there (Has.there (Has.there (Has.here)))))))) rfl rfl) ?_
  first | (refine pl_take rfl (yes_none rfl) (vr_fieldAddr fo_23_1 rfl) ?_) | (refine pl_take rfl (yes_none rfl) (vr_fieldAddrV fo_23_1 rfl (by first | assumption | (refine Own.view ?_ (by assumption); exact fun _ => rfl) | exact OwnB.view (by assumption)) (by first | omega | (simp <;> omega))) ?_)
  refine pl_load rfl (yes_none rfl) (lr_load1 Try.underlying3 rfl rfl (by first | exact Has.here | exact Has.there (Has.here) | exact Has.there (Has.there (Has.here)) | exact Has.there (Has.there (Has.there (Has.here))) | exact Has.there (Has.there (Has.there (Has.there (Has.here)))) | exact Has.there (Has.there (Has.there (Has.there (Has.there (Has.here))))) | exact Has.there (Has.there (Has.there (Has.there (Has.there (Has.there (Has.here)))))) | exact Has.there (Has.there (Has.there (Has.there (Has.there (Has.there (Has.there (Has.here)))))))) rfl) ?_
  refine pl_act hS rfl (yes_none rfl) ?_
  clear hS; intro w hS
  refine (ow_fn (vs := [.agg _]) en_29 rfl hS (ref_LogAt h l hr) ?_)
  clear hS; rintro _ _ w ⟨rfl, rfl⟩ hS; (try simp only [List.cons_append, List.nil_append] at hS)
  refine ⟨by first | exact hS | exact hS.tail1 | exact hS.tail1.tail1, ?_⟩
  first | (refine pl_take rfl (yes_none rfl) (vr_addi rfl rfl (by unfold inI64; omega)) ?_) | (refine pl_take rfl (yes_none rfl) (vr_add rfl rfl) ?_)
  refine pl_take rfl (yes_none rfl) (vr_assign (v := .int .i64 _) rfl) ?_
  refine pl_nil hS ?_
  clear hS; intro w hS
  refine hK2 _ _ ?_
  refine cw_ret ?_
  refine ret_one (fn := Try.f30) (n := 8) (t := 2) (.inl rfl) rfl rfl ?_
  exact ⟨congrArg (Value.int .i64) (by simp [sectorsI, hr]), hS.tail1⟩
theorem ref_Base (h l s : Int) (hr : rightB h l = true) (h0 : 0 ≤ s) (h1 : s ≤ 1) : FnV Try.prog 27 [.agg #[.int .i64 h, .int .i64 l], .int .i64 s] (.int .i64 (baseI h l s)) := by
  refine FnV.mk fun E F w hS => ?_
  have hb := rightB_true.1 hr
  have hm : s * h = 0 ∨ s * h = h := by rcases (show s = 0 ∨ s = 1 by omega) with rfl | rfl <;> omega
  refine returns_enter Try.func27 rfl Try.ntmps27 rfl ?_
  refine cw_seq fun K1 hK1 => ?_
  refine cw_region ?_
  refine wl_op rfl rfl (ow_box (cs := [_, _]) hS rfl rfl ?_)
  clear hS; intro b2 w hS
  refine wl_op rfl rfl (ow_vr (vr_assign (v := .int .i64 0) rfl) ?_)
  refine wl_nil ?_
  refine hK1 _ _ ?_
  refine cw_seq fun K2 hK2 => ?_
  refine cw_region ?_
  refine wl_op rfl rfl (ow_vr (vr_move (v := .int .i64 _) rfl) ?_)
  first | (refine wl_op rfl rfl (ow_vr (vr_fieldAddr fo_23_0 rfl) ?_)) | (refine wl_op rfl rfl (ow_vr (vr_fieldAddrV fo_23_0 rfl (by first | assumption | (refine Own.view ?_ (by assumption); exact fun _ => rfl) | exact OwnB.view (by assumption)) (by first | omega | (simp <;> omega))) ?_))
  refine wl_op rfl rfl (ow_lr (S := Sat _ _) (lr_load1 Try.underlying3 rfl rfl (by first | exact Has.here | exact Has.there (Has.here) | exact Has.there (Has.there (Has.here)) | exact Has.there (Has.there (Has.there (Has.here))) | exact Has.there (Has.there (Has.there (Has.there (Has.here)))) | exact Has.there (Has.there (Has.there (Has.there (Has.there (Has.here))))) | exact Has.there (Has.there (Has.there (Has.there (Has.there (Has.there (Has.here)))))) | exact Has.there (Has.there (Has.there (Has.there (Has.there (Has.there (Has.there (Has.here)))))))) rfl) hS ?_)
  first | (refine wl_op rfl rfl (ow_vr (vr_muli rfl rfl (by unfold inI64; omega)) ?_)) | (refine wl_op rfl rfl (ow_vr (vr_mul rfl rfl) ?_))
  first | (refine wl_op rfl rfl (ow_vr (vr_addi rfl rfl (by unfold inI64; omega)) ?_)) | (refine wl_op rfl rfl (ow_vr (vr_add rfl rfl) ?_))
  refine wl_op rfl rfl (ow_vr (vr_assign (v := .int .i64 _) rfl) ?_)
  refine wl_nil ?_
  refine hK2 _ _ ?_
  refine cw_ret ?_
  refine ret_one (fn := Try.f27) (n := 10) (t := 4) (.inl rfl) rfl rfl ?_
  exact ⟨congrArg (Value.int .i64) (by unfold baseI; rw [if_pos ⟨hr, h0, h1⟩]), hS.tail1⟩

end Go.Proofs.Ytfekgjdahckdhaa
