/- What package page's functions return, and the document's own. -/
import Derived.Test.YtjcagoighpmdkaaBld
import Derived.Test.YtjcagoighpmdkaaSealed
import Derived.Test.YtjcagoighpmdkaaEntry
namespace Go.Proofs.Ytjcagoighpmdkaa
open Go Go.RowKit
set_option linter.unusedVariables false
set_option linter.unusedSimpArgs false
attribute [local irreducible] actF WL CW OW PL SW VR LR yes Returns Fn
theorem page_number (xs : List Int) (v : Value) (Δ : Chunk) (hv : View 1 encI v xs Δ) (hn : xs.length ≤ 1000000) : FnG Try.prog 77 [v] [Δ] (fun u Δs => u = .bool (xs.all okN) ∧ Δs = []) := by
  refine FnG.mk fun E F w hS hF => ?_
  have hF0 : Δ ∈ F := hF _ (by simp)
  refine returns_enter Try.func77 rfl Try.ntmps77 rfl ?_
  refine cw_seq fun K1 hK1 => ?_
  refine cw_region ?_
  refine wl_op rfl rfl (ow_vr (vr_assign (v := .bool false) rfl) ?_)
  refine wl_nil ?_
  refine hK1 _ _ ?_
  refine cw_seq fun K2 hK2 => ?_
  refine cw_seq fun K3 hK3 => ?_
  refine cw_region ?_
  refine wl_op rfl rfl (ow_vr (vr_move (v := v) rfl) ?_)
  first | (refine wl_op rfl rfl (ow_vr (vr_len_sl Try.underlying55 rfl) ?_)) | (refine wl_op rfl rfl (ow_vr (vr_len_v (v := v) Try.underlying55 rfl (by first | assumption | (refine Own.view ?_ (by assumption); exact fun _ => rfl) | exact OwnB.view (by assumption))) ?_))
  refine wl_op rfl rfl (ow_vr (vr_move (v := .int .i64 0) rfl) ?_)
  refine wl_nil ?_
  refine hK3 _ _ ?_
  refine cw_block ?_
  refine cw_loop (fun m f w => ∃ (k : Nat) (g : Nat → Value), f = (upd (upd (upd g 5 (v)) 6 (.int .i64 (xs.length : Int))) 7 (.int .i64 (k : Int))) ∧ (k ≤ xs.length ∧ (xs.take k).all okN = true) ∧ m = xs.length - k ∧ Sat E (F) w) ⟨0, _, (reb (reb (reb rfl rfl) rfl) rfl), ?_, rfl, hS⟩ ?_
  · simp
  clear hS; rintro m f w ⟨k, g, rfl, hI0, rfl, hS⟩
  refine cw_seq fun K4 hK4 => ?_
  refine cw_region ?_
  refine wl_op rfl rfl (ow_vr (vr_lss rfl rfl) ?_)
  refine wl_nil ?_
  refine hK4 _ _ ?_
  refine cw_seq fun K5 hK5 => ?_
  refine cw_cond rfl rfl (fun hc => ?_) (fun hc => ?_)
  · (try simp only [decide_eq_true_eq, decide_eq_false_iff_not, Bool.not_eq_true, Bool.not_eq_false, Bool.not_eq_true', Bool.not_eq_false', Bool.and_eq_true, Bool.or_eq_true, Bool.and_eq_false_iff, Bool.or_eq_false_iff, Int.not_lt, Int.not_le, gt_iff_lt, ge_iff_le, ne_eq, Decidable.not_not, beq_iff_eq] at hc)
    have hc0 := hc; clear hc
    refine cw_skip ?_
    refine hK5 _ _ ?_
    refine cw_seq fun K6 hK6 => ?_
    refine cw_block ?_
    refine cw_seq fun K7 hK7 => ?_
    obtain ⟨x, hx⟩ := get_lt (xs := xs) (k := k) (by omega)
    refine cw_region ?_
    first | (refine wl_op rfl rfl (ow_vr (vr_indexAddr Try.underlying55 sz_3 rfl rfl (by omega) (by omega)) ?_)) | (refine wl_op rfl rfl (ow_vr (vr_indexV (v := v) Try.underlying55 sz_3 rfl (by first | assumption | (refine Own.view ?_ (by assumption); exact fun _ => rfl) | exact OwnB.view (by assumption)) rfl (by omega) (by first | omega | (simp <;> omega))) ?_))
    refine wl_op rfl rfl (ow_lr (S := Sat _ _) (lr_loadV1 (u := .int .i64 _) Try.underlying3 rfl rfl (by first | assumption | (refine Own.view ?_ (by assumption); exact fun _ => rfl) | exact OwnB.view (by assumption)) (by repeat (first | exact List.mem_cons_self | assumption | refine List.mem_cons_of_mem _ ?_)) (hx) (by exact fun _ => rfl) (by rfl)) hS ?_)
    refine wl_op rfl rfl (ow_vr (vr_assign (v := .int .i64 _) rfl) ?_)
    refine wl_nil ?_
    refine hK7 _ _ ?_
    refine cw_seq fun K8 hK8 => ?_
    refine cw_region ?_
    refine wl_op rfl rfl (ow_vr (vr_move (v := .int .i64 _) rfl) ?_)
    refine wl_op rfl rfl (ow_vr (vr_lss rfl rfl) ?_)
    refine wl_op rfl rfl (ow_vr (vr_move (v := .bool _) rfl) ?_)
    refine wl_split 13 rfl (fun hc => ?_) (fun hc => ?_)
    · (try simp only [decide_eq_true_eq, decide_eq_false_iff_not, Bool.not_eq_true, Bool.not_eq_false, Bool.not_eq_true', Bool.not_eq_false', Bool.and_eq_true, Bool.or_eq_true, Bool.and_eq_false_iff, Bool.or_eq_false_iff, Int.not_lt, Int.not_le, gt_iff_lt, ge_iff_le, ne_eq, Decidable.not_not, beq_iff_eq] at hc)
      have hg13 := hc; clear hc
      refine wl_noD rfl rfl rfl rfl rfl rfl ?_
      refine wl_noD rfl rfl rfl rfl rfl rfl ?_
      refine wl_op rfl rfl (ow_vr (vr_pick (b := true) (v := .bool _) rfl rfl) ?_)
      refine wl_nil ?_
      refine hK8 _ _ ?_
      refine cw_cond_t rfl rfl (rfl) ?_
      refine cw_seq fun K9 hK9 => ?_
      refine cw_region ?_
      refine wl_op rfl rfl (ow_vr (vr_assign (v := .bool false) rfl) ?_)
      refine wl_nil ?_
      refine hK9 _ _ ?_
      refine cw_ret ?_
      refine inB_ret (thenF_ret (thenF_ret (inB_ret (thenF_ret (?_)))))
      refine ret_one (fn := Try.f77) (n := 18) (t := 2) (.inl rfl) rfl rfl ?_
      refine ⟨[], ⟨congrArg Value.bool ?_, rfl⟩, hS⟩; first | (rw [eq_comm, List.all_eq_false]; exact ⟨x, List.mem_of_getElem? hx, by simp [okN]; omega⟩) | (have h1 := hI0.2; rw [show k = xs.length by omega, List.take_length] at h1; exact h1.symm)
    · (try simp only [decide_eq_true_eq, decide_eq_false_iff_not, Bool.not_eq_true, Bool.not_eq_false, Bool.not_eq_true', Bool.not_eq_false', Bool.and_eq_true, Bool.or_eq_true, Bool.and_eq_false_iff, Bool.or_eq_false_iff, Int.not_lt, Int.not_le, gt_iff_lt, ge_iff_le, ne_eq, Decidable.not_not, beq_iff_eq] at hc)
      have hg13 := hc; clear hc
      refine wl_yes rfl rfl rfl rfl rfl (ow_vr (vr_move (v := .int .i64 _) rfl) ?_)
      refine wl_yes rfl rfl rfl rfl rfl (ow_vr (vr_geq rfl rfl) ?_)
      refine wl_op rfl rfl (ow_vr (vr_pick (b := false) (v := .bool _) rfl rfl) ?_)
      refine wl_nil ?_
      refine hK8 _ _ ?_
      refine cw_cond rfl rfl (fun hc => ?_) (fun hc => ?_)
      · (try simp only [decide_eq_true_eq, decide_eq_false_iff_not, Bool.not_eq_true, Bool.not_eq_false, Bool.not_eq_true', Bool.not_eq_false', Bool.and_eq_true, Bool.or_eq_true, Bool.and_eq_false_iff, Bool.or_eq_false_iff, Int.not_lt, Int.not_le, gt_iff_lt, ge_iff_le, ne_eq, Decidable.not_not, beq_iff_eq] at hc)
        have hc1 := hc; clear hc
        refine cw_seq fun K10 hK10 => ?_
        refine cw_region ?_
        refine wl_op rfl rfl (ow_vr (vr_assign (v := .bool false) rfl) ?_)
        refine wl_nil ?_
        refine hK10 _ _ ?_
        refine cw_ret ?_
        refine inB_ret (thenF_ret (thenF_ret (inB_ret (thenF_ret (?_)))))
        refine ret_one (fn := Try.f77) (n := 18) (t := 2) (.inl rfl) rfl rfl ?_
        refine ⟨[], ⟨congrArg Value.bool ?_, rfl⟩, hS⟩; first | (rw [eq_comm, List.all_eq_false]; exact ⟨x, List.mem_of_getElem? hx, by simp [okN]; omega⟩) | (have h1 := hI0.2; rw [show k = xs.length by omega, List.take_length] at h1; exact h1.symm)
      · (try simp only [decide_eq_true_eq, decide_eq_false_iff_not, Bool.not_eq_true, Bool.not_eq_false, Bool.not_eq_true', Bool.not_eq_false', Bool.and_eq_true, Bool.or_eq_true, Bool.and_eq_false_iff, Bool.or_eq_false_iff, Int.not_lt, Int.not_le, gt_iff_lt, ge_iff_le, ne_eq, Decidable.not_not, beq_iff_eq] at hc)
        have hc1 := hc; clear hc
        refine cw_skip ?_
        refine hK6 _ _ ?_
        refine cw_region ?_
        first | (refine wl_op rfl rfl (ow_vr (vr_addi rfl rfl (by unfold inI64; omega)) ?_)) | (refine wl_op rfl rfl (ow_vr (vr_add rfl rfl) ?_))
        refine wl_op rfl rfl (ow_vr (vr_move (v := .int .i64 _) rfl) ?_)
        refine wl_nil ?_
        refine thenF_normal ⟨_, ?_, k + 1, _, (reb (reb (reb rfl rfl) rfl) rfl), ?_, rfl, hS⟩
        · omega
        · refine ⟨by omega, ?_⟩; rw [take_snoc hx, List.all_append, hI0.2]; simp [okN]; omega
  · (try simp only [decide_eq_true_eq, decide_eq_false_iff_not, Bool.not_eq_true, Bool.not_eq_false, Bool.not_eq_true', Bool.not_eq_false', Bool.and_eq_true, Bool.or_eq_true, Bool.and_eq_false_iff, Bool.or_eq_false_iff, Int.not_lt, Int.not_le, gt_iff_lt, ge_iff_le, ne_eq, Decidable.not_not, beq_iff_eq] at hc)
    have hc0 := hc; clear hc
    refine cw_exit ?_
    refine hK2 _ _ ?_
    refine cw_seq fun K11 hK11 => ?_
    refine cw_region ?_
    refine wl_op rfl rfl (ow_vr (vr_assign (v := .bool true) rfl) ?_)
    refine wl_nil ?_
    refine hK11 _ _ ?_
    refine cw_ret ?_
    refine ret_one (fn := Try.f77) (n := 18) (t := 2) (.inl rfl) rfl rfl ?_
    refine ⟨[], ⟨congrArg Value.bool ?_, rfl⟩, hS⟩; first | (rw [eq_comm, List.all_eq_false]; exact ⟨x, List.mem_of_getElem? hx, by simp [okN]; omega⟩) | (have h1 := hI0.2; rw [show k = xs.length by omega, List.take_length] at h1; exact h1.symm)
def okPg (no v : Int) (cs : List Int) : Bool := decide (0 ≤ no ∧ no ≤ 1000) && (decide (cs.length = 16) && (okN v && cs.all okN))
def rawP (no v : Int) (cs : List Int) : List UInt8 := foldP (putI no 4 ++ putI v 4) cs
def allP (no v : Int) (cs : List Int) : List UInt8 := sealI (rawP no v cs) 96
def chunkB (s : List UInt8) (k : Nat) : List UInt8 := (s.take (32 * k + 32)).drop (32 * k)
def pagesB (s : List UInt8) : List (List UInt8) := (List.range 3).map (chunkB s)
theorem rawP_length (no v : Int) (cs : List Int) : (rawP no v cs).length ≤ 16 + 8 * cs.length := by
  have h1 := putI_length no 4
  have h2 := putI_length v 4
  have h3 := foldP_length (putI no 4 ++ putI v 4) cs
  rw [List.length_append] at h3
  rw [rawP]; omega
theorem foldP_ok (cs : List Int) (h : cs.all okN = true) : ∀ c : List UInt8, (foldP c cs).length = c.length + 4 * cs.length := by
  induction cs with
  | nil => intro c; simp [foldP]
  | cons x l ih =>
    intro c
    simp only [List.all_cons, Bool.and_eq_true, okN, decide_eq_true_eq] at h
    have hx : (putI x 4).length = 4 := by rw [putI, if_neg (by omega), putB_length]; rfl
    have h2 := ih (by simpa [okN] using h.2) (c ++ putI x 4)
    rw [List.length_append, hx] at h2
    show (foldP (c ++ putI x 4) l).length = _
    rw [h2, List.length_cons]; omega
theorem okPg_spec {no v : Int} {cs : List Int} (h : okPg no v cs = true) : (0 ≤ no ∧ no ≤ 1000) ∧ cs.length = 16 ∧ (0 ≤ v ∧ v < 4294967296) ∧ cs.all okN = true := by
  simp only [okPg, Bool.and_eq_true, decide_eq_true_eq] at h
  obtain ⟨h1, h2, h3, h4⟩ := h
  simp only [okN, Bool.and_eq_true, decide_eq_true_eq] at h3
  exact ⟨h1, h2, h3, h4⟩
theorem raw_ok {no v : Int} {cs : List Int} (h : okPg no v cs = true) : (rawP no v cs).length = 72 := by
  obtain ⟨h1, h2, h3, h4⟩ := okPg_spec h
  have e1 : (putI no 4).length = 4 := by rw [putI, if_neg (by omega), putB_length]; rfl
  have e2 : (putI v 4).length = 4 := by rw [putI, if_neg (by omega), putB_length]; rfl
  rw [rawP, foldP_ok cs h4, List.length_append, e1, e2, h2]
theorem all_eq {no v : Int} {cs : List Int} (h : okPg no v cs = true) : allP no v cs = sealedB (padB (rawP no v cs) 20) := by
  rw [allP, sealI_ok (by rw [raw_ok h]; omega) (by omega), raw_ok h]; rfl
theorem all_length {no v : Int} {cs : List Int} (h : okPg no v cs = true) : (allP no v cs).length = 96 := by
  rw [all_eq h, sealed_length, padB_length, raw_ok h]
theorem range_snoc (s : List UInt8) (k : Nat) : (List.range (k + 1)).map (chunkB s) = (List.range k).map (chunkB s) ++ [chunkB s k] := by rw [List.range_succ, List.map_append]; rfl
theorem page_Put (no v : Int) (cs : List Int) (vc : Value) (Δc : Chunk) (hv : View 1 encI vc cs Δc) :
    FnG Try.prog 28 [.int .i64 no, .int .i64 v, vc] [Δc] (fun u Δs => ∃ v' D, u = .tuple #[v', .bool (okPg no v cs)] ∧ Δs = [D] ∧ Own 9 1 encS v' (if okPg no v cs then pagesB (allP no v cs) else []) D) := by
  refine FnG.mk fun E F w hS hF => ?_
  have hFc : Δc ∈ F := hF _ (by simp)
  have hp1 := putI_length no 4
  have hp2 := putI_length v 4
  refine returns_enter Try.func28 rfl Try.ntmps28 rfl ?_
  refine cw_seq fun K1 hK1 => ?_
  refine cw_region ?_
  refine wl_op rfl rfl (ow_vr (vr_assign (v := .slice none 0 0) rfl) ?_)
  refine wl_op rfl rfl (ow_vr (vr_assign (v := .bool false) rfl) ?_)
  refine wl_nil ?_
  refine hK1 _ _ ?_
  refine cw_seq fun K2 hK2 => ?_
  refine cw_block ?_
  refine cw_seq fun K3 hK3 => ?_
  refine cw_block ?_
  refine cw_block ?_
  refine cw_seq fun K4 hK4 => ?_
  refine cw_seq fun K5 hK5 => ?_
  refine cw_seq fun K6 hK6 => ?_
  refine cw_region ?_
  refine wl_op rfl rfl (ow_vr (vr_move (v := .int .i64 _) rfl) ?_)
  refine wl_op rfl rfl (ow_vr (vr_lss rfl rfl) ?_)
  refine wl_op rfl rfl (ow_vr (vr_move (v := .bool _) rfl) ?_)
  refine wl_split 17 rfl (fun hc => ?_) (fun hc => ?_)
  · (try simp only [decide_eq_true_eq, decide_eq_false_iff_not, Bool.not_eq_true, Bool.not_eq_false, Bool.not_eq_true', Bool.not_eq_false', Bool.and_eq_true, Bool.or_eq_true, Bool.and_eq_false_iff, Bool.or_eq_false_iff, Int.not_lt, Int.not_le, gt_iff_lt, ge_iff_le, ne_eq, Decidable.not_not, beq_iff_eq] at hc)
    have hg17 := hc; clear hc
    refine wl_noD rfl rfl rfl rfl rfl rfl ?_
    refine wl_noD rfl rfl rfl rfl rfl rfl ?_
    refine wl_op rfl rfl (ow_vr (vr_pick (b := true) (v := .bool _) rfl rfl) ?_)
    refine wl_op rfl rfl (ow_vr (vr_move (v := .bool _) rfl) ?_)
    refine wl_noD rfl rfl rfl rfl rfl rfl ?_
    refine wl_noD rfl rfl rfl rfl rfl rfl ?_
    refine wl_noD rfl rfl rfl rfl rfl rfl ?_
    refine wl_op rfl rfl (ow_vr (vr_pick (b := true) (v := .bool _) rfl rfl) ?_)
    refine wl_op rfl rfl (ow_vr (vr_assign (v := .bool _) rfl) ?_)
    refine wl_nil ?_
    refine hK6 _ _ ?_
    refine cw_cond_t rfl rfl (rfl) ?_
    refine cw_exit ?_
    refine hK3 _ _ ?_
    refine cw_seq fun K7 hK7 => ?_
    refine cw_seq fun K8 hK8 => ?_
    have hno : okPg no v cs = false := by simp only [okPg, Bool.and_eq_false_iff, decide_eq_false_iff_not]; omega
    replace hS := Sat.nilc.2 hS
    refine cw_region ?_
    refine wl_op rfl rfl (ow_vr (vr_assign (v := .slice none 0 0) rfl) ?_)
    refine wl_op rfl rfl (ow_vr (vr_assign (v := .bool false) rfl) ?_)
    refine wl_nil ?_
    refine hK8 _ _ ?_
    refine cw_ret ?_
    refine thenF_ret (inB_ret (thenF_ret (?_)))
    refine ret_two (fn := Try.f28) (n := 69) (t := 6) (u := 7) (.inl rfl) rfl rfl rfl ?_
    exact ⟨[[]], ⟨.slice none 0 0, [], (by rw [hno] <;> rfl), rfl, (by rw [hno]; exact Own.nil)⟩, hS⟩
  · (try simp only [decide_eq_true_eq, decide_eq_false_iff_not, Bool.not_eq_true, Bool.not_eq_false, Bool.not_eq_true', Bool.not_eq_false', Bool.and_eq_true, Bool.or_eq_true, Bool.and_eq_false_iff, Bool.or_eq_false_iff, Int.not_lt, Int.not_le, gt_iff_lt, ge_iff_le, ne_eq, Decidable.not_not, beq_iff_eq] at hc)
    have hg17 := hc; clear hc
    refine wl_yes rfl rfl rfl rfl rfl (ow_vr (vr_move (v := .int .i64 _) rfl) ?_)
    refine wl_yes rfl rfl rfl rfl rfl (ow_vr (vr_gtr rfl rfl) ?_)
    refine wl_op rfl rfl (ow_vr (vr_pick (b := false) (v := .bool _) rfl rfl) ?_)
    refine wl_op rfl rfl (ow_vr (vr_move (v := .bool _) rfl) ?_)
    refine wl_split 21 rfl (fun hc => ?_) (fun hc => ?_)
    · (try simp only [decide_eq_true_eq, decide_eq_false_iff_not, Bool.not_eq_true, Bool.not_eq_false, Bool.not_eq_true', Bool.not_eq_false', Bool.and_eq_true, Bool.or_eq_true, Bool.and_eq_false_iff, Bool.or_eq_false_iff, Int.not_lt, Int.not_le, gt_iff_lt, ge_iff_le, ne_eq, Decidable.not_not, beq_iff_eq] at hc)
      have hg21 := hc; clear hc
      refine wl_noD rfl rfl rfl rfl rfl rfl ?_
      refine wl_noD rfl rfl rfl rfl rfl rfl ?_
      refine wl_noD rfl rfl rfl rfl rfl rfl ?_
      refine wl_op rfl rfl (ow_vr (vr_pick (b := true) (v := .bool _) rfl rfl) ?_)
      refine wl_op rfl rfl (ow_vr (vr_assign (v := .bool _) rfl) ?_)
      refine wl_nil ?_
      refine hK6 _ _ ?_
      refine cw_cond_t rfl rfl (rfl) ?_
      refine cw_exit ?_
      refine hK3 _ _ ?_
      refine cw_seq fun K9 hK9 => ?_
      refine cw_seq fun K10 hK10 => ?_
      have hno : okPg no v cs = false := by simp only [okPg, Bool.and_eq_false_iff, decide_eq_false_iff_not]; omega
      replace hS := Sat.nilc.2 hS
      refine cw_region ?_
      refine wl_op rfl rfl (ow_vr (vr_assign (v := .slice none 0 0) rfl) ?_)
      refine wl_op rfl rfl (ow_vr (vr_assign (v := .bool false) rfl) ?_)
      refine wl_nil ?_
      refine hK10 _ _ ?_
      refine cw_ret ?_
      refine thenF_ret (inB_ret (thenF_ret (?_)))
      refine ret_two (fn := Try.f28) (n := 69) (t := 6) (u := 7) (.inl rfl) rfl rfl rfl ?_
      exact ⟨[[]], ⟨.slice none 0 0, [], (by rw [hno] <;> rfl), rfl, (by rw [hno]; exact Own.nil)⟩, hS⟩
    · (try simp only [decide_eq_true_eq, decide_eq_false_iff_not, Bool.not_eq_true, Bool.not_eq_false, Bool.not_eq_true', Bool.not_eq_false', Bool.and_eq_true, Bool.or_eq_true, Bool.and_eq_false_iff, Bool.or_eq_false_iff, Int.not_lt, Int.not_le, gt_iff_lt, ge_iff_le, ne_eq, Decidable.not_not, beq_iff_eq] at hc)
      have hg21 := hc; clear hc
      refine wl_yes rfl rfl rfl rfl rfl (ow_vr (vr_move (v := vc) rfl) ?_)
      first | (refine wl_yes rfl rfl rfl rfl rfl (ow_vr (vr_len_sl Try.underlying55 rfl) ?_)) | (refine wl_yes rfl rfl rfl rfl rfl (ow_vr (vr_len_v (v := vc) Try.underlying55 rfl (by first | assumption | (refine Own.view ?_ (by assumption); exact fun _ => rfl) | exact OwnB.view (by assumption))) ?_))
      refine wl_yes rfl rfl rfl rfl rfl (ow_vr (vr_neq rfl rfl) ?_)
      refine wl_op rfl rfl (ow_vr (vr_pick (b := false) (v := .bool _) rfl rfl) ?_)
      refine wl_op rfl rfl (ow_vr (vr_assign (v := .bool _) rfl) ?_)
      refine wl_nil ?_
      refine hK6 _ _ ?_
      refine cw_cond rfl rfl (fun hc => ?_) (fun hc => ?_)
      · (try simp only [decide_eq_true_eq, decide_eq_false_iff_not, Bool.not_eq_true, Bool.not_eq_false, Bool.not_eq_true', Bool.not_eq_false', Bool.and_eq_true, Bool.or_eq_true, Bool.and_eq_false_iff, Bool.or_eq_false_iff, Int.not_lt, Int.not_le, gt_iff_lt, ge_iff_le, ne_eq, Decidable.not_not, beq_iff_eq] at hc)
        have hc0 := hc; clear hc
        refine cw_exit ?_
        refine hK3 _ _ ?_
        refine cw_seq fun K11 hK11 => ?_
        refine cw_seq fun K12 hK12 => ?_
        have hno : okPg no v cs = false := by simp only [okPg, Bool.and_eq_false_iff, decide_eq_false_iff_not]; omega
        replace hS := Sat.nilc.2 hS
        refine cw_region ?_
        refine wl_op rfl rfl (ow_vr (vr_assign (v := .slice none 0 0) rfl) ?_)
        refine wl_op rfl rfl (ow_vr (vr_assign (v := .bool false) rfl) ?_)
        refine wl_nil ?_
        refine hK12 _ _ ?_
        refine cw_ret ?_
        refine thenF_ret (inB_ret (thenF_ret (?_)))
        refine ret_two (fn := Try.f28) (n := 69) (t := 6) (u := 7) (.inl rfl) rfl rfl rfl ?_
        exact ⟨[[]], ⟨.slice none 0 0, [], (by rw [hno] <;> rfl), rfl, (by rw [hno]; exact Own.nil)⟩, hS⟩
      · (try simp only [decide_eq_true_eq, decide_eq_false_iff_not, Bool.not_eq_true, Bool.not_eq_false, Bool.not_eq_true', Bool.not_eq_false', Bool.and_eq_true, Bool.or_eq_true, Bool.and_eq_false_iff, Bool.or_eq_false_iff, Int.not_lt, Int.not_le, gt_iff_lt, ge_iff_le, ne_eq, Decidable.not_not, beq_iff_eq] at hc)
        have hc0 := hc; clear hc
        refine cw_skip ?_
        refine hK5 _ _ ?_
        refine cw_seq fun K13 hK13 => ?_
        refine cw_region ?_
        refine wl_op rfl rfl (ow_vr (vr_move (v := .int .i64 _) rfl) ?_)
        refine wl_op rfl rfl (ow_buildSliceD (m := 1) (len := 1) (vs := [.int .i64 _]) (cs := [.int .i64 _]) hS Try.underlying55 if_3 rfl (by decide) (by decide) rfl rfl (by simp [Value.cells]) rfl ?_)
        clear hS; intro b28 w hS
        refine wl_op rfl rfl (ow_fng (vs := [.slice _ _ _]) en_77 rfl hS (page_number [v] _ _ (View.lits rfl rfl rfl) (by simp)) (by repeat (first | exact needs0 | (refine needsC ?_ ?_; · (repeat (first | exact List.mem_cons_self | assumption | refine List.mem_cons_of_mem _ ?_))))) ?_)
        clear hS; rintro v29 _ w ⟨rfl, rfl⟩ hS; (try simp only [List.cons_append, List.nil_append] at hS)
        refine wl_op rfl rfl (ow_vr (vr_not rfl) ?_)
        refine wl_op rfl rfl (ow_vr (vr_move (v := .bool _) rfl) ?_)
        refine wl_split 31 rfl (fun hc => ?_) (fun hc => ?_)
        · (try simp only [decide_eq_true_eq, decide_eq_false_iff_not, Bool.not_eq_true, Bool.not_eq_false, Bool.not_eq_true', Bool.not_eq_false', Bool.and_eq_true, Bool.or_eq_true, Bool.and_eq_false_iff, Bool.or_eq_false_iff, Int.not_lt, Int.not_le, gt_iff_lt, ge_iff_le, ne_eq, Decidable.not_not, beq_iff_eq] at hc)
          have hg31 := hc; clear hc
          refine wl_noD rfl rfl rfl rfl rfl rfl ?_
          refine wl_noD rfl rfl rfl rfl rfl rfl ?_
          refine wl_noD rfl rfl rfl rfl rfl rfl ?_
          refine wl_op rfl rfl (ow_vr (vr_pick (b := true) (v := .bool _) rfl rfl) ?_)
          refine wl_op rfl rfl (ow_vr (vr_assign (v := .bool _) rfl) ?_)
          refine wl_nil ?_
          refine hK13 _ _ ?_
          refine cw_cond_t rfl rfl (rfl) ?_
          refine cw_exit ?_
          refine hK3 _ _ ?_
          refine cw_seq fun K14 hK14 => ?_
          refine cw_seq fun K15 hK15 => ?_
          have hno : okPg no v cs = false := by simp_all [okPg]
          replace hS := Sat.nilc.2 hS.tail1
          refine cw_region ?_
          refine wl_op rfl rfl (ow_vr (vr_assign (v := .slice none 0 0) rfl) ?_)
          refine wl_op rfl rfl (ow_vr (vr_assign (v := .bool false) rfl) ?_)
          refine wl_nil ?_
          refine hK15 _ _ ?_
          refine cw_ret ?_
          refine thenF_ret (inB_ret (thenF_ret (?_)))
          refine ret_two (fn := Try.f28) (n := 69) (t := 6) (u := 7) (.inl rfl) rfl rfl rfl ?_
          exact ⟨[[]], ⟨.slice none 0 0, [], (by rw [hno] <;> rfl), rfl, (by rw [hno]; exact Own.nil)⟩, hS⟩
        · (try simp only [decide_eq_true_eq, decide_eq_false_iff_not, Bool.not_eq_true, Bool.not_eq_false, Bool.not_eq_true', Bool.not_eq_false', Bool.and_eq_true, Bool.or_eq_true, Bool.and_eq_false_iff, Bool.or_eq_false_iff, Int.not_lt, Int.not_le, gt_iff_lt, ge_iff_le, ne_eq, Decidable.not_not, beq_iff_eq] at hc)
          have hg31 := hc; clear hc
          refine wl_yes rfl rfl rfl rfl rfl (ow_vr (vr_move (v := vc) rfl) ?_)
          refine wl_yes rfl rfl rfl rfl rfl (ow_fng (vs := [vc]) en_77 rfl hS (page_number cs _ _ hv (by omega)) (by repeat (first | exact needs0 | (refine needsC ?_ ?_; · (repeat (first | exact List.mem_cons_self | assumption | refine List.mem_cons_of_mem _ ?_))))) ?_)
          clear hS; rintro v33 _ w ⟨rfl, rfl⟩ hS; (try simp only [List.cons_append, List.nil_append] at hS)
          refine wl_yes rfl rfl rfl rfl rfl (ow_vr (vr_not rfl) ?_)
          refine wl_op rfl rfl (ow_vr (vr_pick (b := false) (v := .bool _) rfl rfl) ?_)
          refine wl_op rfl rfl (ow_vr (vr_assign (v := .bool _) rfl) ?_)
          refine wl_nil ?_
          refine hK13 _ _ ?_
          refine cw_cond rfl rfl (fun hc => ?_) (fun hc => ?_)
          · (try simp only [decide_eq_true_eq, decide_eq_false_iff_not, Bool.not_eq_true, Bool.not_eq_false, Bool.not_eq_true', Bool.not_eq_false', Bool.and_eq_true, Bool.or_eq_true, Bool.and_eq_false_iff, Bool.or_eq_false_iff, Int.not_lt, Int.not_le, gt_iff_lt, ge_iff_le, ne_eq, Decidable.not_not, beq_iff_eq] at hc)
            have hc1 := hc; clear hc
            refine cw_exit ?_
            refine hK3 _ _ ?_
            refine cw_seq fun K16 hK16 => ?_
            refine cw_seq fun K17 hK17 => ?_
            have hno : okPg no v cs = false := by simp_all [okPg]
            replace hS := Sat.nilc.2 hS.tail1
            refine cw_region ?_
            refine wl_op rfl rfl (ow_vr (vr_assign (v := .slice none 0 0) rfl) ?_)
            refine wl_op rfl rfl (ow_vr (vr_assign (v := .bool false) rfl) ?_)
            refine wl_nil ?_
            refine hK17 _ _ ?_
            refine cw_ret ?_
            refine thenF_ret (inB_ret (thenF_ret (?_)))
            refine ret_two (fn := Try.f28) (n := 69) (t := 6) (u := 7) (.inl rfl) rfl rfl rfl ?_
            exact ⟨[[]], ⟨.slice none 0 0, [], (by rw [hno] <;> rfl), rfl, (by rw [hno]; exact Own.nil)⟩, hS⟩
          · (try simp only [decide_eq_true_eq, decide_eq_false_iff_not, Bool.not_eq_true, Bool.not_eq_false, Bool.not_eq_true', Bool.not_eq_false', Bool.and_eq_true, Bool.or_eq_true, Bool.and_eq_false_iff, Bool.or_eq_false_iff, Int.not_lt, Int.not_le, gt_iff_lt, ge_iff_le, ne_eq, Decidable.not_not, beq_iff_eq] at hc)
            have hc1 := hc; clear hc
            refine cw_skip ?_
            refine hK4 _ _ ?_
            refine cw_exit ?_
            refine hK2 _ _ ?_
            refine cw_seq fun K18 hK18 => ?_
            have hok : okPg no v cs = true := by simp_all [okPg]; omega
            obtain ⟨hno, hcl, hvv, hall⟩ := okPg_spec hok
            replace hS := hS.tail1
            refine cw_region ?_
            refine wl_op rfl rfl (ow_allocLt (cs := [_, _]) hS zr_93 rfl ?_)
            clear hS; intro b8 w hlt hS
            refine wl_nil ?_
            have hB : BldAt b8 [] [(b8, Obj.cells [.pointer none, .slice none 0 0].toArray 93 (0, 0))] := ⟨_, _, [], rfl, .inl rfl, Own.nil, by simp⟩
            generalize hD : [(b8, Obj.cells [Value.pointer none, .slice none 0 0].toArray 93 (0, 0))] = D0 at hB hS
            clear hD
            refine hK18 _ _ ?_
            refine cw_seq fun K19 hK19 => ?_
            refine cw_region ?_
            refine wl_op rfl rfl (ow_vr (vr_move (v := .int .i64 _) rfl) ?_)
            refine wl_op rfl rfl (ow_fn (vs := [.int .i64 _, .int .i64 _]) en_39 rfl hS (seal_Put no 4) ?_)
            clear hS; rintro _ _ w ⟨rfl, rfl⟩ hS; (try simp only [List.cons_append, List.nil_append] at hS)
            refine wl_op rfl rfl (ow_vr (vr_move (v := .int .i64 _) rfl) ?_)
            refine wl_op rfl rfl (ow_fn (vs := [.int .i64 _, .int .i64 _]) en_39 rfl hS (seal_Put v 4) ?_)
            clear hS; rintro _ _ w ⟨rfl, rfl⟩ hS; (try simp only [List.cons_append, List.nil_append] at hS)
            refine wl_op rfl rfl (ow_vr (vr_cat_s rfl rfl (by first | omega | (simp <;> omega))) ?_)
            refine wl_op rfl rfl (ow_bldWrite (s := putI no 4 ++ putI v 4) rfl hS hlt hB (by rw [List.length_append]; simp; omega) ?_)
            clear hS; intro D41 w hB1 hS
            refine wl_nil ?_
            refine hK19 _ _ ?_
            refine cw_seq fun K20 hK20 => ?_
            refine cw_seq fun K21 hK21 => ?_
            refine cw_region ?_
            refine wl_op rfl rfl (ow_vr (vr_move (v := vc) rfl) ?_)
            first | (refine wl_op rfl rfl (ow_vr (vr_len_sl Try.underlying55 rfl) ?_)) | (refine wl_op rfl rfl (ow_vr (vr_len_v (v := vc) Try.underlying55 rfl (by first | assumption | (refine Own.view ?_ (by assumption); exact fun _ => rfl) | exact OwnB.view (by assumption))) ?_))
            refine wl_op rfl rfl (ow_vr (vr_move (v := .int .i64 0) rfl) ?_)
            refine wl_nil ?_
            refine hK21 _ _ ?_
            refine cw_block ?_
            refine cw_loop (fun m f w => ∃ (k : Nat) (Δb : Chunk) (g : Nat → Value), f = (upd (upd (upd (upd g 8 (.pointer (some ⟨b8, 0, none⟩))) 42 (vc)) 43 (.int .i64 (cs.length : Int))) 44 (.int .i64 (k : Int))) ∧ (k ≤ cs.length ∧ BldAt b8 (foldP (putI no 4 ++ putI v 4) (cs.take k)) Δb) ∧ m = cs.length - k ∧ Sat E (Δb :: F) w) ⟨0, D41, _, (reb (reb (reb (reb rfl rfl) rfl) rfl) rfl), ?_, rfl, hS⟩ ?_
            · exact ⟨by omega, hB1⟩
            clear hS; rintro m f w ⟨k, Δb, g, rfl, hI0, rfl, hS⟩
            obtain ⟨hk, hB⟩ := hI0
            refine cw_seq fun K22 hK22 => ?_
            refine cw_region ?_
            refine wl_op rfl rfl (ow_vr (vr_lss rfl rfl) ?_)
            refine wl_nil ?_
            refine hK22 _ _ ?_
            refine cw_seq fun K23 hK23 => ?_
            refine cw_cond rfl rfl (fun hc => ?_) (fun hc => ?_)
            · (try simp only [decide_eq_true_eq, decide_eq_false_iff_not, Bool.not_eq_true, Bool.not_eq_false, Bool.not_eq_true', Bool.not_eq_false', Bool.and_eq_true, Bool.or_eq_true, Bool.and_eq_false_iff, Bool.or_eq_false_iff, Int.not_lt, Int.not_le, gt_iff_lt, ge_iff_le, ne_eq, Decidable.not_not, beq_iff_eq] at hc)
              have hc2 := hc; clear hc
              refine cw_skip ?_
              refine hK23 _ _ ?_
              refine cw_seq fun K24 hK24 => ?_
              refine cw_block ?_
              refine cw_seq fun K25 hK25 => ?_
              obtain ⟨x, hx⟩ := get_lt (xs := cs) (k := k) (by omega)
              have hpx := putI_length x 4
              have hfl := foldP_length (putI no 4 ++ putI v 4) (cs.take k)
              rw [List.length_append, List.length_take] at hfl
              refine cw_region ?_
              first | (refine wl_op rfl rfl (ow_vr (vr_indexAddr Try.underlying55 sz_3 rfl rfl (by omega) (by omega)) ?_)) | (refine wl_op rfl rfl (ow_vr (vr_indexV (v := vc) Try.underlying55 sz_3 rfl (by first | assumption | (refine Own.view ?_ (by assumption); exact fun _ => rfl) | exact OwnB.view (by assumption)) rfl (by omega) (by first | omega | (simp <;> omega))) ?_))
              refine wl_op rfl rfl (ow_lr (S := Sat _ _) (lr_loadV1 (u := .int .i64 _) Try.underlying3 rfl rfl (by first | assumption | (refine Own.view ?_ (by assumption); exact fun _ => rfl) | exact OwnB.view (by assumption)) (by repeat (first | exact List.mem_cons_self | assumption | refine List.mem_cons_of_mem _ ?_)) (hx) (by exact fun _ => rfl) (by rfl)) hS ?_)
              refine wl_op rfl rfl (ow_vr (vr_assign (v := .int .i64 _) rfl) ?_)
              refine wl_nil ?_
              refine hK25 _ _ ?_
              refine cw_region ?_
              refine wl_op rfl rfl (ow_vr (vr_move (v := .int .i64 _) rfl) ?_)
              refine wl_op rfl rfl (ow_fn (vs := [.int .i64 _, .int .i64 _]) en_39 rfl hS (seal_Put x 4) ?_)
              clear hS; rintro _ _ w ⟨rfl, rfl⟩ hS; (try simp only [List.cons_append, List.nil_append] at hS)
              refine wl_op rfl rfl (ow_bldWrite (s := putI x 4) rfl hS hlt hB (by omega) ?_)
              clear hS; intro D50 w hB2 hS
              refine wl_nil ?_
              refine hK24 _ _ ?_
              refine cw_region ?_
              first | (refine wl_op rfl rfl (ow_vr (vr_addi rfl rfl (by unfold inI64; omega)) ?_)) | (refine wl_op rfl rfl (ow_vr (vr_add rfl rfl) ?_))
              refine wl_op rfl rfl (ow_vr (vr_move (v := .int .i64 _) rfl) ?_)
              refine wl_nil ?_
              refine thenF_normal ⟨_, ?_, k + 1, D50, _, (reb (reb (reb (reb rfl rfl) rfl) rfl) rfl), ?_, rfl, hS⟩
              · omega
              · exact ⟨by omega, by rw [take_snoc hx, foldP_snoc]; exact hB2⟩
            · (try simp only [decide_eq_true_eq, decide_eq_false_iff_not, Bool.not_eq_true, Bool.not_eq_false, Bool.not_eq_true', Bool.not_eq_false', Bool.and_eq_true, Bool.or_eq_true, Bool.and_eq_false_iff, Bool.or_eq_false_iff, Int.not_lt, Int.not_le, gt_iff_lt, ge_iff_le, ne_eq, Decidable.not_not, beq_iff_eq] at hc)
              have hc2 := hc; clear hc
              refine cw_exit ?_
              refine hK20 _ _ ?_
              refine cw_seq fun K26 hK26 => ?_
              rw [show k = cs.length by omega, List.take_length] at hB
              replace hB : BldAt b8 (rawP no v cs) Δb := hB
              have hrl := raw_ok hok
              refine cw_region ?_
              refine wl_op rfl rfl (ow_bldString (bs := rawP no v cs) rfl hS hlt hB (by intro e; rw [e] at hrl; cases hrl) ?_)
              clear hS; intro w hS
              refine wl_op rfl rfl (ow_fn (vs := [str _, .int .i64 _]) en_40 rfl hS (seal_Seal (rawP no v cs) 96 (by omega)) ?_)
              clear hS; rintro _ _ w ⟨rfl, rfl⟩ hS; (try simp only [List.cons_append, List.nil_append] at hS)
              refine wl_op rfl rfl (ow_vr (vr_assign (v := str _) rfl) ?_)
              refine wl_nil ?_
              refine hK26 _ _ ?_
              refine cw_seq fun K27 hK27 => ?_
              refine cw_region ?_
              refine wl_op rfl rfl (ow_vr (vr_assign (v := .slice none 0 0) rfl) ?_)
              refine wl_nil ?_
              refine hK27 _ _ ?_
              refine cw_seq fun K28 hK28 => ?_
              refine cw_seq fun K29 hK29 => ?_
              have hal := all_length hok
              replace hS := Sat.nilc.2 hS
              refine cw_region ?_
              refine wl_op rfl rfl (ow_vr (vr_assign (v := .int .i64 0) rfl) ?_)
              refine wl_nil ?_
              refine hK29 _ _ ?_
              refine cw_block ?_
              refine cw_loop (fun m f w => ∃ (k : Nat) (v12 : Value) (D12 : Chunk) (g : Nat → Value), f = (upd (upd (upd g 11 (str (allP no v cs))) 12 (v12)) 13 (.int .i64 ((32 * k : Nat) : Int))) ∧ (k ≤ 3 ∧ Own 9 1 encS v12 ((List.range k).map (chunkB (allP no v cs))) D12) ∧ m = 3 - k ∧ Sat E (D12 :: F) w) ⟨0, .slice none 0 0, [], _, (reb (reb (reb rfl rfl) rfl) rfl), ?_, rfl, hS⟩ ?_
              · exact ⟨by omega, Own.nil⟩
              clear hS; rintro m f w ⟨k, v12, D12, g, rfl, hI1, rfl, hS⟩
              obtain ⟨hk3, ho12⟩ := hI1
              refine cw_seq fun K30 hK30 => ?_
              refine cw_seq fun K31 hK31 => ?_
              refine cw_region ?_
              refine wl_op rfl rfl (ow_vr (vr_move (v := .int .i64 ((32 * k : Nat) : Int)) rfl) ?_)
              refine wl_op rfl rfl (ow_vr (vr_move (v := (str (allP no v cs))) rfl) ?_)
              refine wl_op rfl rfl (ow_vr (vr_len_s Try.underlying9 rfl) ?_)
              refine wl_op rfl rfl (ow_vr (vr_lss rfl rfl) ?_)
              refine wl_nil ?_
              refine hK31 _ _ ?_
              refine cw_cond rfl rfl (fun hc => ?_) (fun hc => ?_)
              · (try simp only [decide_eq_true_eq, decide_eq_false_iff_not, Bool.not_eq_true, Bool.not_eq_false, Bool.not_eq_true', Bool.not_eq_false', Bool.and_eq_true, Bool.or_eq_true, Bool.and_eq_false_iff, Bool.or_eq_false_iff, Int.not_lt, Int.not_le, gt_iff_lt, ge_iff_le, ne_eq, Decidable.not_not, beq_iff_eq] at hc)
                have hc3 := hc; clear hc
                refine cw_skip ?_
                refine hK30 _ _ ?_
                refine cw_seq fun K32 hK32 => ?_
                refine cw_block ?_
                refine cw_region ?_
                refine wl_op rfl rfl (ow_vr (vr_move (v := v12) rfl) ?_)
                refine wl_op rfl rfl (ow_vr (vr_move (v := (str (allP no v cs))) rfl) ?_)
                refine wl_op rfl rfl (ow_vr (vr_move (v := .int .i64 ((32 * k : Nat) : Int)) rfl) ?_)
                refine wl_op rfl rfl (ow_vr (vr_move (v := .int .i64 ((32 * k : Nat) : Int)) rfl) ?_)
                refine wl_op rfl rfl (ow_vr (vr_as (vr_addi rfl rfl (by unfold inI64; omega)) (congrArg (Value.int .i64) (show ((32 * k : Nat) : Int) + 32 = ((32 * k + 32 : Nat) : Int) by omega))) ?_)
                refine wl_op rfl rfl (ow_vr (vr_as (v' := str (chunkB (allP no v cs) k)) (vr_slice_mid (l := allP no v cs) (a := 32 * k) (h := 32 * k + 32) Try.underlying9 rfl rfl rfl (by omega) (by omega)) rfl) ?_)
                refine wl_op rfl rfl (ow_buildSliceD (m := 1) (len := 1) (vs := [str _]) (cs := [str _]) hS Try.underlying57 if_9 rfl (by decide) (by decide) rfl rfl (by simp [Value.cells]) rfl ?_)
                clear hS; intro b66 w hS
                refine wl_op rfl rfl (ow_append (v := v12) hS Try.underlying57 Try.underlying57 if_9 rfl (by decide) rfl rfl (by assumption) (View.single (x := chunkB (allP no v cs) k) rfl rfl (by decide)) (by first | exact HasC.here | exact HasC.there (HasC.here) | exact HasC.there (HasC.there (HasC.here)) | exact HasC.there (HasC.there (HasC.there (HasC.here))) | exact HasC.there (HasC.there (HasC.there (HasC.there (HasC.here)))) | exact HasC.there (HasC.there (HasC.there (HasC.there (HasC.there (HasC.here))))) | exact HasC.there (HasC.there (HasC.there (HasC.there (HasC.there (HasC.there (HasC.here)))))) | exact HasC.there (HasC.there (HasC.there (HasC.there (HasC.there (HasC.there (HasC.there (HasC.here))))))) | exact HasC.there (HasC.there (HasC.there (HasC.there (HasC.there (HasC.there (HasC.there (HasC.there (HasC.here))))))))) (by repeat (first | exact List.mem_cons_self | assumption | refine List.mem_cons_of_mem _ ?_)) (by exact fun _ => rfl) (by exact fun _ => rfl) (by simp [maxLen] <;> omega) (by simp [maxLen] <;> omega) ?_)
                clear hS; intro v67 D67 w ho67 hS
                refine wl_op rfl rfl (ow_vr (vr_assign (v := v67) rfl) ?_)
                refine wl_nil ?_
                replace hS := hS.tail1
                refine hK32 _ _ ?_
                refine cw_region ?_
                refine wl_op rfl rfl (ow_vr (vr_move (v := .int .i64 ((32 * k : Nat) : Int)) rfl) ?_)
                refine wl_op rfl rfl (ow_vr (vr_as (vr_addi rfl rfl (by unfold inI64; omega)) (congrArg (Value.int .i64) (show ((32 * k : Nat) : Int) + 32 = ((32 * (k + 1) : Nat) : Int) by omega))) ?_)
                refine wl_op rfl rfl (ow_vr (vr_assign (v := .int .i64 _) rfl) ?_)
                refine wl_nil ?_
                refine thenF_normal ⟨_, ?_, k + 1, v67, D67, _, (reb (reb (reb rfl rfl) rfl) rfl), ?_, rfl, hS⟩
                · omega
                · exact ⟨by omega, by rw [range_snoc]; exact ho67⟩
              · (try simp only [decide_eq_true_eq, decide_eq_false_iff_not, Bool.not_eq_true, Bool.not_eq_false, Bool.not_eq_true', Bool.not_eq_false', Bool.and_eq_true, Bool.or_eq_true, Bool.and_eq_false_iff, Bool.or_eq_false_iff, Int.not_lt, Int.not_le, gt_iff_lt, ge_iff_le, ne_eq, Decidable.not_not, beq_iff_eq] at hc)
                have hc3 := hc; clear hc
                refine cw_exit ?_
                refine hK28 _ _ ?_
                refine cw_seq fun K33 hK33 => ?_
                obtain rfl : k = 3 := by omega
                refine cw_region ?_
                refine wl_op rfl rfl (ow_vr (vr_move (v := v12) rfl) ?_)
                refine wl_op rfl rfl (ow_vr (vr_assign (v := v12) rfl) ?_)
                refine wl_op rfl rfl (ow_vr (vr_assign (v := .bool true) rfl) ?_)
                refine wl_nil ?_
                refine hK33 _ _ ?_
                refine cw_ret ?_
                refine ret_two (fn := Try.f28) (n := 69) (t := 6) (u := 7) (.inl rfl) rfl rfl rfl ?_
                exact ⟨[D12], ⟨v12, D12, (by rw [hok] <;> rfl), rfl, (by rw [hok]; exact ho12)⟩, hS⟩
theorem chunk0 (s : List UInt8) : chunkB s 0 = s.take 32 := by rw [chunkB]; rfl
theorem chunk2 {s : List UInt8} (h : s.length = 96) : chunkB s 2 = s.drop 64 := by
  rw [chunkB, List.take_of_length_le (by omega)]
theorem ref_Page (no v : Int) (cs : List Int) (vc : Value) (Δc : Chunk) (hv : View 1 encI vc cs Δc) :
    FnG Try.prog 29 [.int .i64 no, .int .i64 v, vc] [Δc] (fun u Δs => ∃ v' D, u = .tuple #[v', .bool (okPg no v cs)] ∧ Δs = [D] ∧ Own 9 1 encS v' (if okPg no v cs then pagesB (allP no v cs) else []) D) := by
  refine FnG.mk fun E F w hS hF => ?_
  have hFc : Δc ∈ F := hF _ (by simp)
  have hp1 := putI_length no 4
  have hp2 := putI_length v 4
  refine returns_enter Try.func29 rfl Try.ntmps29 rfl ?_
  refine cw_seq fun K1 hK1 => ?_
  refine cw_region ?_
  refine wl_op rfl rfl (ow_vr (vr_assign (v := .slice none 0 0) rfl) ?_)
  refine wl_op rfl rfl (ow_vr (vr_assign (v := .bool false) rfl) ?_)
  refine wl_nil ?_
  refine hK1 _ _ ?_
  refine cw_seq fun K2 hK2 => ?_
  refine cw_seq fun K3 hK3 => ?_
  refine cw_region ?_
  refine wl_op rfl rfl (ow_vr (vr_move (v := .int .i64 _) rfl) ?_)
  refine wl_op rfl rfl (ow_vr (vr_lss rfl rfl) ?_)
  refine wl_op rfl rfl (ow_vr (vr_move (v := .bool _) rfl) ?_)
  refine wl_split 13 rfl (fun hc => ?_) (fun hc => ?_)
  · (try simp only [decide_eq_true_eq, decide_eq_false_iff_not, Bool.not_eq_true, Bool.not_eq_false, Bool.not_eq_true', Bool.not_eq_false', Bool.and_eq_true, Bool.or_eq_true, Bool.and_eq_false_iff, Bool.or_eq_false_iff, Int.not_lt, Int.not_le, gt_iff_lt, ge_iff_le, ne_eq, Decidable.not_not, beq_iff_eq] at hc)
    have hg13 := hc; clear hc
    refine wl_noD rfl rfl rfl rfl rfl rfl ?_
    refine wl_noD rfl rfl rfl rfl rfl rfl ?_
    refine wl_op rfl rfl (ow_vr (vr_pick (b := true) (v := .bool _) rfl rfl) ?_)
    refine wl_op rfl rfl (ow_vr (vr_move (v := .bool _) rfl) ?_)
    refine wl_noD rfl rfl rfl rfl rfl rfl ?_
    refine wl_noD rfl rfl rfl rfl rfl rfl ?_
    refine wl_noD rfl rfl rfl rfl rfl rfl ?_
    refine wl_op rfl rfl (ow_vr (vr_pick (b := true) (v := .bool _) rfl rfl) ?_)
    refine wl_op rfl rfl (ow_vr (vr_move (v := .bool _) rfl) ?_)
    refine wl_noD rfl rfl rfl rfl rfl rfl ?_
    refine wl_noD rfl rfl rfl rfl rfl rfl ?_
    refine wl_noD rfl rfl rfl rfl rfl rfl ?_
    refine wl_op rfl rfl (ow_vr (vr_pick (b := true) (v := .bool _) rfl rfl) ?_)
    refine wl_nil ?_
    refine hK3 _ _ ?_
    refine cw_cond_t rfl rfl (rfl) ?_
    refine cw_seq fun K4 hK4 => ?_
    have hno : okPg no v cs = false := by cases hok : okPg no v cs with | false => rfl | true => obtain ⟨h1, h2, h3, h4⟩ := okPg_spec hok; first | (exfalso; omega) | (simp_all; omega)
    replace hS := Sat.nilc.2 hS
    refine cw_region ?_
    refine wl_op rfl rfl (ow_vr (vr_assign (v := .slice none 0 0) rfl) ?_)
    refine wl_op rfl rfl (ow_vr (vr_assign (v := .bool false) rfl) ?_)
    refine wl_nil ?_
    refine hK4 _ _ ?_
    refine cw_ret ?_
    refine thenF_ret (?_)
    refine ret_two (fn := Try.f29) (n := 60) (t := 6) (u := 7) (.inl rfl) rfl rfl rfl ?_
    exact ⟨[[]], ⟨.slice none 0 0, [], (by rw [hno] <;> rfl), rfl, (by rw [hno]; exact Own.nil)⟩, hS⟩
  · (try simp only [decide_eq_true_eq, decide_eq_false_iff_not, Bool.not_eq_true, Bool.not_eq_false, Bool.not_eq_true', Bool.not_eq_false', Bool.and_eq_true, Bool.or_eq_true, Bool.and_eq_false_iff, Bool.or_eq_false_iff, Int.not_lt, Int.not_le, gt_iff_lt, ge_iff_le, ne_eq, Decidable.not_not, beq_iff_eq] at hc)
    have hg13 := hc; clear hc
    refine wl_yes rfl rfl rfl rfl rfl (ow_vr (vr_move (v := .int .i64 _) rfl) ?_)
    refine wl_yes rfl rfl rfl rfl rfl (ow_vr (vr_gtr rfl rfl) ?_)
    refine wl_op rfl rfl (ow_vr (vr_pick (b := false) (v := .bool _) rfl rfl) ?_)
    refine wl_op rfl rfl (ow_vr (vr_move (v := .bool _) rfl) ?_)
    refine wl_split 17 rfl (fun hc => ?_) (fun hc => ?_)
    · (try simp only [decide_eq_true_eq, decide_eq_false_iff_not, Bool.not_eq_true, Bool.not_eq_false, Bool.not_eq_true', Bool.not_eq_false', Bool.and_eq_true, Bool.or_eq_true, Bool.and_eq_false_iff, Bool.or_eq_false_iff, Int.not_lt, Int.not_le, gt_iff_lt, ge_iff_le, ne_eq, Decidable.not_not, beq_iff_eq] at hc)
      have hg17 := hc; clear hc
      refine wl_noD rfl rfl rfl rfl rfl rfl ?_
      refine wl_noD rfl rfl rfl rfl rfl rfl ?_
      refine wl_noD rfl rfl rfl rfl rfl rfl ?_
      refine wl_op rfl rfl (ow_vr (vr_pick (b := true) (v := .bool _) rfl rfl) ?_)
      refine wl_op rfl rfl (ow_vr (vr_move (v := .bool _) rfl) ?_)
      refine wl_noD rfl rfl rfl rfl rfl rfl ?_
      refine wl_noD rfl rfl rfl rfl rfl rfl ?_
      refine wl_noD rfl rfl rfl rfl rfl rfl ?_
      refine wl_op rfl rfl (ow_vr (vr_pick (b := true) (v := .bool _) rfl rfl) ?_)
      refine wl_nil ?_
      refine hK3 _ _ ?_
      refine cw_cond_t rfl rfl (rfl) ?_
      refine cw_seq fun K5 hK5 => ?_
      have hno : okPg no v cs = false := by cases hok : okPg no v cs with | false => rfl | true => obtain ⟨h1, h2, h3, h4⟩ := okPg_spec hok; first | (exfalso; omega) | (simp_all; omega)
      replace hS := Sat.nilc.2 hS
      refine cw_region ?_
      refine wl_op rfl rfl (ow_vr (vr_assign (v := .slice none 0 0) rfl) ?_)
      refine wl_op rfl rfl (ow_vr (vr_assign (v := .bool false) rfl) ?_)
      refine wl_nil ?_
      refine hK5 _ _ ?_
      refine cw_ret ?_
      refine thenF_ret (?_)
      refine ret_two (fn := Try.f29) (n := 60) (t := 6) (u := 7) (.inl rfl) rfl rfl rfl ?_
      exact ⟨[[]], ⟨.slice none 0 0, [], (by rw [hno] <;> rfl), rfl, (by rw [hno]; exact Own.nil)⟩, hS⟩
    · (try simp only [decide_eq_true_eq, decide_eq_false_iff_not, Bool.not_eq_true, Bool.not_eq_false, Bool.not_eq_true', Bool.not_eq_false', Bool.and_eq_true, Bool.or_eq_true, Bool.and_eq_false_iff, Bool.or_eq_false_iff, Int.not_lt, Int.not_le, gt_iff_lt, ge_iff_le, ne_eq, Decidable.not_not, beq_iff_eq] at hc)
      have hg17 := hc; clear hc
      refine wl_yes rfl rfl rfl rfl rfl (ow_vr (vr_move (v := .int .i64 _) rfl) ?_)
      refine wl_yes rfl rfl rfl rfl rfl (ow_fn (vs := [.int .i64 _]) en_41 rfl hS (ref_Number v) ?_)
      clear hS; rintro _ _ w ⟨rfl, rfl⟩ hS; (try simp only [List.cons_append, List.nil_append] at hS)
      refine wl_yes rfl rfl rfl rfl rfl (ow_vr (vr_not rfl) ?_)
      refine wl_op rfl rfl (ow_vr (vr_pick (b := false) (v := .bool _) rfl rfl) ?_)
      refine wl_op rfl rfl (ow_vr (vr_move (v := .bool _) rfl) ?_)
      refine wl_split 22 rfl (fun hc => ?_) (fun hc => ?_)
      · (try simp only [decide_eq_true_eq, decide_eq_false_iff_not, Bool.not_eq_true, Bool.not_eq_false, Bool.not_eq_true', Bool.not_eq_false', Bool.and_eq_true, Bool.or_eq_true, Bool.and_eq_false_iff, Bool.or_eq_false_iff, Int.not_lt, Int.not_le, gt_iff_lt, ge_iff_le, ne_eq, Decidable.not_not, beq_iff_eq] at hc)
        have hg22 := hc; clear hc
        refine wl_noD rfl rfl rfl rfl rfl rfl ?_
        refine wl_noD rfl rfl rfl rfl rfl rfl ?_
        refine wl_noD rfl rfl rfl rfl rfl rfl ?_
        refine wl_op rfl rfl (ow_vr (vr_pick (b := true) (v := .bool _) rfl rfl) ?_)
        refine wl_nil ?_
        refine hK3 _ _ ?_
        refine cw_cond_t rfl rfl (rfl) ?_
        refine cw_seq fun K6 hK6 => ?_
        have hno : okPg no v cs = false := by cases hok : okPg no v cs with | false => rfl | true => obtain ⟨h1, h2, h3, h4⟩ := okPg_spec hok; first | (exfalso; omega) | (simp_all; omega)
        replace hS := Sat.nilc.2 hS
        refine cw_region ?_
        refine wl_op rfl rfl (ow_vr (vr_assign (v := .slice none 0 0) rfl) ?_)
        refine wl_op rfl rfl (ow_vr (vr_assign (v := .bool false) rfl) ?_)
        refine wl_nil ?_
        refine hK6 _ _ ?_
        refine cw_ret ?_
        refine thenF_ret (?_)
        refine ret_two (fn := Try.f29) (n := 60) (t := 6) (u := 7) (.inl rfl) rfl rfl rfl ?_
        exact ⟨[[]], ⟨.slice none 0 0, [], (by rw [hno] <;> rfl), rfl, (by rw [hno]; exact Own.nil)⟩, hS⟩
      · (try simp only [decide_eq_true_eq, decide_eq_false_iff_not, Bool.not_eq_true, Bool.not_eq_false, Bool.not_eq_true', Bool.not_eq_false', Bool.and_eq_true, Bool.or_eq_true, Bool.and_eq_false_iff, Bool.or_eq_false_iff, Int.not_lt, Int.not_le, gt_iff_lt, ge_iff_le, ne_eq, Decidable.not_not, beq_iff_eq] at hc)
        have hg22 := hc; clear hc
        refine wl_yes rfl rfl rfl rfl rfl (ow_vr (vr_move (v := vc) rfl) ?_)
        first | (refine wl_yes rfl rfl rfl rfl rfl (ow_vr (vr_len_sl Try.underlying55 rfl) ?_)) | (refine wl_yes rfl rfl rfl rfl rfl (ow_vr (vr_len_v (v := vc) Try.underlying55 rfl (by first | assumption | (refine Own.view ?_ (by assumption); exact fun _ => rfl) | exact OwnB.view (by assumption))) ?_))
        refine wl_yes rfl rfl rfl rfl rfl (ow_vr (vr_neq rfl rfl) ?_)
        refine wl_op rfl rfl (ow_vr (vr_pick (b := false) (v := .bool _) rfl rfl) ?_)
        refine wl_nil ?_
        refine hK3 _ _ ?_
        refine cw_cond rfl rfl (fun hc => ?_) (fun hc => ?_)
        · (try simp only [decide_eq_true_eq, decide_eq_false_iff_not, Bool.not_eq_true, Bool.not_eq_false, Bool.not_eq_true', Bool.not_eq_false', Bool.and_eq_true, Bool.or_eq_true, Bool.and_eq_false_iff, Bool.or_eq_false_iff, Int.not_lt, Int.not_le, gt_iff_lt, ge_iff_le, ne_eq, Decidable.not_not, beq_iff_eq] at hc)
          have hc0 := hc; clear hc
          refine cw_seq fun K7 hK7 => ?_
          have hno : okPg no v cs = false := by cases hok : okPg no v cs with | false => rfl | true => obtain ⟨h1, h2, h3, h4⟩ := okPg_spec hok; first | (exfalso; omega) | (simp_all; omega)
          replace hS := Sat.nilc.2 hS
          refine cw_region ?_
          refine wl_op rfl rfl (ow_vr (vr_assign (v := .slice none 0 0) rfl) ?_)
          refine wl_op rfl rfl (ow_vr (vr_assign (v := .bool false) rfl) ?_)
          refine wl_nil ?_
          refine hK7 _ _ ?_
          refine cw_ret ?_
          refine thenF_ret (?_)
          refine ret_two (fn := Try.f29) (n := 60) (t := 6) (u := 7) (.inl rfl) rfl rfl rfl ?_
          exact ⟨[[]], ⟨.slice none 0 0, [], (by rw [hno] <;> rfl), rfl, (by rw [hno]; exact Own.nil)⟩, hS⟩
        · (try simp only [decide_eq_true_eq, decide_eq_false_iff_not, Bool.not_eq_true, Bool.not_eq_false, Bool.not_eq_true', Bool.not_eq_false', Bool.and_eq_true, Bool.or_eq_true, Bool.and_eq_false_iff, Bool.or_eq_false_iff, Int.not_lt, Int.not_le, gt_iff_lt, ge_iff_le, ne_eq, Decidable.not_not, beq_iff_eq] at hc)
          have hc0 := hc; clear hc
          refine cw_skip ?_
          refine hK2 _ _ ?_
          refine cw_seq fun K8 hK8 => ?_
          have hvv : 0 ≤ v ∧ v < 4294967296 := by simp_all
          have hcl : cs.length = 16 := by omega
          refine cw_region ?_
          refine wl_op rfl rfl (ow_vr (vr_move (v := .int .i64 _) rfl) ?_)
          refine wl_op rfl rfl (ow_fn (vs := [.int .i64 _, .int .i64 _]) en_44 rfl hS (ref_Put no 4) ?_)
          clear hS; rintro _ _ w ⟨rfl, rfl⟩ hS; (try simp only [List.cons_append, List.nil_append] at hS)
          refine wl_op rfl rfl (ow_vr (vr_move (v := .int .i64 _) rfl) ?_)
          refine wl_op rfl rfl (ow_fn (vs := [.int .i64 _, .int .i64 _]) en_44 rfl hS (ref_Put v 4) ?_)
          clear hS; rintro _ _ w ⟨rfl, rfl⟩ hS; (try simp only [List.cons_append, List.nil_append] at hS)
          refine wl_op rfl rfl (ow_vr (vr_cat_s rfl rfl (by first | omega | (simp <;> omega))) ?_)
          refine wl_op rfl rfl (ow_vr (vr_assign (v := str _) rfl) ?_)
          refine wl_nil ?_
          refine hK8 _ _ ?_
          refine cw_seq fun K9 hK9 => ?_
          refine cw_seq fun K10 hK10 => ?_
          refine cw_region ?_
          refine wl_op rfl rfl (ow_vr (vr_assign (v := .int .i64 0) rfl) ?_)
          refine wl_nil ?_
          refine hK10 _ _ ?_
          refine cw_block ?_
          refine cw_loop (fun m f w => ∃ (k : Nat) (c : List UInt8) (g : Nat → Value), f = (upd (upd (upd g 2 (vc)) 8 (str c)) 9 (.int .i64 (k : Int))) ∧ (k ≤ cs.length ∧ c = foldP (putI no 4 ++ putI v 4) (cs.take k) ∧ (cs.take k).all okN = true) ∧ m = cs.length - k ∧ Sat E (F) w) ⟨0, putI no 4 ++ putI v 4, _, (reb (reb (reb rfl rfl) rfl) rfl), ?_, rfl, hS⟩ ?_
          · exact ⟨by omega, rfl, rfl⟩
          clear hS; rintro m f w ⟨k, c, g, rfl, hI0, rfl, hS⟩
          obtain ⟨hk, hc, hall⟩ := hI0
          have hfl := foldP_length (putI no 4 ++ putI v 4) (cs.take k)
          rw [List.length_append, List.length_take, ← hc] at hfl
          refine cw_seq fun K11 hK11 => ?_
          refine cw_seq fun K12 hK12 => ?_
          refine cw_region ?_
          refine wl_op rfl rfl (ow_vr (vr_move (v := .int .i64 (k : Int)) rfl) ?_)
          refine wl_op rfl rfl (ow_vr (vr_move (v := vc) rfl) ?_)
          first | (refine wl_op rfl rfl (ow_vr (vr_len_sl Try.underlying55 rfl) ?_)) | (refine wl_op rfl rfl (ow_vr (vr_len_v (v := vc) Try.underlying55 rfl (by first | assumption | (refine Own.view ?_ (by assumption); exact fun _ => rfl) | exact OwnB.view (by assumption))) ?_))
          refine wl_op rfl rfl (ow_vr (vr_lss rfl rfl) ?_)
          refine wl_nil ?_
          refine hK12 _ _ ?_
          refine cw_cond rfl rfl (fun hc => ?_) (fun hc => ?_)
          · (try simp only [decide_eq_true_eq, decide_eq_false_iff_not, Bool.not_eq_true, Bool.not_eq_false, Bool.not_eq_true', Bool.not_eq_false', Bool.and_eq_true, Bool.or_eq_true, Bool.and_eq_false_iff, Bool.or_eq_false_iff, Int.not_lt, Int.not_le, gt_iff_lt, ge_iff_le, ne_eq, Decidable.not_not, beq_iff_eq] at hc)
            have hc1 := hc; clear hc
            refine cw_skip ?_
            refine hK11 _ _ ?_
            refine cw_seq fun K13 hK13 => ?_
            refine cw_block ?_
            refine cw_seq fun K14 hK14 => ?_
            refine cw_seq fun K15 hK15 => ?_
            obtain ⟨x, hx⟩ := get_lt (xs := cs) (k := k) (by omega)
            have hpx := putI_length x 4
            refine cw_region ?_
            refine wl_op rfl rfl (ow_vr (vr_move (v := vc) rfl) ?_)
            refine wl_op rfl rfl (ow_vr (vr_move (v := .int .i64 (k : Int)) rfl) ?_)
            first | (refine wl_op rfl rfl (ow_vr (vr_indexAddr Try.underlying55 sz_3 rfl rfl (by omega) (by omega)) ?_)) | (refine wl_op rfl rfl (ow_vr (vr_indexV (v := vc) Try.underlying55 sz_3 rfl (by first | assumption | (refine Own.view ?_ (by assumption); exact fun _ => rfl) | exact OwnB.view (by assumption)) rfl (by omega) (by first | omega | (simp <;> omega))) ?_))
            refine wl_op rfl rfl (ow_lr (S := Sat _ _) (lr_loadV1 (u := .int .i64 _) Try.underlying3 rfl rfl (by first | assumption | (refine Own.view ?_ (by assumption); exact fun _ => rfl) | exact OwnB.view (by assumption)) (by repeat (first | exact List.mem_cons_self | assumption | refine List.mem_cons_of_mem _ ?_)) (hx) (by exact fun _ => rfl) (by rfl)) hS ?_)
            refine wl_op rfl rfl (ow_fn (vs := [.int .i64 _]) en_41 rfl hS (ref_Number x) ?_)
            clear hS; rintro _ _ w ⟨rfl, rfl⟩ hS; (try simp only [List.cons_append, List.nil_append] at hS)
            refine wl_op rfl rfl (ow_vr (vr_not rfl) ?_)
            refine wl_nil ?_
            refine hK15 _ _ ?_
            refine cw_cond rfl rfl (fun hc => ?_) (fun hc => ?_)
            · (try simp only [decide_eq_true_eq, decide_eq_false_iff_not, Bool.not_eq_true, Bool.not_eq_false, Bool.not_eq_true', Bool.not_eq_false', Bool.and_eq_true, Bool.or_eq_true, Bool.and_eq_false_iff, Bool.or_eq_false_iff, Int.not_lt, Int.not_le, gt_iff_lt, ge_iff_le, ne_eq, Decidable.not_not, beq_iff_eq] at hc)
              have hxo := hc; clear hc
              refine cw_seq fun K16 hK16 => ?_
              have hno : okPg no v cs = false := by cases hok : okPg no v cs with | false => rfl | true => obtain ⟨h1, h2, h3, h4⟩ := okPg_spec hok; have := List.all_eq_true.1 h4 x (List.mem_of_getElem? hx); simp [okN] at this; simp at hxo; omega
              replace hS := Sat.nilc.2 hS
              refine cw_region ?_
              refine wl_op rfl rfl (ow_vr (vr_assign (v := .slice none 0 0) rfl) ?_)
              refine wl_op rfl rfl (ow_vr (vr_assign (v := .bool false) rfl) ?_)
              refine wl_nil ?_
              refine hK16 _ _ ?_
              refine cw_ret ?_
              refine thenF_ret (inB_ret (thenF_ret (thenF_ret (inB_ret (thenF_ret (?_))))))
              refine ret_two (fn := Try.f29) (n := 60) (t := 6) (u := 7) (.inl rfl) rfl rfl rfl ?_
              exact ⟨[[]], ⟨.slice none 0 0, [], (by rw [hno] <;> rfl), rfl, (by rw [hno]; exact Own.nil)⟩, hS⟩
            · (try simp only [decide_eq_true_eq, decide_eq_false_iff_not, Bool.not_eq_true, Bool.not_eq_false, Bool.not_eq_true', Bool.not_eq_false', Bool.and_eq_true, Bool.or_eq_true, Bool.and_eq_false_iff, Bool.or_eq_false_iff, Int.not_lt, Int.not_le, gt_iff_lt, ge_iff_le, ne_eq, Decidable.not_not, beq_iff_eq] at hc)
              have hxo := hc; clear hc
              refine cw_skip ?_
              refine hK14 _ _ ?_
              replace hxo : 0 ≤ x ∧ x < 4294967296 := by simpa using hxo
              refine cw_region ?_
              refine wl_op rfl rfl (ow_vr (vr_move (v := (str c)) rfl) ?_)
              refine wl_op rfl rfl (ow_vr (vr_move (v := vc) rfl) ?_)
              refine wl_op rfl rfl (ow_vr (vr_move (v := .int .i64 (k : Int)) rfl) ?_)
              first | (refine wl_op rfl rfl (ow_vr (vr_indexAddr Try.underlying55 sz_3 rfl rfl (by omega) (by omega)) ?_)) | (refine wl_op rfl rfl (ow_vr (vr_indexV (v := vc) Try.underlying55 sz_3 rfl (by first | assumption | (refine Own.view ?_ (by assumption); exact fun _ => rfl) | exact OwnB.view (by assumption)) rfl (by omega) (by first | omega | (simp <;> omega))) ?_))
              refine wl_op rfl rfl (ow_lr (S := Sat _ _) (lr_loadV1 (u := .int .i64 _) Try.underlying3 rfl rfl (by first | assumption | (refine Own.view ?_ (by assumption); exact fun _ => rfl) | exact OwnB.view (by assumption)) (by repeat (first | exact List.mem_cons_self | assumption | refine List.mem_cons_of_mem _ ?_)) (hx) (by exact fun _ => rfl) (by rfl)) hS ?_)
              refine wl_op rfl rfl (ow_fn (vs := [.int .i64 _, .int .i64 _]) en_44 rfl hS (ref_Put x 4) ?_)
              clear hS; rintro _ _ w ⟨rfl, rfl⟩ hS; (try simp only [List.cons_append, List.nil_append] at hS)
              refine wl_op rfl rfl (ow_vr (vr_cat_s rfl rfl (by first | omega | (simp <;> omega))) ?_)
              refine wl_op rfl rfl (ow_vr (vr_assign (v := str _) rfl) ?_)
              refine wl_nil ?_
              refine hK13 _ _ ?_
              refine cw_region ?_
              refine wl_op rfl rfl (ow_vr (vr_move (v := .int .i64 (k : Int)) rfl) ?_)
              first | (refine wl_op rfl rfl (ow_vr (vr_addi rfl rfl (by unfold inI64; omega)) ?_)) | (refine wl_op rfl rfl (ow_vr (vr_add rfl rfl) ?_))
              refine wl_op rfl rfl (ow_vr (vr_assign (v := .int .i64 _) rfl) ?_)
              refine wl_nil ?_
              refine thenF_normal ⟨_, ?_, k + 1, c ++ putI x 4, _, (reb (reb (reb rfl rfl) rfl) rfl), ?_, rfl, hS⟩
              · omega
              · exact ⟨by omega, by rw [take_snoc hx, foldP_snoc, ← hc], by rw [take_snoc hx, List.all_append, hall]; simpa [okN] using hxo⟩
          · (try simp only [decide_eq_true_eq, decide_eq_false_iff_not, Bool.not_eq_true, Bool.not_eq_false, Bool.not_eq_true', Bool.not_eq_false', Bool.and_eq_true, Bool.or_eq_true, Bool.and_eq_false_iff, Bool.or_eq_false_iff, Int.not_lt, Int.not_le, gt_iff_lt, ge_iff_le, ne_eq, Decidable.not_not, beq_iff_eq] at hc)
            have hc1 := hc; clear hc
            refine cw_exit ?_
            refine hK9 _ _ ?_
            refine cw_seq fun K17 hK17 => ?_
            rw [show k = cs.length by omega, List.take_length] at hc hall
            have hok : okPg no v cs = true := by simp only [okPg, Bool.and_eq_true, decide_eq_true_eq]; exact ⟨by omega, hcl, by simp [okN]; omega, hall⟩
            replace hc : c = rawP no v cs := hc
            have hrl := raw_ok hok
            have hal := all_length hok
            have hSeal : FnV Try.prog 43 [str c, .int .i64 96] (str (allP no v cs)) := by rw [hc]; exact ref_Seal (rawP no v cs) 96 (by omega)
            refine cw_region ?_
            refine wl_op rfl rfl (ow_vr (vr_move (v := (str c)) rfl) ?_)
            refine wl_op rfl rfl (ow_fn (vs := [(str c), .int .i64 _]) en_43 rfl hS (hSeal) ?_)
            clear hS; rintro _ _ w ⟨rfl, rfl⟩ hS; (try simp only [List.cons_append, List.nil_append] at hS)
            refine wl_op rfl rfl (ow_vr (vr_assign (v := str _) rfl) ?_)
            refine wl_nil ?_
            refine hK17 _ _ ?_
            refine cw_seq fun K18 hK18 => ?_
            refine cw_draw_sat hS [(0, 0), (1, 0), (2, 0), (3, 0), (4, 0), (5, 0), (6, 2), (7, 0), (8, 0)] mixed (planFast_ok (by kernel_rfl)) (by rintro _ _ _ ⟨⟩) ?_
            clear hS; intro w hS
            refine pl_take rfl (yes_none rfl) (vr_move (v := str _) rfl) ?_
            refine pl_take rfl (yes_none rfl) (vr_as (v' := str (chunkB (allP no v cs) 0)) (vr_slice_to (l := allP no v cs) (h := 32) Try.underlying9 rfl rfl (by omega)) (congrArg str (chunk0 _).symm)) ?_
            refine pl_take rfl (yes_none rfl) (vr_move (v := str _) rfl) ?_
            refine pl_take rfl (yes_none rfl) (vr_as (v' := str (chunkB (allP no v cs) 1)) (vr_slice_mid (l := allP no v cs) (a := 32) (h := 64) Try.underlying9 rfl rfl rfl (by omega) (by omega)) rfl) ?_
            refine pl_take rfl (yes_none rfl) (vr_move (v := str _) rfl) ?_
            refine pl_take rfl (yes_none rfl) (vr_as (v' := str (chunkB (allP no v cs) 2)) (vr_slice_from (l := allP no v cs) (h := 64) Try.underlying9 rfl rfl (by omega)) (congrArg str (chunk2 hal).symm)) ?_
            refine pl_act hS rfl (yes_none rfl) ?_
            clear hS; intro w hS
            refine (ow_buildSliceD (m := 1) (len := 3) (vs := [str _, str _, str _]) (cs := [str _, str _, str _]) hS Try.underlying57 if_9 rfl (by decide) (by decide) rfl rfl (by simp [Value.cells]) rfl ?_)
            clear hS; intro b59 w hS
            refine ⟨by first | exact hS | exact hS.tail1 | exact hS.tail1.tail1 | exact hS.tail1.tail1.tail1, ?_⟩
            refine pl_take rfl (yes_none rfl) (vr_assign (v := .slice _ _ _) rfl) ?_
            refine pl_take rfl (yes_none rfl) (vr_assign (v := .bool true) rfl) ?_
            refine pl_nil hS ?_
            clear hS; intro w hS
            refine hK18 _ _ ?_
            refine cw_ret ?_
            refine ret_two (fn := Try.f29) (n := 60) (t := 6) (u := 7) (.inl rfl) rfl rfl rfl ?_
            exact ⟨[_], ⟨_, _, (by rw [hok] <;> rfl), rfl, (by rw [hok]; exact Own.lits (xs := pagesB (allP no v cs)) rfl rfl rfl (by decide))⟩, hS⟩
/-! reading -/
def noR (s : List UInt8) : Int := getB (cutB s 0 4)
def vR (s : List UInt8) : Int := getB (cutB s 4 8)
def cellR (s : List UInt8) (k : Nat) : Int := getB (cutB s (4 * (2 + k)) (4 * (2 + k) + 4))
def cellsR (s : List UInt8) : List Int := (List.range 16).map (cellR s)
def getOkP (l : List (List UInt8)) : Bool := decide (l.length = 3 ∧ l.flatten.length = 96) && (okPg (noR l.flatten) (vR l.flatten) (cellsR l.flatten) && decide (pagesB (allP (noR l.flatten) (vR l.flatten) (cellsR l.flatten)) = l))
theorem page_Get1 (l : List UInt8) (k q : Nat) (hk : 4 * k + 4 ≤ l.length) (hl : l.length ≤ 1000) :
    Fn Try.prog 82 [.int .i64 (k : Int), .pointer (some ⟨q, 0, none⟩)] [[(q, .cells [str l].toArray 9 (0, 0))]]
      (fun v Δ => v = .int .i64 (getB (cutB l (4 * k) (4 * k + 4)) : Int) ∧ Δ = [[(q, .cells [str l].toArray 9 (0, 0))]]) := by
  refine Fn.mk fun E F w hS => ?_
  simp only [List.cons_append, List.nil_append] at hS
  have hcl : (cutB l (4 * k) (4 * k + 4)).length ≤ 1000 := by rw [cutB, List.length_drop, List.length_take]; omega
  refine returns_enter Try.func82 rfl Try.ntmps82 rfl ?_
  refine cw_seq fun K1 hK1 => ?_
  refine cw_region ?_
  refine wl_op rfl rfl (ow_vr (vr_assign (v := .int .i64 0) rfl) ?_)
  refine wl_nil ?_
  refine hK1 _ _ ?_
  refine cw_seq fun K2 hK2 => ?_
  refine cw_region ?_
  refine wl_op rfl rfl (ow_lr (S := Sat _ _) (lr_load1 Try.underlying9 rfl rfl (by first | exact Has.here | exact Has.there (Has.here) | exact Has.there (Has.there (Has.here)) | exact Has.there (Has.there (Has.there (Has.here))) | exact Has.there (Has.there (Has.there (Has.there (Has.here)))) | exact Has.there (Has.there (Has.there (Has.there (Has.there (Has.here))))) | exact Has.there (Has.there (Has.there (Has.there (Has.there (Has.there (Has.here)))))) | exact Has.there (Has.there (Has.there (Has.there (Has.there (Has.there (Has.there (Has.here)))))))) rfl) hS ?_)
  refine wl_op rfl rfl (ow_vr (vr_move (v := .int .i64 _) rfl) ?_)
  refine wl_op rfl rfl (ow_vr (vr_as (vr_muli rfl rfl (by unfold inI64; omega)) (congrArg (Value.int .i64) (show (4 : Int) * (k : Int) = ((4 * k : Nat) : Int) by omega))) ?_)
  refine wl_op rfl rfl (ow_vr (vr_move (v := .int .i64 _) rfl) ?_)
  first | (refine wl_op rfl rfl (ow_vr (vr_muli rfl rfl (by unfold inI64; omega)) ?_)) | (refine wl_op rfl rfl (ow_vr (vr_mul rfl rfl) ?_))
  refine wl_op rfl rfl (ow_vr (vr_as (vr_addi rfl rfl (by unfold inI64; omega)) (congrArg (Value.int .i64) (show (4 : Int) * (k : Int) + 4 = ((4 * k + 4 : Nat) : Int) by omega))) ?_)
  refine wl_op rfl rfl (ow_vr (vr_as (v' := str (cutB l (4 * k) (4 * k + 4))) (vr_slice_mid (l := l) (a := 4 * k) (h := 4 * k + 4) Try.underlying9 rfl rfl rfl (by omega) (by omega)) rfl) ?_)
  refine wl_op rfl rfl (ow_fn (vs := [str _]) en_47 rfl hS (seal_Get (cutB l (4 * k) (4 * k + 4)) (by omega)) ?_)
  clear hS; rintro _ _ w ⟨rfl, rfl⟩ hS; (try simp only [List.cons_append, List.nil_append] at hS)
  refine wl_op rfl rfl (ow_vr (vr_assign (v := .int .i64 _) rfl) ?_)
  refine wl_nil ?_
  refine hK2 _ _ ?_
  refine cw_ret ?_
  refine ret_one (fn := Try.f82) (n := 12) (t := 3) (.inl rfl) rfl rfl ?_
  exact ⟨_, ⟨rfl, rfl⟩, hS⟩
theorem rangeR_snoc (s : List UInt8) (k : Nat) : (List.range (k + 1)).map (cellR s) = (List.range k).map (cellR s) ++ [cellR s k] := by rw [List.range_succ, List.map_append]; rfl
theorem take_ne {α : Type} {a b : List α} (k : Nat) (h : a.take k ≠ b.take k) : a ≠ b := fun e => h (by rw [e])
theorem page_Get (l : List (List UInt8)) (vl : Value) (Δl : Chunk) (hv : View 1 encS vl l Δl) (hll : l.length ≤ 1000000) (hlf : l.flatten.length ≤ 1000000) :
    FnG Try.prog 33 [vl] [Δl] (fun u Δs => ∃ v' D, u = .tuple #[.int .i64 (if getOkP l then noR l.flatten else 0), .int .i64 (if getOkP l then vR l.flatten else 0), v', .bool (getOkP l)] ∧ Δs = [D] ∧ Own 3 1 encI v' (if getOkP l then cellsR l.flatten else []) D) := by
  refine FnG.mk fun E F w hS hF => ?_
  have hFl : Δl ∈ F := hF _ (by simp)
  refine returns_enter Try.func33 rfl Try.ntmps33 rfl ?_
  refine cw_seq fun K1 hK1 => ?_
  refine cw_region ?_
  refine wl_op rfl rfl (ow_vr (vr_assign (v := .int .i64 0) rfl) ?_)
  refine wl_op rfl rfl (ow_vr (vr_assign (v := .int .i64 0) rfl) ?_)
  refine wl_op rfl rfl (ow_vr (vr_assign (v := .slice none 0 0) rfl) ?_)
  refine wl_op rfl rfl (ow_vr (vr_assign (v := .bool false) rfl) ?_)
  refine wl_nil ?_
  refine hK1 _ _ ?_
  refine cw_seq fun K2 hK2 => ?_
  refine cw_region ?_
  refine wl_op rfl rfl (ow_vr (vr_move (v := vl) rfl) ?_)
  refine wl_op rfl rfl (ow_fng (vs := [vl, str _]) en_81 rfl hS (strings_Join l _ _ hv hlf hll) (by repeat (first | exact needs0 | (refine needsC ?_ ?_; · (repeat (first | exact List.mem_cons_self | assumption | refine List.mem_cons_of_mem _ ?_))))) ?_)
  clear hS; rintro v14 _ w ⟨rfl, rfl⟩ hS; (try simp only [List.cons_append, List.nil_append] at hS)
  refine wl_op rfl rfl (ow_alloc (cs := [_]) hS zr_9 rfl ?_)
  clear hS; intro b6 w hS
  refine wl_op rfl rfl (ow_store1 (v := str _) hS sz_9 rfl rfl (by first | rfl | exact Own.isOne (by assumption)) (by first | exact Has.here | exact Has.there (Has.here) | exact Has.there (Has.there (Has.here)) | exact Has.there (Has.there (Has.there (Has.here))) | exact Has.there (Has.there (Has.there (Has.there (Has.here)))) | exact Has.there (Has.there (Has.there (Has.there (Has.there (Has.here))))) | exact Has.there (Has.there (Has.there (Has.there (Has.there (Has.there (Has.here)))))) | exact Has.there (Has.there (Has.there (Has.there (Has.there (Has.there (Has.there (Has.here)))))))) (by simp) ?_)
  clear hS; intro w hS; try simp only [List.set_cons_zero, List.set_cons_succ] at hS
  refine wl_nil ?_
  refine hK2 _ _ ?_
  refine cw_seq fun K3 hK3 => ?_
  refine cw_seq fun K4 hK4 => ?_
  refine cw_region ?_
  refine wl_op rfl rfl (ow_vr (vr_move (v := vl) rfl) ?_)
  first | (refine wl_op rfl rfl (ow_vr (vr_len_sl Try.underlying57 rfl) ?_)) | (refine wl_op rfl rfl (ow_vr (vr_len_v (v := vl) Try.underlying57 rfl (by first | assumption | (refine Own.view ?_ (by assumption); exact fun _ => rfl) | exact OwnB.view (by assumption))) ?_))
  refine wl_op rfl rfl (ow_vr (vr_neq rfl rfl) ?_)
  refine wl_op rfl rfl (ow_vr (vr_move (v := .bool _) rfl) ?_)
  refine wl_split 18 rfl (fun hc => ?_) (fun hc => ?_)
  · (try simp only [decide_eq_true_eq, decide_eq_false_iff_not, Bool.not_eq_true, Bool.not_eq_false, Bool.not_eq_true', Bool.not_eq_false', Bool.and_eq_true, Bool.or_eq_true, Bool.and_eq_false_iff, Bool.or_eq_false_iff, Int.not_lt, Int.not_le, gt_iff_lt, ge_iff_le, ne_eq, Decidable.not_not, beq_iff_eq] at hc)
    have hg18 := hc; clear hc
    refine wl_noD rfl rfl rfl rfl rfl rfl ?_
    refine wl_noD rfl rfl rfl rfl rfl rfl ?_
    refine wl_noD rfl rfl rfl rfl rfl rfl ?_
    refine wl_op rfl rfl (ow_vr (vr_pick (b := true) (v := .bool _) rfl rfl) ?_)
    refine wl_nil ?_
    refine hK4 _ _ ?_
    refine cw_cond_t rfl rfl (rfl) ?_
    refine cw_seq fun K5 hK5 => ?_
    have hno : getOkP l = false := by rw [getOkP, decide_eq_false (by omega)]; rfl
    replace hS := Sat.nilc.2 hS.tail1
    refine cw_region ?_
    refine wl_op rfl rfl (ow_vr (vr_assign (v := .int .i64 0) rfl) ?_)
    refine wl_op rfl rfl (ow_vr (vr_assign (v := .int .i64 0) rfl) ?_)
    refine wl_op rfl rfl (ow_vr (vr_assign (v := .slice none 0 0) rfl) ?_)
    refine wl_op rfl rfl (ow_vr (vr_assign (v := .bool false) rfl) ?_)
    refine wl_nil ?_
    refine hK5 _ _ ?_
    refine cw_ret ?_
    refine thenF_ret (?_)
    refine ret_four (fn := Try.f33) (n := 67) (t := 2) (u := 3) (v := 4) (x := 5) (.inl rfl) rfl rfl rfl rfl rfl ?_
    exact ⟨[[]], ⟨.slice none 0 0, [], (by rw [hno] <;> rfl), rfl, (by rw [hno]; exact Own.nil)⟩, hS⟩
  · (try simp only [decide_eq_true_eq, decide_eq_false_iff_not, Bool.not_eq_true, Bool.not_eq_false, Bool.not_eq_true', Bool.not_eq_false', Bool.and_eq_true, Bool.or_eq_true, Bool.and_eq_false_iff, Bool.or_eq_false_iff, Int.not_lt, Int.not_le, gt_iff_lt, ge_iff_le, ne_eq, Decidable.not_not, beq_iff_eq] at hc)
    have hg18 := hc; clear hc
    refine wl_yes rfl rfl rfl rfl rfl (ow_lr (S := Sat _ _) (lr_load1 Try.underlying9 rfl rfl (by first | exact Has.here | exact Has.there (Has.here) | exact Has.there (Has.there (Has.here)) | exact Has.there (Has.there (Has.there (Has.here))) | exact Has.there (Has.there (Has.there (Has.there (Has.here)))) | exact Has.there (Has.there (Has.there (Has.there (Has.there (Has.here))))) | exact Has.there (Has.there (Has.there (Has.there (Has.there (Has.there (Has.here)))))) | exact Has.there (Has.there (Has.there (Has.there (Has.there (Has.there (Has.there (Has.here)))))))) rfl) hS ?_)
    refine wl_yes rfl rfl rfl rfl rfl (ow_vr (vr_len_s Try.underlying9 rfl) ?_)
    refine wl_yes rfl rfl rfl rfl rfl (ow_vr (vr_neq rfl rfl) ?_)
    refine wl_op rfl rfl (ow_vr (vr_pick (b := false) (v := .bool _) rfl rfl) ?_)
    refine wl_nil ?_
    refine hK4 _ _ ?_
    refine cw_cond rfl rfl (fun hc => ?_) (fun hc => ?_)
    · (try simp only [decide_eq_true_eq, decide_eq_false_iff_not, Bool.not_eq_true, Bool.not_eq_false, Bool.not_eq_true', Bool.not_eq_false', Bool.and_eq_true, Bool.or_eq_true, Bool.and_eq_false_iff, Bool.or_eq_false_iff, Int.not_lt, Int.not_le, gt_iff_lt, ge_iff_le, ne_eq, Decidable.not_not, beq_iff_eq] at hc)
      have hc0 := hc; clear hc
      refine cw_seq fun K6 hK6 => ?_
      have hno : getOkP l = false := by rw [getOkP, decide_eq_false (by omega)]; rfl
      replace hS := Sat.nilc.2 hS.tail1
      refine cw_region ?_
      refine wl_op rfl rfl (ow_vr (vr_assign (v := .int .i64 0) rfl) ?_)
      refine wl_op rfl rfl (ow_vr (vr_assign (v := .int .i64 0) rfl) ?_)
      refine wl_op rfl rfl (ow_vr (vr_assign (v := .slice none 0 0) rfl) ?_)
      refine wl_op rfl rfl (ow_vr (vr_assign (v := .bool false) rfl) ?_)
      refine wl_nil ?_
      refine hK6 _ _ ?_
      refine cw_ret ?_
      refine thenF_ret (?_)
      refine ret_four (fn := Try.f33) (n := 67) (t := 2) (u := 3) (v := 4) (x := 5) (.inl rfl) rfl rfl rfl rfl rfl ?_
      exact ⟨[[]], ⟨.slice none 0 0, [], (by rw [hno] <;> rfl), rfl, (by rw [hno]; exact Own.nil)⟩, hS⟩
    · (try simp only [decide_eq_true_eq, decide_eq_false_iff_not, Bool.not_eq_true, Bool.not_eq_false, Bool.not_eq_true', Bool.not_eq_false', Bool.and_eq_true, Bool.or_eq_true, Bool.and_eq_false_iff, Bool.or_eq_false_iff, Int.not_lt, Int.not_le, gt_iff_lt, ge_iff_le, ne_eq, Decidable.not_not, beq_iff_eq] at hc)
      have hc0 := hc; clear hc
      refine cw_skip ?_
      refine hK3 _ _ ?_
      refine cw_seq fun K7 hK7 => ?_
      have hl3 : l.length = 3 := by omega
      have hl96 : l.flatten.length = 96 := by omega
      obtain ⟨s, hs⟩ : ∃ s, l.flatten = s := ⟨_, rfl⟩
      rw [hs] at hS hl96
      have hg := fun k hk => page_Get1 s k b6 hk (by omega)
      refine cw_region ?_
      refine wl_op rfl rfl (ow_vr (vr_makeFunc rfl rfl) ?_)
      refine wl_op rfl rfl (ow_vr (vr_assign rfl) ?_)
      refine wl_nil ?_
      refine hK7 _ _ ?_
      refine cw_seq fun K8 hK8 => ?_
      refine cw_region ?_
      refine wl_op rfl rfl (ow_vr (vr_assign (v := .slice none 0 0) rfl) ?_)
      refine wl_nil ?_
      refine hK8 _ _ ?_
      refine cw_seq fun K9 hK9 => ?_
      refine cw_seq fun K10 hK10 => ?_
      replace hS := (Sat.nilc.2 hS).front1
      refine cw_region ?_
      refine wl_op rfl rfl (ow_vr (vr_move (v := .int .i64 0) rfl) ?_)
      refine wl_nil ?_
      refine hK10 _ _ ?_
      refine cw_block ?_
      refine cw_loop (fun m f w => ∃ (k : Nat) (v8 : Value) (D8 : Chunk) (g : Nat → Value), f = (upd (upd (upd (upd g 0 (vl)) 7 (.func (.func 82) #[] #[.pointer (some ⟨b6, 0, none⟩)])) 8 (v8)) 24 (.int .i64 (k : Int))) ∧ (k ≤ 16 ∧ Own 3 1 encI v8 ((List.range k).map (cellR s)) D8) ∧ m = 16 - k ∧ Sat E ([(b6, .cells [str s].toArray 9 (0, 0))] :: D8 :: F) w) ⟨0, .slice none 0 0, [], _, (reb (reb (reb (reb rfl rfl) rfl) rfl) rfl), ?_, rfl, hS⟩ ?_
      · exact ⟨by omega, Own.nil⟩
      clear hS; rintro m f w ⟨k, v8, D8, g, rfl, hI0, rfl, hS⟩
      obtain ⟨hk, ho8⟩ := hI0
      refine cw_seq fun K11 hK11 => ?_
      refine cw_region ?_
      refine wl_op rfl rfl (ow_vr (vr_lss rfl rfl) ?_)
      refine wl_nil ?_
      refine hK11 _ _ ?_
      refine cw_seq fun K12 hK12 => ?_
      refine cw_cond rfl rfl (fun hc => ?_) (fun hc => ?_)
      · (try simp only [decide_eq_true_eq, decide_eq_false_iff_not, Bool.not_eq_true, Bool.not_eq_false, Bool.not_eq_true', Bool.not_eq_false', Bool.and_eq_true, Bool.or_eq_true, Bool.and_eq_false_iff, Bool.or_eq_false_iff, Int.not_lt, Int.not_le, gt_iff_lt, ge_iff_le, ne_eq, Decidable.not_not, beq_iff_eq] at hc)
        have hc1 := hc; clear hc
        refine cw_skip ?_
        refine hK12 _ _ ?_
        refine cw_seq fun K13 hK13 => ?_
        refine cw_block ?_
        refine cw_seq fun K14 hK14 => ?_
        refine cw_region ?_
        refine wl_op rfl rfl (ow_vr (vr_move (v := .int .i64 (k : Int)) rfl) ?_)
        refine wl_op rfl rfl (ow_vr (vr_assign (v := .int .i64 (k : Int)) rfl) ?_)
        refine wl_nil ?_
        refine hK14 _ _ ?_
        refine cw_region ?_
        refine wl_op rfl rfl (ow_vr (vr_move (v := v8) rfl) ?_)
        refine wl_op rfl rfl (ow_vr (vr_move (v := .func (.func 82) #[] #[.pointer (some ⟨b6, 0, none⟩)]) rfl) ?_)
        refine wl_op rfl rfl (ow_vr (vr_move (v := .int .i64 (k : Int)) rfl) ?_)
        refine wl_op rfl rfl (ow_vr (vr_as (vr_addi rfl rfl (by unfold inI64; omega)) (congrArg (Value.int .i64) (show (2 : Int) + (k : Int) = ((2 + k : Nat) : Int) by omega))) ?_)
        refine wl_op rfl rfl (ow_fnv en_82 rfl rfl hS (hg (2 + k) (by omega)) ?_)
        clear hS; rintro _ _ w ⟨rfl, rfl⟩ hS; (try simp only [List.cons_append, List.nil_append] at hS)
        refine wl_op rfl rfl (ow_buildSliceD (m := 1) (len := 1) (vs := [.int .i64 _]) (cs := [.int .i64 _]) hS Try.underlying55 if_3 rfl (by decide) (by decide) rfl rfl (by simp [Value.cells]) rfl ?_)
        clear hS; intro b32 w hS
        refine wl_op rfl rfl (ow_append (v := v8) hS Try.underlying55 Try.underlying55 if_3 rfl (by decide) rfl rfl (by assumption) (View.single (x := cellR s k) rfl rfl (by decide)) (by first | exact HasC.here | exact HasC.there (HasC.here) | exact HasC.there (HasC.there (HasC.here)) | exact HasC.there (HasC.there (HasC.there (HasC.here))) | exact HasC.there (HasC.there (HasC.there (HasC.there (HasC.here)))) | exact HasC.there (HasC.there (HasC.there (HasC.there (HasC.there (HasC.here))))) | exact HasC.there (HasC.there (HasC.there (HasC.there (HasC.there (HasC.there (HasC.here)))))) | exact HasC.there (HasC.there (HasC.there (HasC.there (HasC.there (HasC.there (HasC.there (HasC.here))))))) | exact HasC.there (HasC.there (HasC.there (HasC.there (HasC.there (HasC.there (HasC.there (HasC.there (HasC.here))))))))) (by repeat (first | exact List.mem_cons_self | assumption | refine List.mem_cons_of_mem _ ?_)) (by exact fun _ => rfl) (by exact fun _ => rfl) (by simp [maxLen] <;> omega) (by simp [maxLen] <;> omega) ?_)
        clear hS; intro v33 D33 w ho33 hS
        refine wl_op rfl rfl (ow_vr (vr_assign (v := v33) rfl) ?_)
        refine wl_nil ?_
        replace hS := hS.tail1
        refine hK13 _ _ ?_
        refine cw_region ?_
        first | (refine wl_op rfl rfl (ow_vr (vr_addi rfl rfl (by unfold inI64; omega)) ?_)) | (refine wl_op rfl rfl (ow_vr (vr_add rfl rfl) ?_))
        refine wl_op rfl rfl (ow_vr (vr_move (v := .int .i64 _) rfl) ?_)
        refine wl_nil ?_
        refine thenF_normal ⟨_, ?_, k + 1, v33, D33, _, (reb (reb (reb (reb rfl rfl) rfl) rfl) rfl), ?_, rfl, hS⟩
        · omega
        · exact ⟨by omega, by rw [rangeR_snoc]; exact ho33⟩
      · (try simp only [decide_eq_true_eq, decide_eq_false_iff_not, Bool.not_eq_true, Bool.not_eq_false, Bool.not_eq_true', Bool.not_eq_false', Bool.and_eq_true, Bool.or_eq_true, Bool.and_eq_false_iff, Bool.or_eq_false_iff, Int.not_lt, Int.not_le, gt_iff_lt, ge_iff_le, ne_eq, Decidable.not_not, beq_iff_eq] at hc)
        have hc1 := hc; clear hc
        refine cw_exit ?_
        refine hK9 _ _ ?_
        refine cw_seq fun K15 hK15 => ?_
        obtain rfl : k = 16 := by omega
        replace ho8 : Own 3 1 encI v8 (cellsR s) D8 := ho8
        refine cw_region ?_
        refine wl_op rfl rfl (ow_vr (vr_move (v := .func (.func 82) #[] #[.pointer (some ⟨b6, 0, none⟩)]) rfl) ?_)
        refine wl_op rfl rfl (ow_fnv en_82 rfl rfl hS (hg 0 (by omega)) ?_)
        clear hS; rintro _ _ w ⟨rfl, rfl⟩ hS; (try simp only [List.cons_append, List.nil_append] at hS)
        refine wl_op rfl rfl (ow_vr (vr_move (v := .func (.func 82) #[] #[.pointer (some ⟨b6, 0, none⟩)]) rfl) ?_)
        refine wl_op rfl rfl (ow_fnv en_82 rfl rfl hS (hg 1 (by omega)) ?_)
        clear hS; rintro _ _ w ⟨rfl, rfl⟩ hS; (try simp only [List.cons_append, List.nil_append] at hS)
        refine wl_op rfl rfl (ow_vr (vr_move (v := v8) rfl) ?_)
        refine wl_op rfl rfl (ow_fng (vs := [.int .i64 _, .int .i64 _, v8]) en_28 rfl hS (page_Put (noR s) (vR s) (cellsR s) _ _ (ho8.view fun _ => rfl)) (by repeat (first | exact needs0 | (refine needsC ?_ ?_; · (repeat (first | exact List.mem_cons_self | assumption | refine List.mem_cons_of_mem _ ?_))))) ?_)
        clear hS; rintro v41 _ w ⟨v10, D10, rfl, rfl, ho10⟩ hS; (try simp only [List.cons_append, List.nil_append] at hS)
        refine wl_op rfl rfl (ow_vr (vr_move (v := .tuple _) rfl) ?_)
        refine wl_op rfl rfl (ow_vr (vr_extract (v := v10) rfl rfl) ?_)
        refine wl_op rfl rfl (ow_vr (vr_extract (v := .bool _) rfl rfl) ?_)
        refine wl_op rfl rfl (ow_vr (vr_assign (v := v10) rfl) ?_)
        refine wl_op rfl rfl (ow_vr (vr_assign (v := .bool _) rfl) ?_)
        refine wl_nil ?_
        obtain ⟨pg, hpg⟩ : ∃ pg, (if okPg (noR s) (vR s) (cellsR s) then pagesB (allP (noR s) (vR s) (cellsR s)) else []) = pg := ⟨_, rfl⟩
        rw [hpg] at ho10
        have hpl : okPg (noR s) (vR s) (cellsR s) = true → pg.length = 3 := fun h => by rw [← hpg, h]; rfl
        refine hK15 _ _ ?_
        refine cw_seq fun K16 hK16 => ?_
        refine cw_seq fun K17 hK17 => ?_
        refine cw_region ?_
        refine wl_op rfl rfl (ow_vr (vr_assign (v := .int .i64 0) rfl) ?_)
        refine wl_nil ?_
        refine hK17 _ _ ?_
        refine cw_block ?_
        refine cw_loop (fun m f w => ∃ (i : Nat) (ok : Bool) (g : Nat → Value), f = (upd (upd (upd (upd (upd (upd g 0 (vl)) 7 (.func (.func 82) #[] #[.pointer (some ⟨b6, 0, none⟩)])) 8 (v8)) 10 (v10)) 11 (.bool ok)) 12 (.int .i64 (i : Int))) ∧ (i ≤ 3 ∧ ok = decide (okPg (noR s) (vR s) (cellsR s) = true ∧ pg.take i = l.take i)) ∧ m = 3 - i ∧ Sat E (D10 :: [(b6, .cells [str s].toArray 9 (0, 0))] :: D8 :: F) w) ⟨0, _, _, (reb (reb (reb (reb (reb (reb rfl rfl) rfl) rfl) rfl) rfl) rfl), ?_, rfl, hS⟩ ?_
        · exact ⟨by omega, by simp⟩
        clear hS; rintro m f w ⟨i, ok, g, rfl, hI1, rfl, hS⟩
        obtain ⟨hi, hokd⟩ := hI1
        refine cw_seq fun K18 hK18 => ?_
        refine cw_seq fun K19 hK19 => ?_
        refine cw_region ?_
        refine wl_op rfl rfl (ow_vr (vr_move (v := .bool ok) rfl) ?_)
        refine wl_op rfl rfl (ow_vr (vr_move (v := .bool ok) rfl) ?_)
        refine wl_split 45 rfl (fun hc => ?_) (fun hc => ?_)
        · (try simp only [decide_eq_true_eq, decide_eq_false_iff_not, Bool.not_eq_true, Bool.not_eq_false, Bool.not_eq_true', Bool.not_eq_false', Bool.and_eq_true, Bool.or_eq_true, Bool.and_eq_false_iff, Bool.or_eq_false_iff, Int.not_lt, Int.not_le, gt_iff_lt, ge_iff_le, ne_eq, Decidable.not_not, beq_iff_eq] at hc)
          have hok := hc; clear hc
          refine wl_yes rfl rfl rfl rfl rfl (ow_vr (vr_move (v := .int .i64 (i : Int)) rfl) ?_)
          refine wl_yes rfl rfl rfl rfl rfl (ow_vr (vr_lss rfl rfl) ?_)
          refine wl_op rfl rfl (ow_vr (vr_pick (b := true) (v := .bool _) rfl rfl) ?_)
          refine wl_nil ?_
          refine hK19 _ _ ?_
          refine cw_cond rfl rfl (fun hc => ?_) (fun hc => ?_)
          · (try simp only [decide_eq_true_eq, decide_eq_false_iff_not, Bool.not_eq_true, Bool.not_eq_false, Bool.not_eq_true', Bool.not_eq_false', Bool.and_eq_true, Bool.or_eq_true, Bool.and_eq_false_iff, Bool.or_eq_false_iff, Int.not_lt, Int.not_le, gt_iff_lt, ge_iff_le, ne_eq, Decidable.not_not, beq_iff_eq] at hc)
            have hc2 := hc; clear hc
            refine cw_skip ?_
            refine hK18 _ _ ?_
            refine cw_seq fun K20 hK20 => ?_
            refine cw_block ?_
            obtain ⟨hpk, htk⟩ : okPg (noR s) (vR s) (cellsR s) = true ∧ pg.take i = l.take i := by rw [hok] at hokd; simpa using hokd
            have hpl3 := hpl hpk
            obtain ⟨x, hx⟩ := get_lt (xs := pg) (k := i) (by omega)
            obtain ⟨y, hy⟩ := get_lt (xs := l) (k := i) (by omega)
            refine cw_draw_sat hS [(0, 0), (1, 0), (2, 0), (3, 1), (4, 0), (5, 0), (6, 0), (7, 1), (8, 0), (9, 0)] mixed (planFast_ok (by kernel_rfl)) (by rintro _ _ _ ⟨⟩) ?_
            clear hS; intro w hS
            refine pl_take rfl (yes_none rfl) (vr_move (v := v10) rfl) ?_
            refine pl_take rfl (yes_none rfl) (vr_move (v := .int .i64 (i : Int)) rfl) ?_
            first | (refine pl_take rfl (yes_none rfl) (vr_indexAddr Try.underlying57 sz_9 rfl rfl (by omega) (by omega)) ?_) | (refine pl_take rfl (yes_none rfl) (vr_indexV (v := v10) Try.underlying57 sz_9 rfl (by first | assumption | (refine Own.view ?_ (by assumption); exact fun _ => rfl) | exact OwnB.view (by assumption)) rfl (by omega) (by first | omega | (simp <;> omega))) ?_)
            refine pl_load rfl (yes_none rfl) (lr_loadV1 (u := str _) Try.underlying9 rfl rfl (ho10.view fun _ => rfl) (by repeat (first | exact List.mem_cons_self | assumption | refine List.mem_cons_of_mem _ ?_)) (hx) (by exact fun _ => rfl) (by rfl)) ?_
            refine pl_take rfl (yes_none rfl) (vr_move (v := vl) rfl) ?_
            refine pl_take rfl (yes_none rfl) (vr_move (v := .int .i64 (i : Int)) rfl) ?_
            first | (refine pl_take rfl (yes_none rfl) (vr_indexAddr Try.underlying57 sz_9 rfl rfl (by omega) (by omega)) ?_) | (refine pl_take rfl (yes_none rfl) (vr_indexV (v := vl) Try.underlying57 sz_9 rfl (by first | assumption | (refine Own.view ?_ (by assumption); exact fun _ => rfl) | exact OwnB.view (by assumption)) rfl (by omega) (by first | omega | (simp <;> omega))) ?_)
            refine pl_load rfl (yes_none rfl) (lr_loadV1 (u := str _) Try.underlying9 rfl rfl hv (by repeat (first | exact List.mem_cons_self | assumption | refine List.mem_cons_of_mem _ ?_)) (hy) (by exact fun _ => rfl) (by rfl)) ?_
            refine pl_take rfl (yes_none rfl) (vr_eql_s rfl rfl) ?_
            refine pl_take rfl (yes_none rfl) (vr_assign (v := .bool _) rfl) ?_
            refine pl_nil hS ?_
            clear hS; intro w hS
            refine hK20 _ _ ?_
            refine cw_region ?_
            refine wl_op rfl rfl (ow_vr (vr_move (v := .int .i64 (i : Int)) rfl) ?_)
            first | (refine wl_op rfl rfl (ow_vr (vr_addi rfl rfl (by unfold inI64; omega)) ?_)) | (refine wl_op rfl rfl (ow_vr (vr_add rfl rfl) ?_))
            refine wl_op rfl rfl (ow_vr (vr_assign (v := .int .i64 _) rfl) ?_)
            refine wl_nil ?_
            refine thenF_normal ⟨_, ?_, i + 1, decide (x = y), _, (reb (reb (reb (reb (reb (reb rfl rfl) rfl) rfl) rfl) rfl) rfl), ?_, rfl, hS⟩
            · omega
            · refine ⟨by omega, ?_⟩; rw [take_snoc hx, take_snoc hy, Bool.eq_iff_iff, decide_eq_true_eq, decide_eq_true_eq]; exact ⟨fun e => ⟨hpk, by rw [htk, e]⟩, fun h => by have := h.2; rw [htk] at this; simpa using this⟩
          · (try simp only [decide_eq_true_eq, decide_eq_false_iff_not, Bool.not_eq_true, Bool.not_eq_false, Bool.not_eq_true', Bool.not_eq_false', Bool.and_eq_true, Bool.or_eq_true, Bool.and_eq_false_iff, Bool.or_eq_false_iff, Int.not_lt, Int.not_le, gt_iff_lt, ge_iff_le, ne_eq, Decidable.not_not, beq_iff_eq] at hc)
            have hc2 := hc; clear hc
            refine cw_exit ?_
            refine hK16 _ _ ?_
            refine cw_seq fun K21 hK21 => ?_
            refine cw_seq fun K22 hK22 => ?_
            refine cw_region ?_
            refine wl_op rfl rfl (ow_vr (vr_move (v := .bool ok) rfl) ?_)
            refine wl_op rfl rfl (ow_vr (vr_not rfl) ?_)
            refine wl_nil ?_
            refine hK22 _ _ ?_
            refine cw_cond rfl rfl (fun hc => ?_) (fun hc => ?_)
            · (try simp only [decide_eq_true_eq, decide_eq_false_iff_not, Bool.not_eq_true, Bool.not_eq_false, Bool.not_eq_true', Bool.not_eq_false', Bool.and_eq_true, Bool.or_eq_true, Bool.and_eq_false_iff, Bool.or_eq_false_iff, Int.not_lt, Int.not_le, gt_iff_lt, ge_iff_le, ne_eq, Decidable.not_not, beq_iff_eq] at hc)
              have hc3 := hc; clear hc
              refine cw_seq fun K23 hK23 => ?_
              have hno : getOkP l = false := by cases hgo : getOkP l with | false => rfl | true => simp only [getOkP, hs, Bool.and_eq_true, decide_eq_true_eq] at hgo; rw [hgo.2.1, if_pos rfl] at hpg; rw [hpg] at hgo; simp_all
              replace hS := Sat.nilc.2 hS.tail1.tail1.tail1
              refine cw_region ?_
              refine wl_op rfl rfl (ow_vr (vr_assign (v := .int .i64 0) rfl) ?_)
              refine wl_op rfl rfl (ow_vr (vr_assign (v := .int .i64 0) rfl) ?_)
              refine wl_op rfl rfl (ow_vr (vr_assign (v := .slice none 0 0) rfl) ?_)
              refine wl_op rfl rfl (ow_vr (vr_assign (v := .bool false) rfl) ?_)
              refine wl_nil ?_
              refine hK23 _ _ ?_
              refine cw_ret ?_
              refine thenF_ret (?_)
              refine ret_four (fn := Try.f33) (n := 67) (t := 2) (u := 3) (v := 4) (x := 5) (.inl rfl) rfl rfl rfl rfl rfl ?_
              exact ⟨[[]], ⟨.slice none 0 0, [], (by rw [hno] <;> rfl), rfl, (by rw [hno]; exact Own.nil)⟩, hS⟩
            · (try simp only [decide_eq_true_eq, decide_eq_false_iff_not, Bool.not_eq_true, Bool.not_eq_false, Bool.not_eq_true', Bool.not_eq_false', Bool.and_eq_true, Bool.or_eq_true, Bool.and_eq_false_iff, Bool.or_eq_false_iff, Int.not_lt, Int.not_le, gt_iff_lt, ge_iff_le, ne_eq, Decidable.not_not, beq_iff_eq] at hc)
              have hc3 := hc; clear hc
              refine cw_skip ?_
              refine hK21 _ _ ?_
              refine cw_seq fun K24 hK24 => ?_
              have hd : okPg (noR s) (vR s) (cellsR s) = true ∧ pg.take i = l.take i := by simp_all
              have hi3 : i = 3 := by first | omega | (exfalso; simp_all; done)
              have hpe : pg = l := by have h2 := hd.2; rw [hi3, List.take_of_length_le (by have := hpl hd.1; omega), List.take_of_length_le (by omega)] at h2; exact h2
              have hgo : getOkP l = true := by simp only [getOkP, hs, Bool.and_eq_true, decide_eq_true_eq]; refine ⟨⟨hl3, hl96⟩, hd.1, ?_⟩; rw [hd.1, if_pos rfl] at hpg; rw [hpg, hpe]
              replace hS := hS.front1
              refine cw_region ?_
              refine wl_op rfl rfl (ow_vr (vr_move (v := .func (.func 82) #[] #[.pointer (some ⟨b6, 0, none⟩)]) rfl) ?_)
              refine wl_op rfl rfl (ow_fnv en_82 rfl rfl hS (hg 0 (by omega)) ?_)
              clear hS; rintro _ _ w ⟨rfl, rfl⟩ hS; (try simp only [List.cons_append, List.nil_append] at hS)
              refine wl_op rfl rfl (ow_vr (vr_move (v := .func (.func 82) #[] #[.pointer (some ⟨b6, 0, none⟩)]) rfl) ?_)
              refine wl_op rfl rfl (ow_fnv en_82 rfl rfl hS (hg 1 (by omega)) ?_)
              clear hS; rintro _ _ w ⟨rfl, rfl⟩ hS; (try simp only [List.cons_append, List.nil_append] at hS)
              refine wl_op rfl rfl (ow_vr (vr_move (v := v8) rfl) ?_)
              refine wl_op rfl rfl (ow_vr (vr_assign (v := .int .i64 _) rfl) ?_)
              refine wl_op rfl rfl (ow_vr (vr_assign (v := .int .i64 _) rfl) ?_)
              refine wl_op rfl rfl (ow_vr (vr_assign (v := v8) rfl) ?_)
              refine wl_op rfl rfl (ow_vr (vr_assign (v := .bool true) rfl) ?_)
              refine wl_nil ?_
              refine hK24 _ _ ?_
              refine cw_ret ?_
              refine ret_four (fn := Try.f33) (n := 67) (t := 2) (u := 3) (v := 4) (x := 5) (.inl rfl) rfl rfl rfl rfl rfl ?_
              exact ⟨[D8], ⟨v8, D8, (by rw [hgo, hs] <;> rfl), rfl, (by rw [hgo, hs]; exact ho8)⟩, hS.tail1.tail1⟩
        · (try simp only [decide_eq_true_eq, decide_eq_false_iff_not, Bool.not_eq_true, Bool.not_eq_false, Bool.not_eq_true', Bool.not_eq_false', Bool.and_eq_true, Bool.or_eq_true, Bool.and_eq_false_iff, Bool.or_eq_false_iff, Int.not_lt, Int.not_le, gt_iff_lt, ge_iff_le, ne_eq, Decidable.not_not, beq_iff_eq] at hc)
          have hok := hc; clear hc
          refine wl_noD rfl rfl rfl rfl rfl rfl ?_
          refine wl_noD rfl rfl rfl rfl rfl rfl ?_
          refine wl_op rfl rfl (ow_vr (vr_pick (b := false) (v := .bool _) rfl rfl) ?_)
          refine wl_nil ?_
          refine hK19 _ _ ?_
          refine cw_cond_f rfl rfl (rfl) ?_
          refine cw_exit ?_
          refine hK16 _ _ ?_
          refine cw_seq fun K25 hK25 => ?_
          refine cw_seq fun K26 hK26 => ?_
          refine cw_region ?_
          refine wl_op rfl rfl (ow_vr (vr_move (v := .bool ok) rfl) ?_)
          refine wl_op rfl rfl (ow_vr (vr_not rfl) ?_)
          refine wl_nil ?_
          refine hK26 _ _ ?_
          refine cw_cond rfl rfl (fun hc => ?_) (fun hc => ?_)
          · (try simp only [decide_eq_true_eq, decide_eq_false_iff_not, Bool.not_eq_true, Bool.not_eq_false, Bool.not_eq_true', Bool.not_eq_false', Bool.and_eq_true, Bool.or_eq_true, Bool.and_eq_false_iff, Bool.or_eq_false_iff, Int.not_lt, Int.not_le, gt_iff_lt, ge_iff_le, ne_eq, Decidable.not_not, beq_iff_eq] at hc)
            have hc3 := hc; clear hc
            refine cw_seq fun K27 hK27 => ?_
            have hno : getOkP l = false := by cases hgo : getOkP l with | false => rfl | true => simp only [getOkP, hs, Bool.and_eq_true, decide_eq_true_eq] at hgo; rw [hgo.2.1, if_pos rfl] at hpg; rw [hpg] at hgo; simp_all
            replace hS := Sat.nilc.2 hS.tail1.tail1.tail1
            refine cw_region ?_
            refine wl_op rfl rfl (ow_vr (vr_assign (v := .int .i64 0) rfl) ?_)
            refine wl_op rfl rfl (ow_vr (vr_assign (v := .int .i64 0) rfl) ?_)
            refine wl_op rfl rfl (ow_vr (vr_assign (v := .slice none 0 0) rfl) ?_)
            refine wl_op rfl rfl (ow_vr (vr_assign (v := .bool false) rfl) ?_)
            refine wl_nil ?_
            refine hK27 _ _ ?_
            refine cw_ret ?_
            refine thenF_ret (?_)
            refine ret_four (fn := Try.f33) (n := 67) (t := 2) (u := 3) (v := 4) (x := 5) (.inl rfl) rfl rfl rfl rfl rfl ?_
            exact ⟨[[]], ⟨.slice none 0 0, [], (by rw [hno] <;> rfl), rfl, (by rw [hno]; exact Own.nil)⟩, hS⟩
          · (try simp only [decide_eq_true_eq, decide_eq_false_iff_not, Bool.not_eq_true, Bool.not_eq_false, Bool.not_eq_true', Bool.not_eq_false', Bool.and_eq_true, Bool.or_eq_true, Bool.and_eq_false_iff, Bool.or_eq_false_iff, Int.not_lt, Int.not_le, gt_iff_lt, ge_iff_le, ne_eq, Decidable.not_not, beq_iff_eq] at hc)
            have hc3 := hc; clear hc
            refine cw_skip ?_
            refine hK25 _ _ ?_
            refine cw_seq fun K28 hK28 => ?_
            have hd : okPg (noR s) (vR s) (cellsR s) = true ∧ pg.take i = l.take i := by simp_all
            have hi3 : i = 3 := by first | omega | (exfalso; simp_all; done)
            have hpe : pg = l := by have h2 := hd.2; rw [hi3, List.take_of_length_le (by have := hpl hd.1; omega), List.take_of_length_le (by omega)] at h2; exact h2
            have hgo : getOkP l = true := by simp only [getOkP, hs, Bool.and_eq_true, decide_eq_true_eq]; refine ⟨⟨hl3, hl96⟩, hd.1, ?_⟩; rw [hd.1, if_pos rfl] at hpg; rw [hpg, hpe]
            replace hS := hS.front1
            refine cw_region ?_
            refine wl_op rfl rfl (ow_vr (vr_move (v := .func (.func 82) #[] #[.pointer (some ⟨b6, 0, none⟩)]) rfl) ?_)
            refine wl_op rfl rfl (ow_fnv en_82 rfl rfl hS (hg 0 (by omega)) ?_)
            clear hS; rintro _ _ w ⟨rfl, rfl⟩ hS; (try simp only [List.cons_append, List.nil_append] at hS)
            refine wl_op rfl rfl (ow_vr (vr_move (v := .func (.func 82) #[] #[.pointer (some ⟨b6, 0, none⟩)]) rfl) ?_)
            refine wl_op rfl rfl (ow_fnv en_82 rfl rfl hS (hg 1 (by omega)) ?_)
            clear hS; rintro _ _ w ⟨rfl, rfl⟩ hS; (try simp only [List.cons_append, List.nil_append] at hS)
            refine wl_op rfl rfl (ow_vr (vr_move (v := v8) rfl) ?_)
            refine wl_op rfl rfl (ow_vr (vr_assign (v := .int .i64 _) rfl) ?_)
            refine wl_op rfl rfl (ow_vr (vr_assign (v := .int .i64 _) rfl) ?_)
            refine wl_op rfl rfl (ow_vr (vr_assign (v := v8) rfl) ?_)
            refine wl_op rfl rfl (ow_vr (vr_assign (v := .bool true) rfl) ?_)
            refine wl_nil ?_
            refine hK28 _ _ ?_
            refine cw_ret ?_
            refine ret_four (fn := Try.f33) (n := 67) (t := 2) (u := 3) (v := 4) (x := 5) (.inl rfl) rfl rfl rfl rfl rfl ?_
            exact ⟨[D8], ⟨v8, D8, (by rw [hgo, hs] <;> rfl), rfl, (by rw [hgo, hs]; exact ho8)⟩, hS.tail1.tail1⟩
end Go.Proofs.Ytjcagoighpmdkaa
