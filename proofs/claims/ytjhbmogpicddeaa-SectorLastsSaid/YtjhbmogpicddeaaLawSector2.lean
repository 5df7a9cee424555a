/- SectorLasts. -/
import Derived.Test.YtjhbmogpicddeaaLawSector1
namespace Go.Proofs.Ytjhbmogpicddeaa
open Go Go.RowKit
set_option linter.unusedVariables false
set_option linter.unusedSimpArgs false
attribute [local irreducible] actF WL CW OW PL SW VR LR yes Returns Fn
def lastsA (a : List (List UInt8)) : Int → Option (List UInt8) := barM (fun _ => none) (idxW 0 a)
theorem lastsA_at (a : List (List UInt8)) (k : Nat) : lastsA a (k : Int) = (a[k]?).map fullB := by
  rw [lastsA, barM_idx]
  by_cases h : k < a.length
  · rw [if_pos ⟨by omega, by omega⟩, Nat.sub_zero]
  · rw [if_neg (fun h2 => by have := h2.2; omega), List.getElem?_eq_none (by omega)]; rfl
def lastsD (a b : List (List UInt8)) (ks : List Int) : Int → Option (List UInt8) := crashM ks 0 (lastsA a) (idxW 0 b)
theorem lastsD_at (a b : List (List UInt8)) (ks : List Int) (k : Nat) : lastsD a b ks (k : Int) = if k < b.length ∧ keptB ks k = true then (b[k]?).map fullB else (a[k]?).map fullB := by
  rw [lastsD, crashM_idx, lastsA_at, Nat.sub_zero]
  by_cases h : k < b.length ∧ keptB ks k = true
  · rw [if_pos h, if_pos ⟨⟨by omega, by omega⟩, h.2⟩]
  · rw [if_neg h, if_neg (fun h2 => h ⟨by have := h2.1.2; omega, h2.2⟩)]
def lastD1 (a : List (List UInt8)) (n : Nat) : Dsk := { newD 20 with waits := idxW 0 a, deeds := (n : Int) }
def lastD2 (a b : List (List UInt8)) (n : Nat) : Dsk := { newD 20 with lasts := lastsA a, waits := idxW 0 b, deeds := (n : Int) }
theorem sector_lasts (a b : List (List UInt8)) (va vb : Value) (Δa Δb : Chunk) (hva : View 1 encS va a Δa) (hvb : View 1 encS vb b Δb) (ha : ∀ x ∈ a, x.length ≤ 9223372036854775807) (hb : ∀ x ∈ b, x.length ≤ 9223372036854775807) (hal : a.length ≤ maxLen) (hbl : b.length ≤ maxLen)
    (ks : List Int) (vk : Value) (Δk : Chunk) (hvk : View 1 encI vk ks Δk) (hkl : ks.length ≤ maxLen) :
    FnG Try.prog 10 [va, vb, vk] [Δa, Δb, Δk] (fun u Δs => u = .bool true ∧ Δs = []) := by
  refine FnG.mk fun E F w hS hF => ?_
  have hFa : Δa ∈ F := hF _ (by simp)
  have hFb : Δb ∈ F := hF _ (by simp)
  have hFk : Δk ∈ F := hF _ (by simp)
  refine returns_enter Try.func10 rfl Try.ntmps10 rfl ?_
  refine cw_seq fun K1 hK1 => ?_
  refine cw_region ?_
  refine wl_op rfl rfl (ow_vr (vr_assign (v := .bool false) rfl) ?_)
  refine wl_nil ?_
  refine hK1 _ _ ?_
  refine cw_seq fun K2 hK2 => ?_
  refine cw_seq fun K3 hK3 => ?_
  refine cw_region ?_
  refine wl_op rfl rfl (ow_vr (vr_move (v := va) rfl) ?_)
  first | (refine wl_op rfl rfl (ow_vr (vr_len_sl Try.underlying22 rfl) ?_)) | (refine wl_op rfl rfl (ow_vr (vr_len_v (v := va) Try.underlying22 rfl (by first | assumption | (refine Own.view ?_ (by assumption); exact fun _ => rfl) | exact OwnB.view (by assumption))) ?_))
  refine wl_op rfl rfl (ow_vr (vr_gtr rfl rfl) ?_)
  refine wl_op rfl rfl (ow_vr (vr_move (v := .bool _) rfl) ?_)
  refine wl_split 17 rfl (fun hc => ?_) (fun hc => ?_)
  · (try simp only [decide_eq_true_eq, decide_eq_false_iff_not, Bool.not_eq_true, Bool.not_eq_false, Bool.not_eq_true', Bool.not_eq_false', Bool.and_eq_true, Bool.or_eq_true, Bool.and_eq_false_iff, Bool.or_eq_false_iff, Int.not_lt, Int.not_le, gt_iff_lt, ge_iff_le, ne_eq, Decidable.not_not, beq_iff_eq] at hc)
    have hg17 := hc; clear hc
    refine wl_noD rfl rfl rfl rfl rfl rfl ?_
    refine wl_noD rfl rfl rfl rfl rfl rfl ?_
    refine wl_noD rfl rfl rfl rfl rfl rfl ?_
    refine wl_op rfl rfl (ow_vr (vr_pick (b := true) (v := .bool _) rfl rfl) ?_)
    refine wl_op rfl rfl (ow_vr (vr_move (v := .bool _) rfl) ?_)
    refine wl_noD rfl rfl rfl rfl rfl rfl ?_
    refine wl_noD rfl rfl rfl rfl rfl rfl ?_
    refine wl_noD rfl rfl rfl rfl rfl rfl ?_
    refine wl_op rfl rfl (ow_vr (vr_pick (b := true) (v := .bool _) rfl rfl) ?_)
    refine wl_op rfl rfl (ow_vr (vr_move (v := .bool _) rfl) ?_)
    refine wl_noD rfl rfl rfl rfl rfl rfl ?_
    refine wl_noD rfl rfl rfl rfl rfl rfl ?_
    refine wl_op rfl rfl (ow_vr (vr_pick (b := true) (v := .bool _) rfl rfl) ?_)
    refine wl_nil ?_
    refine hK3 _ _ ?_
    refine cw_cond_t rfl rfl (rfl) ?_
    refine cw_seq fun K4 hK4 => ?_
    refine cw_region ?_
    refine wl_op rfl rfl (ow_fn (vs := []) en_12 rfl hS (alive2) ?_)
    clear hS; rintro _ _ w ⟨rfl, rfl⟩ hS; (try simp only [List.cons_append, List.nil_append] at hS)
    refine wl_op rfl rfl (ow_vr (vr_assign (v := .bool _) rfl) ?_)
    refine wl_nil ?_
    refine hK4 _ _ ?_
    refine cw_ret ?_
    refine thenF_ret (?_)
    refine ret_one (fn := Try.f10) (n := 128) (t := 6) (.inl rfl) rfl rfl ?_
    exact ⟨[], ⟨rfl, rfl⟩, hS⟩
  · (try simp only [decide_eq_true_eq, decide_eq_false_iff_not, Bool.not_eq_true, Bool.not_eq_false, Bool.not_eq_true', Bool.not_eq_false', Bool.and_eq_true, Bool.or_eq_true, Bool.and_eq_false_iff, Bool.or_eq_false_iff, Int.not_lt, Int.not_le, gt_iff_lt, ge_iff_le, ne_eq, Decidable.not_not, beq_iff_eq] at hc)
    have hg17 := hc; clear hc
    refine wl_yes rfl rfl rfl rfl rfl (ow_vr (vr_move (v := vb) rfl) ?_)
    first | (refine wl_yes rfl rfl rfl rfl rfl (ow_vr (vr_len_sl Try.underlying22 rfl) ?_)) | (refine wl_yes rfl rfl rfl rfl rfl (ow_vr (vr_len_v (v := vb) Try.underlying22 rfl (by first | assumption | (refine Own.view ?_ (by assumption); exact fun _ => rfl) | exact OwnB.view (by assumption))) ?_))
    refine wl_yes rfl rfl rfl rfl rfl (ow_vr (vr_gtr rfl rfl) ?_)
    refine wl_op rfl rfl (ow_vr (vr_pick (b := false) (v := .bool _) rfl rfl) ?_)
    refine wl_op rfl rfl (ow_vr (vr_move (v := .bool _) rfl) ?_)
    refine wl_split 22 rfl (fun hc => ?_) (fun hc => ?_)
    · (try simp only [decide_eq_true_eq, decide_eq_false_iff_not, Bool.not_eq_true, Bool.not_eq_false, Bool.not_eq_true', Bool.not_eq_false', Bool.and_eq_true, Bool.or_eq_true, Bool.and_eq_false_iff, Bool.or_eq_false_iff, Int.not_lt, Int.not_le, gt_iff_lt, ge_iff_le, ne_eq, Decidable.not_not, beq_iff_eq] at hc)
      have hg22 := hc; clear hc
      refine wl_noD rfl rfl rfl rfl rfl rfl ?_
      refine wl_noD rfl rfl rfl rfl rfl rfl ?_
      refine wl_noD rfl rfl rfl rfl rfl rfl ?_
      refine wl_op rfl rfl (ow_vr (vr_pick (b := true) (v := .bool _) rfl rfl) ?_)
      refine wl_op rfl rfl (ow_vr (vr_move (v := .bool _) rfl) ?_)
      refine wl_noD rfl rfl rfl rfl rfl rfl ?_
      refine wl_noD rfl rfl rfl rfl rfl rfl ?_
      refine wl_op rfl rfl (ow_vr (vr_pick (b := true) (v := .bool _) rfl rfl) ?_)
      refine wl_nil ?_
      refine hK3 _ _ ?_
      refine cw_cond_t rfl rfl (rfl) ?_
      refine cw_seq fun K5 hK5 => ?_
      refine cw_region ?_
      refine wl_op rfl rfl (ow_fn (vs := []) en_12 rfl hS (alive2) ?_)
      clear hS; rintro _ _ w ⟨rfl, rfl⟩ hS; (try simp only [List.cons_append, List.nil_append] at hS)
      refine wl_op rfl rfl (ow_vr (vr_assign (v := .bool _) rfl) ?_)
      refine wl_nil ?_
      refine hK5 _ _ ?_
      refine cw_ret ?_
      refine thenF_ret (?_)
      refine ret_one (fn := Try.f10) (n := 128) (t := 6) (.inl rfl) rfl rfl ?_
      exact ⟨[], ⟨rfl, rfl⟩, hS⟩
    · (try simp only [decide_eq_true_eq, decide_eq_false_iff_not, Bool.not_eq_true, Bool.not_eq_false, Bool.not_eq_true', Bool.not_eq_false', Bool.and_eq_true, Bool.or_eq_true, Bool.and_eq_false_iff, Bool.or_eq_false_iff, Int.not_lt, Int.not_le, gt_iff_lt, ge_iff_le, ne_eq, Decidable.not_not, beq_iff_eq] at hc)
      have hg22 := hc; clear hc
      refine wl_yes rfl rfl rfl rfl rfl (ow_vr (vr_move (v := vk) rfl) ?_)
      first | (refine wl_yes rfl rfl rfl rfl rfl (ow_vr (vr_len_sl Try.underlying23 rfl) ?_)) | (refine wl_yes rfl rfl rfl rfl rfl (ow_vr (vr_len_v (v := vk) Try.underlying23 rfl (by first | assumption | (refine Own.view ?_ (by assumption); exact fun _ => rfl) | exact OwnB.view (by assumption))) ?_))
      refine wl_yes rfl rfl rfl rfl rfl (ow_vr (vr_gtr rfl rfl) ?_)
      refine wl_op rfl rfl (ow_vr (vr_pick (b := false) (v := .bool _) rfl rfl) ?_)
      refine wl_op rfl rfl (ow_vr (vr_move (v := .bool _) rfl) ?_)
      refine wl_split 27 rfl (fun hc => ?_) (fun hc => ?_)
      · (try simp only [decide_eq_true_eq, decide_eq_false_iff_not, Bool.not_eq_true, Bool.not_eq_false, Bool.not_eq_true', Bool.not_eq_false', Bool.and_eq_true, Bool.or_eq_true, Bool.and_eq_false_iff, Bool.or_eq_false_iff, Int.not_lt, Int.not_le, gt_iff_lt, ge_iff_le, ne_eq, Decidable.not_not, beq_iff_eq] at hc)
        have hg27 := hc; clear hc
        refine wl_noD rfl rfl rfl rfl rfl rfl ?_
        refine wl_noD rfl rfl rfl rfl rfl rfl ?_
        refine wl_op rfl rfl (ow_vr (vr_pick (b := true) (v := .bool _) rfl rfl) ?_)
        refine wl_nil ?_
        refine hK3 _ _ ?_
        refine cw_cond_t rfl rfl (rfl) ?_
        refine cw_seq fun K6 hK6 => ?_
        refine cw_region ?_
        refine wl_op rfl rfl (ow_fn (vs := []) en_12 rfl hS (alive2) ?_)
        clear hS; rintro _ _ w ⟨rfl, rfl⟩ hS; (try simp only [List.cons_append, List.nil_append] at hS)
        refine wl_op rfl rfl (ow_vr (vr_assign (v := .bool _) rfl) ?_)
        refine wl_nil ?_
        refine hK6 _ _ ?_
        refine cw_ret ?_
        refine thenF_ret (?_)
        refine ret_one (fn := Try.f10) (n := 128) (t := 6) (.inl rfl) rfl rfl ?_
        exact ⟨[], ⟨rfl, rfl⟩, hS⟩
      · (try simp only [decide_eq_true_eq, decide_eq_false_iff_not, Bool.not_eq_true, Bool.not_eq_false, Bool.not_eq_true', Bool.not_eq_false', Bool.and_eq_true, Bool.or_eq_true, Bool.and_eq_false_iff, Bool.or_eq_false_iff, Int.not_lt, Int.not_le, gt_iff_lt, ge_iff_le, ne_eq, Decidable.not_not, beq_iff_eq] at hc)
        have hg27 := hc; clear hc
        refine wl_yes rfl rfl rfl rfl rfl (ow_fn (vs := []) en_12 rfl hS (alive2) ?_)
        clear hS; rintro _ _ w ⟨rfl, rfl⟩ hS; (try simp only [List.cons_append, List.nil_append] at hS)
        refine wl_yes rfl rfl rfl rfl rfl (ow_vr (vr_not rfl) ?_)
        refine wl_op rfl rfl (ow_vr (vr_pick (b := false) (v := .bool _) rfl rfl) ?_)
        refine wl_nil ?_
        refine hK3 _ _ ?_
        refine cw_cond rfl rfl (fun hc => ?_) (fun hc => ?_)
        · (try simp only [decide_eq_true_eq, decide_eq_false_iff_not, Bool.not_eq_true, Bool.not_eq_false, Bool.not_eq_true', Bool.not_eq_false', Bool.and_eq_true, Bool.or_eq_true, Bool.and_eq_false_iff, Bool.or_eq_false_iff, Int.not_lt, Int.not_le, gt_iff_lt, ge_iff_le, ne_eq, Decidable.not_not, beq_iff_eq] at hc)
          have hc0 := hc; clear hc
          refine cw_seq fun K7 hK7 => ?_
          refine cw_region ?_
          refine wl_op rfl rfl (ow_fn (vs := []) en_12 rfl hS (alive2) ?_)
          clear hS; rintro _ _ w ⟨rfl, rfl⟩ hS; (try simp only [List.cons_append, List.nil_append] at hS)
          refine wl_op rfl rfl (ow_vr (vr_assign (v := .bool _) rfl) ?_)
          refine wl_nil ?_
          refine hK7 _ _ ?_
          refine cw_ret ?_
          refine thenF_ret (?_)
          refine ret_one (fn := Try.f10) (n := 128) (t := 6) (.inl rfl) rfl rfl ?_
          exact ⟨[], ⟨rfl, rfl⟩, hS⟩
        · (try simp only [decide_eq_true_eq, decide_eq_false_iff_not, Bool.not_eq_true, Bool.not_eq_false, Bool.not_eq_true', Bool.not_eq_false', Bool.and_eq_true, Bool.or_eq_true, Bool.and_eq_false_iff, Bool.or_eq_false_iff, Int.not_lt, Int.not_le, gt_iff_lt, ge_iff_le, ne_eq, Decidable.not_not, beq_iff_eq] at hc)
          have hc0 := hc; clear hc
          refine cw_skip ?_
          refine hK2 _ _ ?_
          refine cw_seq fun K8 hK8 => ?_
          refine cw_region ?_
          refine wl_op rfl rfl (ow_fn (vs := [.int .i64 _]) en_13 rfl hS (disk_New' (n := 20) (by omega) (by omega)) ?_)
          clear hS; rintro _ _ w ⟨p, Δ0, rfl, rfl, hd0⟩ hS; (try simp only [List.cons_append, List.nil_append] at hS)
          refine wl_op rfl rfl (ow_vr (vr_assign (v := .pointer _) rfl) ?_)
          refine wl_nil ?_
          refine hK8 _ _ ?_
          refine cw_seq fun K9 hK9 => ?_
          refine cw_seq fun K10 hK10 => ?_
          refine cw_region ?_
          refine wl_op rfl rfl (ow_vr (vr_move (v := .pointer _) rfl) ?_)
          refine wl_op rfl rfl (ow_vr (vr_eqnil Try.underlying25 rfl) ?_)
          refine wl_nil ?_
          refine hK10 _ _ ?_
          refine cw_cond_f rfl rfl (rfl) ?_
          refine cw_skip ?_
          refine hK9 _ _ ?_
          refine cw_seq fun K11 hK11 => ?_
          refine cw_seq fun K12 hK12 => ?_
          refine cw_region ?_
          refine wl_op rfl rfl (ow_vr (vr_assign (v := .int .i64 0) rfl) ?_)
          refine wl_nil ?_
          refine hK12 _ _ ?_
          refine cw_block ?_
          refine cw_loop (fun m f w => ∃ (k : Nat) (Δd : Chunk) (g : Nat → Value), f = (upd (upd (upd (upd (upd g 0 (va)) 1 (vb)) 2 (vk)) 7 (ptr p)) 8 (.int .i64 (k : Int))) ∧ (k ≤ a.length ∧ DiskAt p (lastD1 (a.take k) k) Δd) ∧ m = a.length - k ∧ Sat E (Δd :: F) w) ⟨0, Δ0, _, (reb (reb (reb (reb (reb rfl rfl) rfl) rfl) rfl) rfl), ?_, rfl, hS⟩ ?_
          · exact ⟨by omega, hd0⟩
          clear hS; rintro m f w ⟨k, Δd, g, rfl, hI0, rfl, hS⟩
          obtain ⟨hk, hd⟩ := hI0
          refine cw_seq fun K13 hK13 => ?_
          refine cw_seq fun K14 hK14 => ?_
          refine cw_region ?_
          refine wl_op rfl rfl (ow_vr (vr_move (v := .int .i64 (k : Int)) rfl) ?_)
          refine wl_op rfl rfl (ow_vr (vr_move (v := va) rfl) ?_)
          first | (refine wl_op rfl rfl (ow_vr (vr_len_sl Try.underlying22 rfl) ?_)) | (refine wl_op rfl rfl (ow_vr (vr_len_v (v := va) Try.underlying22 rfl (by first | assumption | (refine Own.view ?_ (by assumption); exact fun _ => rfl) | exact OwnB.view (by assumption))) ?_))
          refine wl_op rfl rfl (ow_vr (vr_lss rfl rfl) ?_)
          refine wl_nil ?_
          refine hK14 _ _ ?_
          refine cw_cond rfl rfl (fun hc => ?_) (fun hc => ?_)
          · (try simp only [decide_eq_true_eq, decide_eq_false_iff_not, Bool.not_eq_true, Bool.not_eq_false, Bool.not_eq_true', Bool.not_eq_false', Bool.and_eq_true, Bool.or_eq_true, Bool.and_eq_false_iff, Bool.or_eq_false_iff, Int.not_lt, Int.not_le, gt_iff_lt, ge_iff_le, ne_eq, Decidable.not_not, beq_iff_eq] at hc)
            have hc2 := hc; clear hc
            refine cw_skip ?_
            refine hK13 _ _ ?_
            refine cw_seq fun K15 hK15 => ?_
            refine cw_block ?_
            refine cw_seq fun K16 hK16 => ?_
            obtain ⟨x, hx⟩ := get_lt (xs := a) (k := k) (by omega)
            have htl : (a.take k).length = k := by rw [List.length_take]; omega
            have he : { (lastD1 (a.take k) k) with waits := (lastD1 (a.take k) k).waits ++ [((k : Int), fullB x)], deeds := (lastD1 (a.take k) k).deeds + 1 } = lastD1 (a.take (k + 1)) (k + 1) := by rw [take_snoc hx, lastD1, lastD1, idxW_snoc, htl, Nat.zero_add]; rfl
            have hW := disk_WriteOk hd (k : Int) (fullB x) (by simp [lastD1, newD]) (by simp [lastD1, newD, idxW_length]; omega) rfl rfl (by omega) (by simp [lastD1, newD]; omega) (fullB_length _) (by simp [lastD1, newD, inI64]; omega)
            rw [he] at hW
            refine cw_region ?_
            refine wl_op rfl rfl (ow_vr (vr_move (v := (ptr p)) rfl) ?_)
            refine wl_op rfl rfl (ow_vr (vr_move (v := .int .i64 (k : Int)) rfl) ?_)
            refine wl_op rfl rfl (ow_vr (vr_move (v := va) rfl) ?_)
            refine wl_op rfl rfl (ow_vr (vr_move (v := .int .i64 (k : Int)) rfl) ?_)
            first | (refine wl_op rfl rfl (ow_vr (vr_indexAddr Try.underlying22 sz_9 rfl rfl (by omega) (by omega)) ?_)) | (refine wl_op rfl rfl (ow_vr (vr_indexV (v := va) Try.underlying22 sz_9 rfl (by first | assumption | (refine Own.view ?_ (by assumption); exact fun _ => rfl) | exact OwnB.view (by assumption)) rfl (by omega) (by first | omega | (simp <;> omega))) ?_))
            refine wl_op rfl rfl (ow_lr (S := Sat _ _) (lr_loadV1 (u := str _) Try.underlying9 rfl rfl (by first | assumption | (refine Own.view ?_ (by assumption); exact fun _ => rfl) | exact OwnB.view (by assumption)) (by first | exact List.Mem.head _ | exact List.Mem.tail _ (List.Mem.head _) | exact List.Mem.tail _ (List.Mem.tail _ (List.Mem.head _)) | exact List.Mem.tail _ (List.Mem.tail _ (List.Mem.tail _ (List.Mem.head _))) | exact List.Mem.tail _ (List.Mem.tail _ (List.Mem.tail _ (List.Mem.tail _ (List.Mem.head _)))) | exact List.Mem.tail _ (List.Mem.tail _ (List.Mem.tail _ (List.Mem.tail _ (List.Mem.tail _ (List.Mem.head _))))) | exact List.Mem.tail _ (List.Mem.tail _ (List.Mem.tail _ (List.Mem.tail _ (List.Mem.tail _ (List.Mem.tail _ (List.Mem.head _)))))) | exact List.Mem.tail _ (List.Mem.tail _ (List.Mem.tail _ (List.Mem.tail _ (List.Mem.tail _ (List.Mem.tail _ (List.Mem.tail _ (List.Mem.head _))))))) | exact List.Mem.tail _ (List.Mem.tail _ (List.Mem.tail _ (List.Mem.tail _ (List.Mem.tail _ (List.Mem.tail _ (List.Mem.tail _ (List.Mem.tail _ (List.Mem.head _)))))))) | exact (by assumption) | exact List.Mem.tail _ ((by assumption)) | exact List.Mem.tail _ (List.Mem.tail _ ((by assumption))) | exact List.Mem.tail _ (List.Mem.tail _ (List.Mem.tail _ ((by assumption)))) | exact List.Mem.tail _ (List.Mem.tail _ (List.Mem.tail _ (List.Mem.tail _ ((by assumption))))) | exact List.Mem.tail _ (List.Mem.tail _ (List.Mem.tail _ (List.Mem.tail _ (List.Mem.tail _ ((by assumption))))))) (hx) (by exact fun _ => rfl) (by rfl)) hS ?_)
            refine wl_op rfl rfl (ow_fn (vs := [str _]) en_14 rfl hS (law_Full x (ha x (List.mem_of_getElem? hx))) ?_)
            clear hS; rintro _ _ w ⟨rfl, rfl⟩ hS; (try simp only [List.cons_append, List.nil_append] at hS)
            refine wl_op rfl rfl (ow_fn (vs := [(ptr p), .int .i64 (k : Int), str _]) en_15 rfl hS (hW) ?_)
            clear hS; rintro _ _ w ⟨rfl, Δ1, rfl, hd1⟩ hS; (try simp only [List.cons_append, List.nil_append] at hS)
            refine wl_op rfl rfl (ow_vr (vr_neq rfl rfl) ?_)
            refine wl_nil ?_
            refine hK16 _ _ ?_
            refine cw_cond_f rfl rfl (by decide) ?_
            refine cw_skip ?_
            refine hK15 _ _ ?_
            refine cw_region ?_
            refine wl_op rfl rfl (ow_vr (vr_move (v := .int .i64 (k : Int)) rfl) ?_)
            first | (refine wl_op rfl rfl (ow_vr (vr_addi rfl rfl (by unfold inI64; omega)) ?_)) | (refine wl_op rfl rfl (ow_vr (vr_add rfl rfl) ?_))
            refine wl_op rfl rfl (ow_vr (vr_assign (v := .int .i64 _) rfl) ?_)
            refine wl_nil ?_
            refine thenF_normal ⟨_, ?_, k + 1, Δ1, _, (reb (reb (reb (reb (reb rfl rfl) rfl) rfl) rfl) rfl), ?_, rfl, hS⟩
            · omega
            · exact ⟨by omega, hd1⟩
          · (try simp only [decide_eq_true_eq, decide_eq_false_iff_not, Bool.not_eq_true, Bool.not_eq_false, Bool.not_eq_true', Bool.not_eq_false', Bool.and_eq_true, Bool.or_eq_true, Bool.and_eq_false_iff, Bool.or_eq_false_iff, Int.not_lt, Int.not_le, gt_iff_lt, ge_iff_le, ne_eq, Decidable.not_not, beq_iff_eq] at hc)
            have hc2 := hc; clear hc
            refine cw_exit ?_
            refine hK11 _ _ ?_
            refine cw_seq fun K17 hK17 => ?_
            refine cw_seq fun K18 hK18 => ?_
            rw [show k = a.length by omega, List.take_length] at hd
            refine cw_region ?_
            refine wl_op rfl rfl (ow_vr (vr_move (v := (ptr p)) rfl) ?_)
            refine wl_op rfl rfl (ow_fn (vs := [(ptr p)]) en_56 rfl hS (disk_BarrierOk hd (by simp [lastD1, newD]) (by simp [lastD1, idxW_length]; omega) rfl rfl (by simp [lastD1, newD, inI64]; omega)) ?_)
            clear hS; rintro _ _ w ⟨rfl, Δ2, rfl, hd2⟩ hS; (try simp only [List.cons_append, List.nil_append] at hS)
            refine wl_op rfl rfl (ow_vr (vr_neq rfl rfl) ?_)
            refine wl_op rfl rfl (ow_vr (vr_move (v := .bool _) rfl) ?_)
            refine wl_known 53 rfl (c := false) (by decide) ?_
            refine wl_yes rfl rfl rfl rfl rfl (ow_vr (vr_move (v := (ptr p)) rfl) ?_)
            refine wl_yes rfl rfl rfl rfl rfl (ow_fn (vs := [(ptr p)]) en_57 rfl hS (disk_Waits hd2) ?_)
            clear hS; rintro _ _ w ⟨rfl, rfl⟩ hS; (try simp only [List.cons_append, List.nil_append] at hS)
            refine wl_yes rfl rfl rfl rfl rfl (ow_vr (vr_neq rfl rfl) ?_)
            refine wl_op rfl rfl (ow_vr (vr_pick (b := false) (v := .bool _) rfl rfl) ?_)
            refine wl_nil ?_
            refine hK18 _ _ ?_
            refine cw_cond_f rfl rfl (rfl) ?_
            refine cw_skip ?_
            refine hK17 _ _ ?_
            refine cw_seq fun K19 hK19 => ?_
            refine cw_seq fun K20 hK20 => ?_
            replace hd2 : DiskAt p (lastD2 a [] (a.length + 1)) Δ2 := hd2
            refine cw_region ?_
            refine wl_op rfl rfl (ow_vr (vr_assign (v := .int .i64 0) rfl) ?_)
            refine wl_nil ?_
            refine hK20 _ _ ?_
            refine cw_block ?_
            refine cw_loop (fun m f w => ∃ (k : Nat) (Δd : Chunk) (g : Nat → Value), f = (upd (upd (upd (upd (upd g 0 (va)) 1 (vb)) 2 (vk)) 7 (ptr p)) 9 (.int .i64 (k : Int))) ∧ (k ≤ b.length ∧ DiskAt p (lastD2 a (b.take k) (a.length + 1 + k)) Δd) ∧ m = b.length - k ∧ Sat E (Δd :: F) w) ⟨0, Δ2, _, (reb (reb (reb (reb (reb rfl rfl) rfl) rfl) rfl) rfl), ?_, rfl, hS⟩ ?_
            · exact ⟨by omega, hd2⟩
            clear hS; rintro m f w ⟨k, Δd, g, rfl, hI1, rfl, hS⟩
            obtain ⟨hk, hd⟩ := hI1
            refine cw_seq fun K21 hK21 => ?_
            refine cw_seq fun K22 hK22 => ?_
            refine cw_region ?_
            refine wl_op rfl rfl (ow_vr (vr_move (v := .int .i64 (k : Int)) rfl) ?_)
            refine wl_op rfl rfl (ow_vr (vr_move (v := vb) rfl) ?_)
            first | (refine wl_op rfl rfl (ow_vr (vr_len_sl Try.underlying22 rfl) ?_)) | (refine wl_op rfl rfl (ow_vr (vr_len_v (v := vb) Try.underlying22 rfl (by first | assumption | (refine Own.view ?_ (by assumption); exact fun _ => rfl) | exact OwnB.view (by assumption))) ?_))
            refine wl_op rfl rfl (ow_vr (vr_lss rfl rfl) ?_)
            refine wl_nil ?_
            refine hK22 _ _ ?_
            refine cw_cond rfl rfl (fun hc => ?_) (fun hc => ?_)
            · (try simp only [decide_eq_true_eq, decide_eq_false_iff_not, Bool.not_eq_true, Bool.not_eq_false, Bool.not_eq_true', Bool.not_eq_false', Bool.and_eq_true, Bool.or_eq_true, Bool.and_eq_false_iff, Bool.or_eq_false_iff, Int.not_lt, Int.not_le, gt_iff_lt, ge_iff_le, ne_eq, Decidable.not_not, beq_iff_eq] at hc)
              have hc5 := hc; clear hc
              refine cw_skip ?_
              refine hK21 _ _ ?_
              refine cw_seq fun K23 hK23 => ?_
              refine cw_block ?_
              refine cw_seq fun K24 hK24 => ?_
              obtain ⟨x, hx⟩ := get_lt (xs := b) (k := k) (by omega)
              have htl : (b.take k).length = k := by rw [List.length_take]; omega
              have he : { (lastD2 a (b.take k) (a.length + 1 + k)) with waits := (lastD2 a (b.take k) (a.length + 1 + k)).waits ++ [((k : Int), fullB x)], deeds := (lastD2 a (b.take k) (a.length + 1 + k)).deeds + 1 } = lastD2 a (b.take (k + 1)) (a.length + 1 + (k + 1)) := by rw [take_snoc hx, lastD2, lastD2, idxW_snoc, htl, Nat.zero_add]; rfl
              have hW := disk_WriteOk hd (k : Int) (fullB x) (by simp [lastD2, newD]) (by simp [lastD2, newD, idxW_length]; omega) rfl rfl (by omega) (by simp [lastD2, newD]; omega) (fullB_length _) (by simp [lastD2, newD, inI64]; omega)
              rw [he] at hW
              refine cw_region ?_
              refine wl_op rfl rfl (ow_vr (vr_move (v := (ptr p)) rfl) ?_)
              refine wl_op rfl rfl (ow_vr (vr_move (v := .int .i64 (k : Int)) rfl) ?_)
              refine wl_op rfl rfl (ow_vr (vr_move (v := vb) rfl) ?_)
              refine wl_op rfl rfl (ow_vr (vr_move (v := .int .i64 (k : Int)) rfl) ?_)
              first | (refine wl_op rfl rfl (ow_vr (vr_indexAddr Try.underlying22 sz_9 rfl rfl (by omega) (by omega)) ?_)) | (refine wl_op rfl rfl (ow_vr (vr_indexV (v := vb) Try.underlying22 sz_9 rfl (by first | assumption | (refine Own.view ?_ (by assumption); exact fun _ => rfl) | exact OwnB.view (by assumption)) rfl (by omega) (by first | omega | (simp <;> omega))) ?_))
              refine wl_op rfl rfl (ow_lr (S := Sat _ _) (lr_loadV1 (u := str _) Try.underlying9 rfl rfl (by first | assumption | (refine Own.view ?_ (by assumption); exact fun _ => rfl) | exact OwnB.view (by assumption)) (by first | exact List.Mem.head _ | exact List.Mem.tail _ (List.Mem.head _) | exact List.Mem.tail _ (List.Mem.tail _ (List.Mem.head _)) | exact List.Mem.tail _ (List.Mem.tail _ (List.Mem.tail _ (List.Mem.head _))) | exact List.Mem.tail _ (List.Mem.tail _ (List.Mem.tail _ (List.Mem.tail _ (List.Mem.head _)))) | exact List.Mem.tail _ (List.Mem.tail _ (List.Mem.tail _ (List.Mem.tail _ (List.Mem.tail _ (List.Mem.head _))))) | exact List.Mem.tail _ (List.Mem.tail _ (List.Mem.tail _ (List.Mem.tail _ (List.Mem.tail _ (List.Mem.tail _ (List.Mem.head _)))))) | exact List.Mem.tail _ (List.Mem.tail _ (List.Mem.tail _ (List.Mem.tail _ (List.Mem.tail _ (List.Mem.tail _ (List.Mem.tail _ (List.Mem.head _))))))) | exact List.Mem.tail _ (List.Mem.tail _ (List.Mem.tail _ (List.Mem.tail _ (List.Mem.tail _ (List.Mem.tail _ (List.Mem.tail _ (List.Mem.tail _ (List.Mem.head _)))))))) | exact (by assumption) | exact List.Mem.tail _ ((by assumption)) | exact List.Mem.tail _ (List.Mem.tail _ ((by assumption))) | exact List.Mem.tail _ (List.Mem.tail _ (List.Mem.tail _ ((by assumption)))) | exact List.Mem.tail _ (List.Mem.tail _ (List.Mem.tail _ (List.Mem.tail _ ((by assumption))))) | exact List.Mem.tail _ (List.Mem.tail _ (List.Mem.tail _ (List.Mem.tail _ (List.Mem.tail _ ((by assumption))))))) (hx) (by exact fun _ => rfl) (by rfl)) hS ?_)
              refine wl_op rfl rfl (ow_fn (vs := [str _]) en_14 rfl hS (law_Full x (hb x (List.mem_of_getElem? hx))) ?_)
              clear hS; rintro _ _ w ⟨rfl, rfl⟩ hS; (try simp only [List.cons_append, List.nil_append] at hS)
              refine wl_op rfl rfl (ow_fn (vs := [(ptr p), .int .i64 (k : Int), str _]) en_15 rfl hS (hW) ?_)
              clear hS; rintro _ _ w ⟨rfl, Δ3, rfl, hd3⟩ hS; (try simp only [List.cons_append, List.nil_append] at hS)
              refine wl_op rfl rfl (ow_vr (vr_neq rfl rfl) ?_)
              refine wl_nil ?_
              refine hK24 _ _ ?_
              refine cw_cond_f rfl rfl (by decide) ?_
              refine cw_skip ?_
              refine hK23 _ _ ?_
              refine cw_region ?_
              refine wl_op rfl rfl (ow_vr (vr_move (v := .int .i64 (k : Int)) rfl) ?_)
              first | (refine wl_op rfl rfl (ow_vr (vr_addi rfl rfl (by unfold inI64; omega)) ?_)) | (refine wl_op rfl rfl (ow_vr (vr_add rfl rfl) ?_))
              refine wl_op rfl rfl (ow_vr (vr_assign (v := .int .i64 _) rfl) ?_)
              refine wl_nil ?_
              refine thenF_normal ⟨_, ?_, k + 1, Δ3, _, (reb (reb (reb (reb (reb rfl rfl) rfl) rfl) rfl) rfl), ?_, rfl, hS⟩
              · omega
              · exact ⟨by omega, hd3⟩
            · (try simp only [decide_eq_true_eq, decide_eq_false_iff_not, Bool.not_eq_true, Bool.not_eq_false, Bool.not_eq_true', Bool.not_eq_false', Bool.and_eq_true, Bool.or_eq_true, Bool.and_eq_false_iff, Bool.or_eq_false_iff, Int.not_lt, Int.not_le, gt_iff_lt, ge_iff_le, ne_eq, Decidable.not_not, beq_iff_eq] at hc)
              have hc5 := hc; clear hc
              refine cw_exit ?_
              refine hK19 _ _ ?_
              refine cw_seq fun K25 hK25 => ?_
              rw [show k = b.length by omega, List.take_length] at hd
              refine cw_region ?_
              refine wl_op rfl rfl (ow_vr (vr_move (v := (ptr p)) rfl) ?_)
              refine wl_op rfl rfl (ow_vr (vr_move (v := vk) rfl) ?_)
              refine wl_op rfl rfl (ow_fnm (vs := [(ptr p), vk]) en_17 rfl hS (disk_CrashM hd _ ks _ hvk (by omega) (by simp [lastD2, idxW_length]; omega)) (by first | exact needs1 (by first | exact List.Mem.head _ | exact List.Mem.tail _ (List.Mem.head _) | exact List.Mem.tail _ (List.Mem.tail _ (List.Mem.head _)) | exact List.Mem.tail _ (List.Mem.tail _ (List.Mem.tail _ (List.Mem.head _))) | exact List.Mem.tail _ (List.Mem.tail _ (List.Mem.tail _ (List.Mem.tail _ (List.Mem.head _)))) | exact List.Mem.tail _ (List.Mem.tail _ (List.Mem.tail _ (List.Mem.tail _ (List.Mem.tail _ (List.Mem.head _))))) | exact List.Mem.tail _ (List.Mem.tail _ (List.Mem.tail _ (List.Mem.tail _ (List.Mem.tail _ (List.Mem.tail _ (List.Mem.head _)))))) | exact List.Mem.tail _ (List.Mem.tail _ (List.Mem.tail _ (List.Mem.tail _ (List.Mem.tail _ (List.Mem.tail _ (List.Mem.tail _ (List.Mem.head _))))))) | exact List.Mem.tail _ (List.Mem.tail _ (List.Mem.tail _ (List.Mem.tail _ (List.Mem.tail _ (List.Mem.tail _ (List.Mem.tail _ (List.Mem.tail _ (List.Mem.head _)))))))) | exact (by assumption) | exact List.Mem.tail _ ((by assumption)) | exact List.Mem.tail _ (List.Mem.tail _ ((by assumption))) | exact List.Mem.tail _ (List.Mem.tail _ (List.Mem.tail _ ((by assumption)))) | exact List.Mem.tail _ (List.Mem.tail _ (List.Mem.tail _ (List.Mem.tail _ ((by assumption))))) | exact List.Mem.tail _ (List.Mem.tail _ (List.Mem.tail _ (List.Mem.tail _ (List.Mem.tail _ ((by assumption))))))) | exact needs0 | exact needs2 (by first | exact List.Mem.head _ | exact List.Mem.tail _ (List.Mem.head _) | exact List.Mem.tail _ (List.Mem.tail _ (List.Mem.head _)) | exact List.Mem.tail _ (List.Mem.tail _ (List.Mem.tail _ (List.Mem.head _))) | exact List.Mem.tail _ (List.Mem.tail _ (List.Mem.tail _ (List.Mem.tail _ (List.Mem.head _)))) | exact List.Mem.tail _ (List.Mem.tail _ (List.Mem.tail _ (List.Mem.tail _ (List.Mem.tail _ (List.Mem.head _))))) | exact List.Mem.tail _ (List.Mem.tail _ (List.Mem.tail _ (List.Mem.tail _ (List.Mem.tail _ (List.Mem.tail _ (List.Mem.head _)))))) | exact List.Mem.tail _ (List.Mem.tail _ (List.Mem.tail _ (List.Mem.tail _ (List.Mem.tail _ (List.Mem.tail _ (List.Mem.tail _ (List.Mem.head _))))))) | exact List.Mem.tail _ (List.Mem.tail _ (List.Mem.tail _ (List.Mem.tail _ (List.Mem.tail _ (List.Mem.tail _ (List.Mem.tail _ (List.Mem.tail _ (List.Mem.head _)))))))) | exact (by assumption) | exact List.Mem.tail _ ((by assumption)) | exact List.Mem.tail _ (List.Mem.tail _ ((by assumption))) | exact List.Mem.tail _ (List.Mem.tail _ (List.Mem.tail _ ((by assumption)))) | exact List.Mem.tail _ (List.Mem.tail _ (List.Mem.tail _ (List.Mem.tail _ ((by assumption))))) | exact List.Mem.tail _ (List.Mem.tail _ (List.Mem.tail _ (List.Mem.tail _ (List.Mem.tail _ ((by assumption))))))) (by first | exact List.Mem.head _ | exact List.Mem.tail _ (List.Mem.head _) | exact List.Mem.tail _ (List.Mem.tail _ (List.Mem.head _)) | exact List.Mem.tail _ (List.Mem.tail _ (List.Mem.tail _ (List.Mem.head _))) | exact List.Mem.tail _ (List.Mem.tail _ (List.Mem.tail _ (List.Mem.tail _ (List.Mem.head _)))) | exact List.Mem.tail _ (List.Mem.tail _ (List.Mem.tail _ (List.Mem.tail _ (List.Mem.tail _ (List.Mem.head _))))) | exact List.Mem.tail _ (List.Mem.tail _ (List.Mem.tail _ (List.Mem.tail _ (List.Mem.tail _ (List.Mem.tail _ (List.Mem.head _)))))) | exact List.Mem.tail _ (List.Mem.tail _ (List.Mem.tail _ (List.Mem.tail _ (List.Mem.tail _ (List.Mem.tail _ (List.Mem.tail _ (List.Mem.head _))))))) | exact List.Mem.tail _ (List.Mem.tail _ (List.Mem.tail _ (List.Mem.tail _ (List.Mem.tail _ (List.Mem.tail _ (List.Mem.tail _ (List.Mem.tail _ (List.Mem.head _)))))))) | exact (by assumption) | exact List.Mem.tail _ ((by assumption)) | exact List.Mem.tail _ (List.Mem.tail _ ((by assumption))) | exact List.Mem.tail _ (List.Mem.tail _ (List.Mem.tail _ ((by assumption)))) | exact List.Mem.tail _ (List.Mem.tail _ (List.Mem.tail _ (List.Mem.tail _ ((by assumption))))) | exact List.Mem.tail _ (List.Mem.tail _ (List.Mem.tail _ (List.Mem.tail _ (List.Mem.tail _ ((by assumption)))))))) ?_)
              clear hS; rintro v75 _ w ⟨rfl, Δ4, rfl, hd4⟩ hS; (try simp only [List.cons_append, List.nil_append] at hS)
              refine wl_nil ?_
              refine hK25 _ _ ?_
              refine cw_seq fun K26 hK26 => ?_
              refine cw_region ?_
              refine wl_op rfl rfl (ow_vr (vr_move (v := (ptr p)) rfl) ?_)
              refine wl_op rfl rfl (ow_fn (vs := [(ptr p)]) en_18 rfl hS (disk_Power hd4) ?_)
              clear hS; rintro _ _ w ⟨rfl, Δ5, rfl, hd5⟩ hS; (try simp only [List.cons_append, List.nil_append] at hS)
              refine wl_nil ?_
              obtain ⟨dl, hdl⟩ : ∃ d : Dsk, d = { (crashD (lastD2 a b (a.length + 1 + b.length)) ks).2 with off := false } := ⟨_, rfl⟩
              replace hd5 : DiskAt p dl Δ5 := by rw [hdl]; exact hd5
              have hdw : dl.waits = [] := by rw [hdl]; rfl
              have hdo : dl.off = false := by rw [hdl]
              have hdn : dl.n = 20 := by rw [hdl]; rfl
              have hdL : dl.lasts = lastsD a b ks := by rw [hdl]; rfl
              refine hK26 _ _ ?_
              refine cw_seq fun K27 hK27 => ?_
              refine cw_seq fun K28 hK28 => ?_
              refine cw_region ?_
              refine wl_op rfl rfl (ow_vr (vr_assign (v := .int .i64 0) rfl) ?_)
              refine wl_nil ?_
              refine hK28 _ _ ?_
              refine cw_block ?_
              refine cw_loop (fun m f w => ∃ (i : Nat) (g : Nat → Value), f = (upd (upd (upd (upd (upd g 0 (va)) 1 (vb)) 2 (vk)) 7 (ptr p)) 10 (.int .i64 (i : Int))) ∧ (i ≤ 20) ∧ m = 20 - i ∧ Sat E (Δ5 :: F) w) ⟨0, _, (reb (reb (reb (reb (reb rfl rfl) rfl) rfl) rfl) rfl), ?_, rfl, hS⟩ ?_
              · omega
              clear hS; rintro m f w ⟨i, g, rfl, hI2, rfl, hS⟩
              refine cw_seq fun K29 hK29 => ?_
              refine cw_seq fun K30 hK30 => ?_
              refine cw_region ?_
              refine wl_op rfl rfl (ow_vr (vr_move (v := .int .i64 (i : Int)) rfl) ?_)
              refine wl_op rfl rfl (ow_vr (vr_lss rfl rfl) ?_)
              refine wl_nil ?_
              refine hK30 _ _ ?_
              refine cw_cond rfl rfl (fun hc => ?_) (fun hc => ?_)
              · (try simp only [decide_eq_true_eq, decide_eq_false_iff_not, Bool.not_eq_true, Bool.not_eq_false, Bool.not_eq_true', Bool.not_eq_false', Bool.and_eq_true, Bool.or_eq_true, Bool.and_eq_false_iff, Bool.or_eq_false_iff, Int.not_lt, Int.not_le, gt_iff_lt, ge_iff_le, ne_eq, Decidable.not_not, beq_iff_eq] at hc)
                have hc7 := hc; clear hc
                refine cw_skip ?_
                refine hK29 _ _ ?_
                refine cw_seq fun K31 hK31 => ?_
                refine cw_block ?_
                refine cw_seq fun K32 hK32 => ?_
                have hR := disk_ReadOk hd5 (i : Int) (by rw [hdw]; simp) hdo (by omega) (by rw [hdn]; omega)
                have hrd : readD dl (i : Int) = ((lastsD a b ks (i : Int)).getD zeros32) := by rw [readD, hdw, hdL]; rfl
                rw [hrd, lastsD_at] at hR
                refine cw_region ?_
                refine wl_op rfl rfl (ow_fn (vs := [str _]) en_14 rfl hS (law_Full [] (by simp)) ?_)
                clear hS; rintro _ _ w ⟨rfl, rfl⟩ hS; (try simp only [List.cons_append, List.nil_append] at hS)
                refine wl_op rfl rfl (ow_vr (vr_assign (v := str _) rfl) ?_)
                refine wl_nil ?_
                refine hK32 _ _ ?_
                refine cw_seq fun K33 hK33 => ?_
                refine cw_seq fun K34 hK34 => ?_
                refine cw_region ?_
                refine wl_op rfl rfl (ow_vr (vr_move (v := .int .i64 (i : Int)) rfl) ?_)
                refine wl_op rfl rfl (ow_vr (vr_move (v := va) rfl) ?_)
                first | (refine wl_op rfl rfl (ow_vr (vr_len_sl Try.underlying22 rfl) ?_)) | (refine wl_op rfl rfl (ow_vr (vr_len_v (v := va) Try.underlying22 rfl (by first | assumption | (refine Own.view ?_ (by assumption); exact fun _ => rfl) | exact OwnB.view (by assumption))) ?_))
                refine wl_op rfl rfl (ow_vr (vr_lss rfl rfl) ?_)
                refine wl_nil ?_
                refine hK34 _ _ ?_
                refine cw_cond rfl rfl (fun hc => ?_) (fun hc => ?_)
                · (try simp only [decide_eq_true_eq, decide_eq_false_iff_not, Bool.not_eq_true, Bool.not_eq_false, Bool.not_eq_true', Bool.not_eq_false', Bool.and_eq_true, Bool.or_eq_true, Bool.and_eq_false_iff, Bool.or_eq_false_iff, Int.not_lt, Int.not_le, gt_iff_lt, ge_iff_le, ne_eq, Decidable.not_not, beq_iff_eq] at hc)
                  have hc8 := hc; clear hc
                  have hai : a[i]? = some a[i] := List.getElem?_eq_getElem (show i < a.length by omega)
                  rw [hai] at hR
                  refine cw_region ?_
                  refine wl_op rfl rfl (ow_vr (vr_move (v := va) rfl) ?_)
                  refine wl_op rfl rfl (ow_vr (vr_move (v := .int .i64 (i : Int)) rfl) ?_)
                  first | (refine wl_op rfl rfl (ow_vr (vr_indexAddr Try.underlying22 sz_9 rfl rfl (by omega) (by omega)) ?_)) | (refine wl_op rfl rfl (ow_vr (vr_indexV (v := va) Try.underlying22 sz_9 rfl (by first | assumption | (refine Own.view ?_ (by assumption); exact fun _ => rfl) | exact OwnB.view (by assumption)) rfl (by omega) (by first | omega | (simp <;> omega))) ?_))
                  refine wl_op rfl rfl (ow_lr (S := Sat _ _) (lr_loadV1 (u := str _) Try.underlying9 rfl rfl (by first | assumption | (refine Own.view ?_ (by assumption); exact fun _ => rfl) | exact OwnB.view (by assumption)) (by first | exact List.Mem.head _ | exact List.Mem.tail _ (List.Mem.head _) | exact List.Mem.tail _ (List.Mem.tail _ (List.Mem.head _)) | exact List.Mem.tail _ (List.Mem.tail _ (List.Mem.tail _ (List.Mem.head _))) | exact List.Mem.tail _ (List.Mem.tail _ (List.Mem.tail _ (List.Mem.tail _ (List.Mem.head _)))) | exact List.Mem.tail _ (List.Mem.tail _ (List.Mem.tail _ (List.Mem.tail _ (List.Mem.tail _ (List.Mem.head _))))) | exact List.Mem.tail _ (List.Mem.tail _ (List.Mem.tail _ (List.Mem.tail _ (List.Mem.tail _ (List.Mem.tail _ (List.Mem.head _)))))) | exact List.Mem.tail _ (List.Mem.tail _ (List.Mem.tail _ (List.Mem.tail _ (List.Mem.tail _ (List.Mem.tail _ (List.Mem.tail _ (List.Mem.head _))))))) | exact List.Mem.tail _ (List.Mem.tail _ (List.Mem.tail _ (List.Mem.tail _ (List.Mem.tail _ (List.Mem.tail _ (List.Mem.tail _ (List.Mem.tail _ (List.Mem.head _)))))))) | exact (by assumption) | exact List.Mem.tail _ ((by assumption)) | exact List.Mem.tail _ (List.Mem.tail _ ((by assumption))) | exact List.Mem.tail _ (List.Mem.tail _ (List.Mem.tail _ ((by assumption)))) | exact List.Mem.tail _ (List.Mem.tail _ (List.Mem.tail _ (List.Mem.tail _ ((by assumption))))) | exact List.Mem.tail _ (List.Mem.tail _ (List.Mem.tail _ (List.Mem.tail _ (List.Mem.tail _ ((by assumption))))))) (List.getElem?_eq_getElem (show i < a.length by omega)) (by exact fun _ => rfl) (by rfl)) hS ?_)
                  refine wl_op rfl rfl (ow_fn (vs := [str _]) en_14 rfl hS (law_Full a[i] (ha _ (List.getElem_mem _))) ?_)
                  clear hS; rintro _ _ w ⟨rfl, rfl⟩ hS; (try simp only [List.cons_append, List.nil_append] at hS)
                  refine wl_op rfl rfl (ow_vr (vr_assign (v := str _) rfl) ?_)
                  refine wl_nil ?_
                  refine hK33 _ _ ?_
                  refine cw_seq fun K35 hK35 => ?_
                  refine cw_seq fun K36 hK36 => ?_
                  refine cw_region ?_
                  refine wl_op rfl rfl (ow_vr (vr_move (v := .int .i64 (i : Int)) rfl) ?_)
                  refine wl_op rfl rfl (ow_vr (vr_move (v := vb) rfl) ?_)
                  first | (refine wl_op rfl rfl (ow_vr (vr_len_sl Try.underlying22 rfl) ?_)) | (refine wl_op rfl rfl (ow_vr (vr_len_v (v := vb) Try.underlying22 rfl (by first | assumption | (refine Own.view ?_ (by assumption); exact fun _ => rfl) | exact OwnB.view (by assumption))) ?_))
                  refine wl_op rfl rfl (ow_vr (vr_lss rfl rfl) ?_)
                  refine wl_op rfl rfl (ow_vr (vr_move (v := .bool _) rfl) ?_)
                  refine wl_split 96 rfl (fun hc => ?_) (fun hc => ?_)
                  · (try simp only [decide_eq_true_eq, decide_eq_false_iff_not, Bool.not_eq_true, Bool.not_eq_false, Bool.not_eq_true', Bool.not_eq_false', Bool.and_eq_true, Bool.or_eq_true, Bool.and_eq_false_iff, Bool.or_eq_false_iff, Int.not_lt, Int.not_le, gt_iff_lt, ge_iff_le, ne_eq, Decidable.not_not, beq_iff_eq] at hc)
                    have hg96 := hc; clear hc
                    refine wl_yes rfl rfl rfl rfl rfl (ow_vr (vr_move (v := .int .i64 (i : Int)) rfl) ?_)
                    refine wl_yes rfl rfl rfl rfl rfl (ow_vr (vr_move (v := vk) rfl) ?_)
                    first | (refine wl_yes rfl rfl rfl rfl rfl (ow_vr (vr_len_sl Try.underlying23 rfl) ?_)) | (refine wl_yes rfl rfl rfl rfl rfl (ow_vr (vr_len_v (v := vk) Try.underlying23 rfl (by first | assumption | (refine Own.view ?_ (by assumption); exact fun _ => rfl) | exact OwnB.view (by assumption))) ?_))
                    refine wl_yes rfl rfl rfl rfl rfl (ow_vr (vr_lss rfl rfl) ?_)
                    refine wl_op rfl rfl (ow_vr (vr_pick (b := true) (v := .bool _) rfl rfl) ?_)
                    refine wl_op rfl rfl (ow_vr (vr_move (v := .bool _) rfl) ?_)
                    refine wl_split 102 rfl (fun hc => ?_) (fun hc => ?_)
                    · (try simp only [decide_eq_true_eq, decide_eq_false_iff_not, Bool.not_eq_true, Bool.not_eq_false, Bool.not_eq_true', Bool.not_eq_false', Bool.and_eq_true, Bool.or_eq_true, Bool.and_eq_false_iff, Bool.or_eq_false_iff, Int.not_lt, Int.not_le, gt_iff_lt, ge_iff_le, ne_eq, Decidable.not_not, beq_iff_eq] at hc)
                      have hg102 := hc; clear hc
                      refine wl_yes rfl rfl rfl rfl rfl (ow_vr (vr_move (v := vk) rfl) ?_)
                      refine wl_yes rfl rfl rfl rfl rfl (ow_vr (vr_move (v := .int .i64 (i : Int)) rfl) ?_)
                      first | (refine wl_yes rfl rfl rfl rfl rfl (ow_vr (vr_indexAddr Try.underlying23 sz_3 rfl rfl (by omega) (by omega)) ?_)) | (refine wl_yes rfl rfl rfl rfl rfl (ow_vr (vr_indexV (v := vk) Try.underlying23 sz_3 rfl (by first | assumption | (refine Own.view ?_ (by assumption); exact fun _ => rfl) | exact OwnB.view (by assumption)) rfl (by omega) (by first | omega | (simp <;> omega))) ?_))
                      refine wl_yes rfl rfl rfl rfl rfl (ow_lr (S := Sat _ _) (lr_loadV1 (u := .int .i64 _) Try.underlying3 rfl rfl (by first | assumption | (refine Own.view ?_ (by assumption); exact fun _ => rfl) | exact OwnB.view (by assumption)) (by first | exact List.Mem.head _ | exact List.Mem.tail _ (List.Mem.head _) | exact List.Mem.tail _ (List.Mem.tail _ (List.Mem.head _)) | exact List.Mem.tail _ (List.Mem.tail _ (List.Mem.tail _ (List.Mem.head _))) | exact List.Mem.tail _ (List.Mem.tail _ (List.Mem.tail _ (List.Mem.tail _ (List.Mem.head _)))) | exact List.Mem.tail _ (List.Mem.tail _ (List.Mem.tail _ (List.Mem.tail _ (List.Mem.tail _ (List.Mem.head _))))) | exact List.Mem.tail _ (List.Mem.tail _ (List.Mem.tail _ (List.Mem.tail _ (List.Mem.tail _ (List.Mem.tail _ (List.Mem.head _)))))) | exact List.Mem.tail _ (List.Mem.tail _ (List.Mem.tail _ (List.Mem.tail _ (List.Mem.tail _ (List.Mem.tail _ (List.Mem.tail _ (List.Mem.head _))))))) | exact List.Mem.tail _ (List.Mem.tail _ (List.Mem.tail _ (List.Mem.tail _ (List.Mem.tail _ (List.Mem.tail _ (List.Mem.tail _ (List.Mem.tail _ (List.Mem.head _)))))))) | exact (by assumption) | exact List.Mem.tail _ ((by assumption)) | exact List.Mem.tail _ (List.Mem.tail _ ((by assumption))) | exact List.Mem.tail _ (List.Mem.tail _ (List.Mem.tail _ ((by assumption)))) | exact List.Mem.tail _ (List.Mem.tail _ (List.Mem.tail _ (List.Mem.tail _ ((by assumption))))) | exact List.Mem.tail _ (List.Mem.tail _ (List.Mem.tail _ (List.Mem.tail _ (List.Mem.tail _ ((by assumption))))))) (List.getElem?_eq_getElem (show i < ks.length by omega)) (by exact fun _ => rfl) (by rfl)) hS ?_)
                      refine wl_yes rfl rfl rfl rfl rfl (ow_vr (vr_and_any rfl rfl) ?_)
                      refine wl_yes rfl rfl rfl rfl rfl (ow_vr (vr_eql rfl rfl) ?_)
                      refine wl_op rfl rfl (ow_vr (vr_pick (b := true) (v := .bool _) rfl rfl) ?_)
                      refine wl_nil ?_
                      refine hK36 _ _ ?_
                      refine cw_cond rfl rfl (fun hc => ?_) (fun hc => ?_)
                      · (try simp only [decide_eq_true_eq, decide_eq_false_iff_not, Bool.not_eq_true, Bool.not_eq_false, Bool.not_eq_true', Bool.not_eq_false', Bool.and_eq_true, Bool.or_eq_true, Bool.and_eq_false_iff, Bool.or_eq_false_iff, Int.not_lt, Int.not_le, gt_iff_lt, ge_iff_le, ne_eq, Decidable.not_not, beq_iff_eq] at hc)
                        have hkept := hc; clear hc
                        have hkp : keptB ks i = true := by rw [kept_some (by omega)]; simpa using hkept
                        have hbi : b[i]? = some b[i] := List.getElem?_eq_getElem (show i < b.length by omega)
                        rw [if_pos ⟨by omega, hkp⟩, hbi] at hR
                        refine cw_region ?_
                        refine wl_op rfl rfl (ow_vr (vr_move (v := vb) rfl) ?_)
                        refine wl_op rfl rfl (ow_vr (vr_move (v := .int .i64 (i : Int)) rfl) ?_)
                        first | (refine wl_op rfl rfl (ow_vr (vr_indexAddr Try.underlying22 sz_9 rfl rfl (by omega) (by omega)) ?_)) | (refine wl_op rfl rfl (ow_vr (vr_indexV (v := vb) Try.underlying22 sz_9 rfl (by first | assumption | (refine Own.view ?_ (by assumption); exact fun _ => rfl) | exact OwnB.view (by assumption)) rfl (by omega) (by first | omega | (simp <;> omega))) ?_))
                        refine wl_op rfl rfl (ow_lr (S := Sat _ _) (lr_loadV1 (u := str _) Try.underlying9 rfl rfl (by first | assumption | (refine Own.view ?_ (by assumption); exact fun _ => rfl) | exact OwnB.view (by assumption)) (by first | exact List.Mem.head _ | exact List.Mem.tail _ (List.Mem.head _) | exact List.Mem.tail _ (List.Mem.tail _ (List.Mem.head _)) | exact List.Mem.tail _ (List.Mem.tail _ (List.Mem.tail _ (List.Mem.head _))) | exact List.Mem.tail _ (List.Mem.tail _ (List.Mem.tail _ (List.Mem.tail _ (List.Mem.head _)))) | exact List.Mem.tail _ (List.Mem.tail _ (List.Mem.tail _ (List.Mem.tail _ (List.Mem.tail _ (List.Mem.head _))))) | exact List.Mem.tail _ (List.Mem.tail _ (List.Mem.tail _ (List.Mem.tail _ (List.Mem.tail _ (List.Mem.tail _ (List.Mem.head _)))))) | exact List.Mem.tail _ (List.Mem.tail _ (List.Mem.tail _ (List.Mem.tail _ (List.Mem.tail _ (List.Mem.tail _ (List.Mem.tail _ (List.Mem.head _))))))) | exact List.Mem.tail _ (List.Mem.tail _ (List.Mem.tail _ (List.Mem.tail _ (List.Mem.tail _ (List.Mem.tail _ (List.Mem.tail _ (List.Mem.tail _ (List.Mem.head _)))))))) | exact (by assumption) | exact List.Mem.tail _ ((by assumption)) | exact List.Mem.tail _ (List.Mem.tail _ ((by assumption))) | exact List.Mem.tail _ (List.Mem.tail _ (List.Mem.tail _ ((by assumption)))) | exact List.Mem.tail _ (List.Mem.tail _ (List.Mem.tail _ (List.Mem.tail _ ((by assumption))))) | exact List.Mem.tail _ (List.Mem.tail _ (List.Mem.tail _ (List.Mem.tail _ (List.Mem.tail _ ((by assumption))))))) (List.getElem?_eq_getElem (show i < b.length by omega)) (by exact fun _ => rfl) (by rfl)) hS ?_)
                        refine wl_op rfl rfl (ow_fn (vs := [str _]) en_14 rfl hS (law_Full b[i] (hb _ (List.getElem_mem _))) ?_)
                        clear hS; rintro _ _ w ⟨rfl, rfl⟩ hS; (try simp only [List.cons_append, List.nil_append] at hS)
                        refine wl_op rfl rfl (ow_vr (vr_assign (v := str _) rfl) ?_)
                        refine wl_nil ?_
                        refine hK35 _ _ ?_
                        refine cw_seq fun K37 hK37 => ?_
                        have hnop := hR
                        refine cw_region ?_
                        refine wl_op rfl rfl (ow_vr (vr_move (v := (ptr p)) rfl) ?_)
                        refine wl_op rfl rfl (ow_vr (vr_move (v := .int .i64 (i : Int)) rfl) ?_)
                        refine wl_op rfl rfl (ow_fn (vs := [(ptr p), .int .i64 (i : Int)]) en_16 rfl hS (hR) ?_)
                        clear hS; rintro _ _ w ⟨rfl, rfl⟩ hS; (try simp only [List.cons_append, List.nil_append] at hS)
                        refine wl_op rfl rfl (ow_vr (vr_move (v := .tuple _) rfl) ?_)
                        refine wl_op rfl rfl (ow_vr (vr_extract (v := str _) rfl rfl) ?_)
                        refine wl_op rfl rfl (ow_vr (vr_extract (v := .int .i64 _) rfl rfl) ?_)
                        refine wl_op rfl rfl (ow_vr (vr_assign (v := str _) rfl) ?_)
                        refine wl_op rfl rfl (ow_vr (vr_assign (v := .int .i64 _) rfl) ?_)
                        refine wl_nil ?_
                        refine hK37 _ _ ?_
                        refine cw_seq fun K38 hK38 => ?_
                        refine cw_region ?_
                        refine wl_op rfl rfl (ow_vr (vr_move (v := .int .i64 _) rfl) ?_)
                        refine wl_op rfl rfl (ow_vr (vr_neq rfl rfl) ?_)
                        refine wl_op rfl rfl (ow_vr (vr_move (v := .bool _) rfl) ?_)
                        refine wl_known 123 rfl (c := false) (by decide) ?_
                        refine wl_yes rfl rfl rfl rfl rfl (ow_vr (vr_move (v := str _) rfl) ?_)
                        refine wl_yes rfl rfl rfl rfl rfl (ow_vr (vr_move (v := str _) rfl) ?_)
                        refine wl_yes rfl rfl rfl rfl rfl (ow_vr (vr_neq_s rfl rfl) ?_)
                        refine wl_op rfl rfl (ow_vr (vr_pick (b := false) (v := .bool _) rfl rfl) ?_)
                        refine wl_nil ?_
                        refine hK38 _ _ ?_
                        refine cw_cond_f rfl rfl (by simp [full_nil]) ?_
                        refine cw_skip ?_
                        refine hK31 _ _ ?_
                        refine cw_region ?_
                        refine wl_op rfl rfl (ow_vr (vr_move (v := .int .i64 (i : Int)) rfl) ?_)
                        first | (refine wl_op rfl rfl (ow_vr (vr_addi rfl rfl (by unfold inI64; omega)) ?_)) | (refine wl_op rfl rfl (ow_vr (vr_add rfl rfl) ?_))
                        refine wl_op rfl rfl (ow_vr (vr_assign (v := .int .i64 _) rfl) ?_)
                        refine wl_nil ?_
                        refine thenF_normal ⟨_, ?_, i + 1, _, (reb (reb (reb (reb (reb rfl rfl) rfl) rfl) rfl) rfl), ?_, rfl, hS⟩
                        · omega
                        · omega
                      · (try simp only [decide_eq_true_eq, decide_eq_false_iff_not, Bool.not_eq_true, Bool.not_eq_false, Bool.not_eq_true', Bool.not_eq_false', Bool.and_eq_true, Bool.or_eq_true, Bool.and_eq_false_iff, Bool.or_eq_false_iff, Int.not_lt, Int.not_le, gt_iff_lt, ge_iff_le, ne_eq, Decidable.not_not, beq_iff_eq] at hc)
                        have hkept := hc; clear hc
                        refine cw_skip ?_
                        refine hK35 _ _ ?_
                        refine cw_seq fun K39 hK39 => ?_
                        have hnk : ¬ (i < b.length ∧ keptB ks i = true) := by rintro ⟨h1, h2⟩; first | omega | (rw [kept_some (by omega)] at h2; simp_all; done) | (rw [kept_none (by omega)] at h2; cases h2)
                        rw [if_neg hnk] at hR
                        try rw [List.getElem?_eq_none (show a.length ≤ i by omega)] at hR
                        refine cw_region ?_
                        refine wl_op rfl rfl (ow_vr (vr_move (v := (ptr p)) rfl) ?_)
                        refine wl_op rfl rfl (ow_vr (vr_move (v := .int .i64 (i : Int)) rfl) ?_)
                        refine wl_op rfl rfl (ow_fn (vs := [(ptr p), .int .i64 (i : Int)]) en_16 rfl hS (hR) ?_)
                        clear hS; rintro _ _ w ⟨rfl, rfl⟩ hS; (try simp only [List.cons_append, List.nil_append] at hS)
                        refine wl_op rfl rfl (ow_vr (vr_move (v := .tuple _) rfl) ?_)
                        refine wl_op rfl rfl (ow_vr (vr_extract (v := str _) rfl rfl) ?_)
                        refine wl_op rfl rfl (ow_vr (vr_extract (v := .int .i64 _) rfl rfl) ?_)
                        refine wl_op rfl rfl (ow_vr (vr_assign (v := str _) rfl) ?_)
                        refine wl_op rfl rfl (ow_vr (vr_assign (v := .int .i64 _) rfl) ?_)
                        refine wl_nil ?_
                        refine hK39 _ _ ?_
                        refine cw_seq fun K40 hK40 => ?_
                        refine cw_region ?_
                        refine wl_op rfl rfl (ow_vr (vr_move (v := .int .i64 _) rfl) ?_)
                        refine wl_op rfl rfl (ow_vr (vr_neq rfl rfl) ?_)
                        refine wl_op rfl rfl (ow_vr (vr_move (v := .bool _) rfl) ?_)
                        refine wl_known 123 rfl (c := false) (by decide) ?_
                        refine wl_yes rfl rfl rfl rfl rfl (ow_vr (vr_move (v := str _) rfl) ?_)
                        refine wl_yes rfl rfl rfl rfl rfl (ow_vr (vr_move (v := str _) rfl) ?_)
                        refine wl_yes rfl rfl rfl rfl rfl (ow_vr (vr_neq_s rfl rfl) ?_)
                        refine wl_op rfl rfl (ow_vr (vr_pick (b := false) (v := .bool _) rfl rfl) ?_)
                        refine wl_nil ?_
                        refine hK40 _ _ ?_
                        refine cw_cond_f rfl rfl (by simp [full_nil]) ?_
                        refine cw_skip ?_
                        refine hK31 _ _ ?_
                        refine cw_region ?_
                        refine wl_op rfl rfl (ow_vr (vr_move (v := .int .i64 (i : Int)) rfl) ?_)
                        first | (refine wl_op rfl rfl (ow_vr (vr_addi rfl rfl (by unfold inI64; omega)) ?_)) | (refine wl_op rfl rfl (ow_vr (vr_add rfl rfl) ?_))
                        refine wl_op rfl rfl (ow_vr (vr_assign (v := .int .i64 _) rfl) ?_)
                        refine wl_nil ?_
                        refine thenF_normal ⟨_, ?_, i + 1, _, (reb (reb (reb (reb (reb rfl rfl) rfl) rfl) rfl) rfl), ?_, rfl, hS⟩
                        · omega
                        · omega
                    · (try simp only [decide_eq_true_eq, decide_eq_false_iff_not, Bool.not_eq_true, Bool.not_eq_false, Bool.not_eq_true', Bool.not_eq_false', Bool.and_eq_true, Bool.or_eq_true, Bool.and_eq_false_iff, Bool.or_eq_false_iff, Int.not_lt, Int.not_le, gt_iff_lt, ge_iff_le, ne_eq, Decidable.not_not, beq_iff_eq] at hc)
                      have hg102 := hc; clear hc
                      refine wl_noD rfl rfl rfl rfl rfl rfl ?_
                      refine wl_noD rfl rfl rfl rfl rfl rfl ?_
                      refine wl_noD rfl rfl rfl rfl rfl rfl ?_
                      refine wl_noD rfl rfl rfl rfl rfl rfl ?_
                      refine wl_noD rfl rfl rfl rfl rfl rfl ?_
                      refine wl_noD rfl rfl rfl rfl rfl rfl ?_
                      refine wl_op rfl rfl (ow_vr (vr_pick (b := false) (v := .bool _) rfl rfl) ?_)
                      refine wl_nil ?_
                      refine hK36 _ _ ?_
                      refine cw_cond_f rfl rfl (rfl) ?_
                      refine cw_skip ?_
                      refine hK35 _ _ ?_
                      refine cw_seq fun K41 hK41 => ?_
                      have hnk : ¬ (i < b.length ∧ keptB ks i = true) := by rintro ⟨h1, h2⟩; first | omega | (rw [kept_some (by omega)] at h2; simp_all; done) | (rw [kept_none (by omega)] at h2; cases h2)
                      rw [if_neg hnk] at hR
                      try rw [List.getElem?_eq_none (show a.length ≤ i by omega)] at hR
                      refine cw_region ?_
                      refine wl_op rfl rfl (ow_vr (vr_move (v := (ptr p)) rfl) ?_)
                      refine wl_op rfl rfl (ow_vr (vr_move (v := .int .i64 (i : Int)) rfl) ?_)
                      refine wl_op rfl rfl (ow_fn (vs := [(ptr p), .int .i64 (i : Int)]) en_16 rfl hS (hR) ?_)
                      clear hS; rintro _ _ w ⟨rfl, rfl⟩ hS; (try simp only [List.cons_append, List.nil_append] at hS)
                      refine wl_op rfl rfl (ow_vr (vr_move (v := .tuple _) rfl) ?_)
                      refine wl_op rfl rfl (ow_vr (vr_extract (v := str _) rfl rfl) ?_)
                      refine wl_op rfl rfl (ow_vr (vr_extract (v := .int .i64 _) rfl rfl) ?_)
                      refine wl_op rfl rfl (ow_vr (vr_assign (v := str _) rfl) ?_)
                      refine wl_op rfl rfl (ow_vr (vr_assign (v := .int .i64 _) rfl) ?_)
                      refine wl_nil ?_
                      refine hK41 _ _ ?_
                      refine cw_seq fun K42 hK42 => ?_
                      refine cw_region ?_
                      refine wl_op rfl rfl (ow_vr (vr_move (v := .int .i64 _) rfl) ?_)
                      refine wl_op rfl rfl (ow_vr (vr_neq rfl rfl) ?_)
                      refine wl_op rfl rfl (ow_vr (vr_move (v := .bool _) rfl) ?_)
                      refine wl_known 123 rfl (c := false) (by decide) ?_
                      refine wl_yes rfl rfl rfl rfl rfl (ow_vr (vr_move (v := str _) rfl) ?_)
                      refine wl_yes rfl rfl rfl rfl rfl (ow_vr (vr_move (v := str _) rfl) ?_)
                      refine wl_yes rfl rfl rfl rfl rfl (ow_vr (vr_neq_s rfl rfl) ?_)
                      refine wl_op rfl rfl (ow_vr (vr_pick (b := false) (v := .bool _) rfl rfl) ?_)
                      refine wl_nil ?_
                      refine hK42 _ _ ?_
                      refine cw_cond_f rfl rfl (by simp [full_nil]) ?_
                      refine cw_skip ?_
                      refine hK31 _ _ ?_
                      refine cw_region ?_
                      refine wl_op rfl rfl (ow_vr (vr_move (v := .int .i64 (i : Int)) rfl) ?_)
                      first | (refine wl_op rfl rfl (ow_vr (vr_addi rfl rfl (by unfold inI64; omega)) ?_)) | (refine wl_op rfl rfl (ow_vr (vr_add rfl rfl) ?_))
                      refine wl_op rfl rfl (ow_vr (vr_assign (v := .int .i64 _) rfl) ?_)
                      refine wl_nil ?_
                      refine thenF_normal ⟨_, ?_, i + 1, _, (reb (reb (reb (reb (reb rfl rfl) rfl) rfl) rfl) rfl), ?_, rfl, hS⟩
                      · omega
                      · omega
                  · (try simp only [decide_eq_true_eq, decide_eq_false_iff_not, Bool.not_eq_true, Bool.not_eq_false, Bool.not_eq_true', Bool.not_eq_false', Bool.and_eq_true, Bool.or_eq_true, Bool.and_eq_false_iff, Bool.or_eq_false_iff, Int.not_lt, Int.not_le, gt_iff_lt, ge_iff_le, ne_eq, Decidable.not_not, beq_iff_eq] at hc)
                    have hg96 := hc; clear hc
                    refine wl_noD rfl rfl rfl rfl rfl rfl ?_
                    refine wl_noD rfl rfl rfl rfl rfl rfl ?_
                    refine wl_noD rfl rfl rfl rfl rfl rfl ?_
                    refine wl_noD rfl rfl rfl rfl rfl rfl ?_
                    refine wl_op rfl rfl (ow_vr (vr_pick (b := false) (v := .bool _) rfl rfl) ?_)
                    refine wl_op rfl rfl (ow_vr (vr_move (v := .bool _) rfl) ?_)
                    refine wl_noD rfl rfl rfl rfl rfl rfl ?_
                    refine wl_noD rfl rfl rfl rfl rfl rfl ?_
                    refine wl_noD rfl rfl rfl rfl rfl rfl ?_
                    refine wl_noD rfl rfl rfl rfl rfl rfl ?_
                    refine wl_noD rfl rfl rfl rfl rfl rfl ?_
                    refine wl_noD rfl rfl rfl rfl rfl rfl ?_
                    refine wl_op rfl rfl (ow_vr (vr_pick (b := false) (v := .bool _) rfl rfl) ?_)
                    refine wl_nil ?_
                    refine hK36 _ _ ?_
                    refine cw_cond_f rfl rfl (rfl) ?_
                    refine cw_skip ?_
                    refine hK35 _ _ ?_
                    refine cw_seq fun K43 hK43 => ?_
                    have hnk : ¬ (i < b.length ∧ keptB ks i = true) := by rintro ⟨h1, h2⟩; first | omega | (rw [kept_some (by omega)] at h2; simp_all; done) | (rw [kept_none (by omega)] at h2; cases h2)
                    rw [if_neg hnk] at hR
                    try rw [List.getElem?_eq_none (show a.length ≤ i by omega)] at hR
                    refine cw_region ?_
                    refine wl_op rfl rfl (ow_vr (vr_move (v := (ptr p)) rfl) ?_)
                    refine wl_op rfl rfl (ow_vr (vr_move (v := .int .i64 (i : Int)) rfl) ?_)
                    refine wl_op rfl rfl (ow_fn (vs := [(ptr p), .int .i64 (i : Int)]) en_16 rfl hS (hR) ?_)
                    clear hS; rintro _ _ w ⟨rfl, rfl⟩ hS; (try simp only [List.cons_append, List.nil_append] at hS)
                    refine wl_op rfl rfl (ow_vr (vr_move (v := .tuple _) rfl) ?_)
                    refine wl_op rfl rfl (ow_vr (vr_extract (v := str _) rfl rfl) ?_)
                    refine wl_op rfl rfl (ow_vr (vr_extract (v := .int .i64 _) rfl rfl) ?_)
                    refine wl_op rfl rfl (ow_vr (vr_assign (v := str _) rfl) ?_)
                    refine wl_op rfl rfl (ow_vr (vr_assign (v := .int .i64 _) rfl) ?_)
                    refine wl_nil ?_
                    refine hK43 _ _ ?_
                    refine cw_seq fun K44 hK44 => ?_
                    refine cw_region ?_
                    refine wl_op rfl rfl (ow_vr (vr_move (v := .int .i64 _) rfl) ?_)
                    refine wl_op rfl rfl (ow_vr (vr_neq rfl rfl) ?_)
                    refine wl_op rfl rfl (ow_vr (vr_move (v := .bool _) rfl) ?_)
                    refine wl_known 123 rfl (c := false) (by decide) ?_
                    refine wl_yes rfl rfl rfl rfl rfl (ow_vr (vr_move (v := str _) rfl) ?_)
                    refine wl_yes rfl rfl rfl rfl rfl (ow_vr (vr_move (v := str _) rfl) ?_)
                    refine wl_yes rfl rfl rfl rfl rfl (ow_vr (vr_neq_s rfl rfl) ?_)
                    refine wl_op rfl rfl (ow_vr (vr_pick (b := false) (v := .bool _) rfl rfl) ?_)
                    refine wl_nil ?_
                    refine hK44 _ _ ?_
                    refine cw_cond_f rfl rfl (by simp [full_nil]) ?_
                    refine cw_skip ?_
                    refine hK31 _ _ ?_
                    refine cw_region ?_
                    refine wl_op rfl rfl (ow_vr (vr_move (v := .int .i64 (i : Int)) rfl) ?_)
                    first | (refine wl_op rfl rfl (ow_vr (vr_addi rfl rfl (by unfold inI64; omega)) ?_)) | (refine wl_op rfl rfl (ow_vr (vr_add rfl rfl) ?_))
                    refine wl_op rfl rfl (ow_vr (vr_assign (v := .int .i64 _) rfl) ?_)
                    refine wl_nil ?_
                    refine thenF_normal ⟨_, ?_, i + 1, _, (reb (reb (reb (reb (reb rfl rfl) rfl) rfl) rfl) rfl), ?_, rfl, hS⟩
                    · omega
                    · omega
                · (try simp only [decide_eq_true_eq, decide_eq_false_iff_not, Bool.not_eq_true, Bool.not_eq_false, Bool.not_eq_true', Bool.not_eq_false', Bool.and_eq_true, Bool.or_eq_true, Bool.and_eq_false_iff, Bool.or_eq_false_iff, Int.not_lt, Int.not_le, gt_iff_lt, ge_iff_le, ne_eq, Decidable.not_not, beq_iff_eq] at hc)
                  have hc8 := hc; clear hc
                  refine cw_skip ?_
                  refine hK33 _ _ ?_
                  refine cw_seq fun K45 hK45 => ?_
                  refine cw_seq fun K46 hK46 => ?_
                  refine cw_region ?_
                  refine wl_op rfl rfl (ow_vr (vr_move (v := .int .i64 (i : Int)) rfl) ?_)
                  refine wl_op rfl rfl (ow_vr (vr_move (v := vb) rfl) ?_)
                  first | (refine wl_op rfl rfl (ow_vr (vr_len_sl Try.underlying22 rfl) ?_)) | (refine wl_op rfl rfl (ow_vr (vr_len_v (v := vb) Try.underlying22 rfl (by first | assumption | (refine Own.view ?_ (by assumption); exact fun _ => rfl) | exact OwnB.view (by assumption))) ?_))
                  refine wl_op rfl rfl (ow_vr (vr_lss rfl rfl) ?_)
                  refine wl_op rfl rfl (ow_vr (vr_move (v := .bool _) rfl) ?_)
                  refine wl_split 96 rfl (fun hc => ?_) (fun hc => ?_)
                  · (try simp only [decide_eq_true_eq, decide_eq_false_iff_not, Bool.not_eq_true, Bool.not_eq_false, Bool.not_eq_true', Bool.not_eq_false', Bool.and_eq_true, Bool.or_eq_true, Bool.and_eq_false_iff, Bool.or_eq_false_iff, Int.not_lt, Int.not_le, gt_iff_lt, ge_iff_le, ne_eq, Decidable.not_not, beq_iff_eq] at hc)
                    have hg96 := hc; clear hc
                    refine wl_yes rfl rfl rfl rfl rfl (ow_vr (vr_move (v := .int .i64 (i : Int)) rfl) ?_)
                    refine wl_yes rfl rfl rfl rfl rfl (ow_vr (vr_move (v := vk) rfl) ?_)
                    first | (refine wl_yes rfl rfl rfl rfl rfl (ow_vr (vr_len_sl Try.underlying23 rfl) ?_)) | (refine wl_yes rfl rfl rfl rfl rfl (ow_vr (vr_len_v (v := vk) Try.underlying23 rfl (by first | assumption | (refine Own.view ?_ (by assumption); exact fun _ => rfl) | exact OwnB.view (by assumption))) ?_))
                    refine wl_yes rfl rfl rfl rfl rfl (ow_vr (vr_lss rfl rfl) ?_)
                    refine wl_op rfl rfl (ow_vr (vr_pick (b := true) (v := .bool _) rfl rfl) ?_)
                    refine wl_op rfl rfl (ow_vr (vr_move (v := .bool _) rfl) ?_)
                    refine wl_split 102 rfl (fun hc => ?_) (fun hc => ?_)
                    · (try simp only [decide_eq_true_eq, decide_eq_false_iff_not, Bool.not_eq_true, Bool.not_eq_false, Bool.not_eq_true', Bool.not_eq_false', Bool.and_eq_true, Bool.or_eq_true, Bool.and_eq_false_iff, Bool.or_eq_false_iff, Int.not_lt, Int.not_le, gt_iff_lt, ge_iff_le, ne_eq, Decidable.not_not, beq_iff_eq] at hc)
                      have hg102 := hc; clear hc
                      refine wl_yes rfl rfl rfl rfl rfl (ow_vr (vr_move (v := vk) rfl) ?_)
                      refine wl_yes rfl rfl rfl rfl rfl (ow_vr (vr_move (v := .int .i64 (i : Int)) rfl) ?_)
                      first | (refine wl_yes rfl rfl rfl rfl rfl (ow_vr (vr_indexAddr Try.underlying23 sz_3 rfl rfl (by omega) (by omega)) ?_)) | (refine wl_yes rfl rfl rfl rfl rfl (ow_vr (vr_indexV (v := vk) Try.underlying23 sz_3 rfl (by first | assumption | (refine Own.view ?_ (by assumption); exact fun _ => rfl) | exact OwnB.view (by assumption)) rfl (by omega) (by first | omega | (simp <;> omega))) ?_))
                      refine wl_yes rfl rfl rfl rfl rfl (ow_lr (S := Sat _ _) (lr_loadV1 (u := .int .i64 _) Try.underlying3 rfl rfl (by first | assumption | (refine Own.view ?_ (by assumption); exact fun _ => rfl) | exact OwnB.view (by assumption)) (by first | exact List.Mem.head _ | exact List.Mem.tail _ (List.Mem.head _) | exact List.Mem.tail _ (List.Mem.tail _ (List.Mem.head _)) | exact List.Mem.tail _ (List.Mem.tail _ (List.Mem.tail _ (List.Mem.head _))) | exact List.Mem.tail _ (List.Mem.tail _ (List.Mem.tail _ (List.Mem.tail _ (List.Mem.head _)))) | exact List.Mem.tail _ (List.Mem.tail _ (List.Mem.tail _ (List.Mem.tail _ (List.Mem.tail _ (List.Mem.head _))))) | exact List.Mem.tail _ (List.Mem.tail _ (List.Mem.tail _ (List.Mem.tail _ (List.Mem.tail _ (List.Mem.tail _ (List.Mem.head _)))))) | exact List.Mem.tail _ (List.Mem.tail _ (List.Mem.tail _ (List.Mem.tail _ (List.Mem.tail _ (List.Mem.tail _ (List.Mem.tail _ (List.Mem.head _))))))) | exact List.Mem.tail _ (List.Mem.tail _ (List.Mem.tail _ (List.Mem.tail _ (List.Mem.tail _ (List.Mem.tail _ (List.Mem.tail _ (List.Mem.tail _ (List.Mem.head _)))))))) | exact (by assumption) | exact List.Mem.tail _ ((by assumption)) | exact List.Mem.tail _ (List.Mem.tail _ ((by assumption))) | exact List.Mem.tail _ (List.Mem.tail _ (List.Mem.tail _ ((by assumption)))) | exact List.Mem.tail _ (List.Mem.tail _ (List.Mem.tail _ (List.Mem.tail _ ((by assumption))))) | exact List.Mem.tail _ (List.Mem.tail _ (List.Mem.tail _ (List.Mem.tail _ (List.Mem.tail _ ((by assumption))))))) (List.getElem?_eq_getElem (show i < ks.length by omega)) (by exact fun _ => rfl) (by rfl)) hS ?_)
                      refine wl_yes rfl rfl rfl rfl rfl (ow_vr (vr_and_any rfl rfl) ?_)
                      refine wl_yes rfl rfl rfl rfl rfl (ow_vr (vr_eql rfl rfl) ?_)
                      refine wl_op rfl rfl (ow_vr (vr_pick (b := true) (v := .bool _) rfl rfl) ?_)
                      refine wl_nil ?_
                      refine hK46 _ _ ?_
                      refine cw_cond rfl rfl (fun hc => ?_) (fun hc => ?_)
                      · (try simp only [decide_eq_true_eq, decide_eq_false_iff_not, Bool.not_eq_true, Bool.not_eq_false, Bool.not_eq_true', Bool.not_eq_false', Bool.and_eq_true, Bool.or_eq_true, Bool.and_eq_false_iff, Bool.or_eq_false_iff, Int.not_lt, Int.not_le, gt_iff_lt, ge_iff_le, ne_eq, Decidable.not_not, beq_iff_eq] at hc)
                        have hkept := hc; clear hc
                        have hkp : keptB ks i = true := by rw [kept_some (by omega)]; simpa using hkept
                        have hbi : b[i]? = some b[i] := List.getElem?_eq_getElem (show i < b.length by omega)
                        rw [if_pos ⟨by omega, hkp⟩, hbi] at hR
                        refine cw_region ?_
                        refine wl_op rfl rfl (ow_vr (vr_move (v := vb) rfl) ?_)
                        refine wl_op rfl rfl (ow_vr (vr_move (v := .int .i64 (i : Int)) rfl) ?_)
                        first | (refine wl_op rfl rfl (ow_vr (vr_indexAddr Try.underlying22 sz_9 rfl rfl (by omega) (by omega)) ?_)) | (refine wl_op rfl rfl (ow_vr (vr_indexV (v := vb) Try.underlying22 sz_9 rfl (by first | assumption | (refine Own.view ?_ (by assumption); exact fun _ => rfl) | exact OwnB.view (by assumption)) rfl (by omega) (by first | omega | (simp <;> omega))) ?_))
                        refine wl_op rfl rfl (ow_lr (S := Sat _ _) (lr_loadV1 (u := str _) Try.underlying9 rfl rfl (by first | assumption | (refine Own.view ?_ (by assumption); exact fun _ => rfl) | exact OwnB.view (by assumption)) (by first | exact List.Mem.head _ | exact List.Mem.tail _ (List.Mem.head _) | exact List.Mem.tail _ (List.Mem.tail _ (List.Mem.head _)) | exact List.Mem.tail _ (List.Mem.tail _ (List.Mem.tail _ (List.Mem.head _))) | exact List.Mem.tail _ (List.Mem.tail _ (List.Mem.tail _ (List.Mem.tail _ (List.Mem.head _)))) | exact List.Mem.tail _ (List.Mem.tail _ (List.Mem.tail _ (List.Mem.tail _ (List.Mem.tail _ (List.Mem.head _))))) | exact List.Mem.tail _ (List.Mem.tail _ (List.Mem.tail _ (List.Mem.tail _ (List.Mem.tail _ (List.Mem.tail _ (List.Mem.head _)))))) | exact List.Mem.tail _ (List.Mem.tail _ (List.Mem.tail _ (List.Mem.tail _ (List.Mem.tail _ (List.Mem.tail _ (List.Mem.tail _ (List.Mem.head _))))))) | exact List.Mem.tail _ (List.Mem.tail _ (List.Mem.tail _ (List.Mem.tail _ (List.Mem.tail _ (List.Mem.tail _ (List.Mem.tail _ (List.Mem.tail _ (List.Mem.head _)))))))) | exact (by assumption) | exact List.Mem.tail _ ((by assumption)) | exact List.Mem.tail _ (List.Mem.tail _ ((by assumption))) | exact List.Mem.tail _ (List.Mem.tail _ (List.Mem.tail _ ((by assumption)))) | exact List.Mem.tail _ (List.Mem.tail _ (List.Mem.tail _ (List.Mem.tail _ ((by assumption))))) | exact List.Mem.tail _ (List.Mem.tail _ (List.Mem.tail _ (List.Mem.tail _ (List.Mem.tail _ ((by assumption))))))) (List.getElem?_eq_getElem (show i < b.length by omega)) (by exact fun _ => rfl) (by rfl)) hS ?_)
                        refine wl_op rfl rfl (ow_fn (vs := [str _]) en_14 rfl hS (law_Full b[i] (hb _ (List.getElem_mem _))) ?_)
                        clear hS; rintro _ _ w ⟨rfl, rfl⟩ hS; (try simp only [List.cons_append, List.nil_append] at hS)
                        refine wl_op rfl rfl (ow_vr (vr_assign (v := str _) rfl) ?_)
                        refine wl_nil ?_
                        refine hK45 _ _ ?_
                        refine cw_seq fun K47 hK47 => ?_
                        have hnop := hR
                        refine cw_region ?_
                        refine wl_op rfl rfl (ow_vr (vr_move (v := (ptr p)) rfl) ?_)
                        refine wl_op rfl rfl (ow_vr (vr_move (v := .int .i64 (i : Int)) rfl) ?_)
                        refine wl_op rfl rfl (ow_fn (vs := [(ptr p), .int .i64 (i : Int)]) en_16 rfl hS (hR) ?_)
                        clear hS; rintro _ _ w ⟨rfl, rfl⟩ hS; (try simp only [List.cons_append, List.nil_append] at hS)
                        refine wl_op rfl rfl (ow_vr (vr_move (v := .tuple _) rfl) ?_)
                        refine wl_op rfl rfl (ow_vr (vr_extract (v := str _) rfl rfl) ?_)
                        refine wl_op rfl rfl (ow_vr (vr_extract (v := .int .i64 _) rfl rfl) ?_)
                        refine wl_op rfl rfl (ow_vr (vr_assign (v := str _) rfl) ?_)
                        refine wl_op rfl rfl (ow_vr (vr_assign (v := .int .i64 _) rfl) ?_)
                        refine wl_nil ?_
                        refine hK47 _ _ ?_
                        refine cw_seq fun K48 hK48 => ?_
                        refine cw_region ?_
                        refine wl_op rfl rfl (ow_vr (vr_move (v := .int .i64 _) rfl) ?_)
                        refine wl_op rfl rfl (ow_vr (vr_neq rfl rfl) ?_)
                        refine wl_op rfl rfl (ow_vr (vr_move (v := .bool _) rfl) ?_)
                        refine wl_known 123 rfl (c := false) (by decide) ?_
                        refine wl_yes rfl rfl rfl rfl rfl (ow_vr (vr_move (v := str _) rfl) ?_)
                        refine wl_yes rfl rfl rfl rfl rfl (ow_vr (vr_move (v := str _) rfl) ?_)
                        refine wl_yes rfl rfl rfl rfl rfl (ow_vr (vr_neq_s rfl rfl) ?_)
                        refine wl_op rfl rfl (ow_vr (vr_pick (b := false) (v := .bool _) rfl rfl) ?_)
                        refine wl_nil ?_
                        refine hK48 _ _ ?_
                        refine cw_cond_f rfl rfl (by simp [full_nil]) ?_
                        refine cw_skip ?_
                        refine hK31 _ _ ?_
                        refine cw_region ?_
                        refine wl_op rfl rfl (ow_vr (vr_move (v := .int .i64 (i : Int)) rfl) ?_)
                        first | (refine wl_op rfl rfl (ow_vr (vr_addi rfl rfl (by unfold inI64; omega)) ?_)) | (refine wl_op rfl rfl (ow_vr (vr_add rfl rfl) ?_))
                        refine wl_op rfl rfl (ow_vr (vr_assign (v := .int .i64 _) rfl) ?_)
                        refine wl_nil ?_
                        refine thenF_normal ⟨_, ?_, i + 1, _, (reb (reb (reb (reb (reb rfl rfl) rfl) rfl) rfl) rfl), ?_, rfl, hS⟩
                        · omega
                        · omega
                      · (try simp only [decide_eq_true_eq, decide_eq_false_iff_not, Bool.not_eq_true, Bool.not_eq_false, Bool.not_eq_true', Bool.not_eq_false', Bool.and_eq_true, Bool.or_eq_true, Bool.and_eq_false_iff, Bool.or_eq_false_iff, Int.not_lt, Int.not_le, gt_iff_lt, ge_iff_le, ne_eq, Decidable.not_not, beq_iff_eq] at hc)
                        have hkept := hc; clear hc
                        refine cw_skip ?_
                        refine hK45 _ _ ?_
                        refine cw_seq fun K49 hK49 => ?_
                        have hnk : ¬ (i < b.length ∧ keptB ks i = true) := by rintro ⟨h1, h2⟩; first | omega | (rw [kept_some (by omega)] at h2; simp_all; done) | (rw [kept_none (by omega)] at h2; cases h2)
                        rw [if_neg hnk] at hR
                        try rw [List.getElem?_eq_none (show a.length ≤ i by omega)] at hR
                        refine cw_region ?_
                        refine wl_op rfl rfl (ow_vr (vr_move (v := (ptr p)) rfl) ?_)
                        refine wl_op rfl rfl (ow_vr (vr_move (v := .int .i64 (i : Int)) rfl) ?_)
                        refine wl_op rfl rfl (ow_fn (vs := [(ptr p), .int .i64 (i : Int)]) en_16 rfl hS (hR) ?_)
                        clear hS; rintro _ _ w ⟨rfl, rfl⟩ hS; (try simp only [List.cons_append, List.nil_append] at hS)
                        refine wl_op rfl rfl (ow_vr (vr_move (v := .tuple _) rfl) ?_)
                        refine wl_op rfl rfl (ow_vr (vr_extract (v := str _) rfl rfl) ?_)
                        refine wl_op rfl rfl (ow_vr (vr_extract (v := .int .i64 _) rfl rfl) ?_)
                        refine wl_op rfl rfl (ow_vr (vr_assign (v := str _) rfl) ?_)
                        refine wl_op rfl rfl (ow_vr (vr_assign (v := .int .i64 _) rfl) ?_)
                        refine wl_nil ?_
                        refine hK49 _ _ ?_
                        refine cw_seq fun K50 hK50 => ?_
                        refine cw_region ?_
                        refine wl_op rfl rfl (ow_vr (vr_move (v := .int .i64 _) rfl) ?_)
                        refine wl_op rfl rfl (ow_vr (vr_neq rfl rfl) ?_)
                        refine wl_op rfl rfl (ow_vr (vr_move (v := .bool _) rfl) ?_)
                        refine wl_known 123 rfl (c := false) (by decide) ?_
                        refine wl_yes rfl rfl rfl rfl rfl (ow_vr (vr_move (v := str _) rfl) ?_)
                        refine wl_yes rfl rfl rfl rfl rfl (ow_vr (vr_move (v := str _) rfl) ?_)
                        refine wl_yes rfl rfl rfl rfl rfl (ow_vr (vr_neq_s rfl rfl) ?_)
                        refine wl_op rfl rfl (ow_vr (vr_pick (b := false) (v := .bool _) rfl rfl) ?_)
                        refine wl_nil ?_
                        refine hK50 _ _ ?_
                        refine cw_cond_f rfl rfl (by simp [full_nil]) ?_
                        refine cw_skip ?_
                        refine hK31 _ _ ?_
                        refine cw_region ?_
                        refine wl_op rfl rfl (ow_vr (vr_move (v := .int .i64 (i : Int)) rfl) ?_)
                        first | (refine wl_op rfl rfl (ow_vr (vr_addi rfl rfl (by unfold inI64; omega)) ?_)) | (refine wl_op rfl rfl (ow_vr (vr_add rfl rfl) ?_))
                        refine wl_op rfl rfl (ow_vr (vr_assign (v := .int .i64 _) rfl) ?_)
                        refine wl_nil ?_
                        refine thenF_normal ⟨_, ?_, i + 1, _, (reb (reb (reb (reb (reb rfl rfl) rfl) rfl) rfl) rfl), ?_, rfl, hS⟩
                        · omega
                        · omega
                    · (try simp only [decide_eq_true_eq, decide_eq_false_iff_not, Bool.not_eq_true, Bool.not_eq_false, Bool.not_eq_true', Bool.not_eq_false', Bool.and_eq_true, Bool.or_eq_true, Bool.and_eq_false_iff, Bool.or_eq_false_iff, Int.not_lt, Int.not_le, gt_iff_lt, ge_iff_le, ne_eq, Decidable.not_not, beq_iff_eq] at hc)
                      have hg102 := hc; clear hc
                      refine wl_noD rfl rfl rfl rfl rfl rfl ?_
                      refine wl_noD rfl rfl rfl rfl rfl rfl ?_
                      refine wl_noD rfl rfl rfl rfl rfl rfl ?_
                      refine wl_noD rfl rfl rfl rfl rfl rfl ?_
                      refine wl_noD rfl rfl rfl rfl rfl rfl ?_
                      refine wl_noD rfl rfl rfl rfl rfl rfl ?_
                      refine wl_op rfl rfl (ow_vr (vr_pick (b := false) (v := .bool _) rfl rfl) ?_)
                      refine wl_nil ?_
                      refine hK46 _ _ ?_
                      refine cw_cond_f rfl rfl (rfl) ?_
                      refine cw_skip ?_
                      refine hK45 _ _ ?_
                      refine cw_seq fun K51 hK51 => ?_
                      have hnk : ¬ (i < b.length ∧ keptB ks i = true) := by rintro ⟨h1, h2⟩; first | omega | (rw [kept_some (by omega)] at h2; simp_all; done) | (rw [kept_none (by omega)] at h2; cases h2)
                      rw [if_neg hnk] at hR
                      try rw [List.getElem?_eq_none (show a.length ≤ i by omega)] at hR
                      refine cw_region ?_
                      refine wl_op rfl rfl (ow_vr (vr_move (v := (ptr p)) rfl) ?_)
                      refine wl_op rfl rfl (ow_vr (vr_move (v := .int .i64 (i : Int)) rfl) ?_)
                      refine wl_op rfl rfl (ow_fn (vs := [(ptr p), .int .i64 (i : Int)]) en_16 rfl hS (hR) ?_)
                      clear hS; rintro _ _ w ⟨rfl, rfl⟩ hS; (try simp only [List.cons_append, List.nil_append] at hS)
                      refine wl_op rfl rfl (ow_vr (vr_move (v := .tuple _) rfl) ?_)
                      refine wl_op rfl rfl (ow_vr (vr_extract (v := str _) rfl rfl) ?_)
                      refine wl_op rfl rfl (ow_vr (vr_extract (v := .int .i64 _) rfl rfl) ?_)
                      refine wl_op rfl rfl (ow_vr (vr_assign (v := str _) rfl) ?_)
                      refine wl_op rfl rfl (ow_vr (vr_assign (v := .int .i64 _) rfl) ?_)
                      refine wl_nil ?_
                      refine hK51 _ _ ?_
                      refine cw_seq fun K52 hK52 => ?_
                      refine cw_region ?_
                      refine wl_op rfl rfl (ow_vr (vr_move (v := .int .i64 _) rfl) ?_)
                      refine wl_op rfl rfl (ow_vr (vr_neq rfl rfl) ?_)
                      refine wl_op rfl rfl (ow_vr (vr_move (v := .bool _) rfl) ?_)
                      refine wl_known 123 rfl (c := false) (by decide) ?_
                      refine wl_yes rfl rfl rfl rfl rfl (ow_vr (vr_move (v := str _) rfl) ?_)
                      refine wl_yes rfl rfl rfl rfl rfl (ow_vr (vr_move (v := str _) rfl) ?_)
                      refine wl_yes rfl rfl rfl rfl rfl (ow_vr (vr_neq_s rfl rfl) ?_)
                      refine wl_op rfl rfl (ow_vr (vr_pick (b := false) (v := .bool _) rfl rfl) ?_)
                      refine wl_nil ?_
                      refine hK52 _ _ ?_
                      refine cw_cond_f rfl rfl (by simp [full_nil]) ?_
                      refine cw_skip ?_
                      refine hK31 _ _ ?_
                      refine cw_region ?_
                      refine wl_op rfl rfl (ow_vr (vr_move (v := .int .i64 (i : Int)) rfl) ?_)
                      first | (refine wl_op rfl rfl (ow_vr (vr_addi rfl rfl (by unfold inI64; omega)) ?_)) | (refine wl_op rfl rfl (ow_vr (vr_add rfl rfl) ?_))
                      refine wl_op rfl rfl (ow_vr (vr_assign (v := .int .i64 _) rfl) ?_)
                      refine wl_nil ?_
                      refine thenF_normal ⟨_, ?_, i + 1, _, (reb (reb (reb (reb (reb rfl rfl) rfl) rfl) rfl) rfl), ?_, rfl, hS⟩
                      · omega
                      · omega
                  · (try simp only [decide_eq_true_eq, decide_eq_false_iff_not, Bool.not_eq_true, Bool.not_eq_false, Bool.not_eq_true', Bool.not_eq_false', Bool.and_eq_true, Bool.or_eq_true, Bool.and_eq_false_iff, Bool.or_eq_false_iff, Int.not_lt, Int.not_le, gt_iff_lt, ge_iff_le, ne_eq, Decidable.not_not, beq_iff_eq] at hc)
                    have hg96 := hc; clear hc
                    refine wl_noD rfl rfl rfl rfl rfl rfl ?_
                    refine wl_noD rfl rfl rfl rfl rfl rfl ?_
                    refine wl_noD rfl rfl rfl rfl rfl rfl ?_
                    refine wl_noD rfl rfl rfl rfl rfl rfl ?_
                    refine wl_op rfl rfl (ow_vr (vr_pick (b := false) (v := .bool _) rfl rfl) ?_)
                    refine wl_op rfl rfl (ow_vr (vr_move (v := .bool _) rfl) ?_)
                    refine wl_noD rfl rfl rfl rfl rfl rfl ?_
                    refine wl_noD rfl rfl rfl rfl rfl rfl ?_
                    refine wl_noD rfl rfl rfl rfl rfl rfl ?_
                    refine wl_noD rfl rfl rfl rfl rfl rfl ?_
                    refine wl_noD rfl rfl rfl rfl rfl rfl ?_
                    refine wl_noD rfl rfl rfl rfl rfl rfl ?_
                    refine wl_op rfl rfl (ow_vr (vr_pick (b := false) (v := .bool _) rfl rfl) ?_)
                    refine wl_nil ?_
                    refine hK46 _ _ ?_
                    refine cw_cond_f rfl rfl (rfl) ?_
                    refine cw_skip ?_
                    refine hK45 _ _ ?_
                    refine cw_seq fun K53 hK53 => ?_
                    have hnk : ¬ (i < b.length ∧ keptB ks i = true) := by rintro ⟨h1, h2⟩; first | omega | (rw [kept_some (by omega)] at h2; simp_all; done) | (rw [kept_none (by omega)] at h2; cases h2)
                    rw [if_neg hnk] at hR
                    try rw [List.getElem?_eq_none (show a.length ≤ i by omega)] at hR
                    refine cw_region ?_
                    refine wl_op rfl rfl (ow_vr (vr_move (v := (ptr p)) rfl) ?_)
                    refine wl_op rfl rfl (ow_vr (vr_move (v := .int .i64 (i : Int)) rfl) ?_)
                    refine wl_op rfl rfl (ow_fn (vs := [(ptr p), .int .i64 (i : Int)]) en_16 rfl hS (hR) ?_)
                    clear hS; rintro _ _ w ⟨rfl, rfl⟩ hS; (try simp only [List.cons_append, List.nil_append] at hS)
                    refine wl_op rfl rfl (ow_vr (vr_move (v := .tuple _) rfl) ?_)
                    refine wl_op rfl rfl (ow_vr (vr_extract (v := str _) rfl rfl) ?_)
                    refine wl_op rfl rfl (ow_vr (vr_extract (v := .int .i64 _) rfl rfl) ?_)
                    refine wl_op rfl rfl (ow_vr (vr_assign (v := str _) rfl) ?_)
                    refine wl_op rfl rfl (ow_vr (vr_assign (v := .int .i64 _) rfl) ?_)
                    refine wl_nil ?_
                    refine hK53 _ _ ?_
                    refine cw_seq fun K54 hK54 => ?_
                    refine cw_region ?_
                    refine wl_op rfl rfl (ow_vr (vr_move (v := .int .i64 _) rfl) ?_)
                    refine wl_op rfl rfl (ow_vr (vr_neq rfl rfl) ?_)
                    refine wl_op rfl rfl (ow_vr (vr_move (v := .bool _) rfl) ?_)
                    refine wl_known 123 rfl (c := false) (by decide) ?_
                    refine wl_yes rfl rfl rfl rfl rfl (ow_vr (vr_move (v := str _) rfl) ?_)
                    refine wl_yes rfl rfl rfl rfl rfl (ow_vr (vr_move (v := str _) rfl) ?_)
                    refine wl_yes rfl rfl rfl rfl rfl (ow_vr (vr_neq_s rfl rfl) ?_)
                    refine wl_op rfl rfl (ow_vr (vr_pick (b := false) (v := .bool _) rfl rfl) ?_)
                    refine wl_nil ?_
                    refine hK54 _ _ ?_
                    refine cw_cond_f rfl rfl (by simp [full_nil]) ?_
                    refine cw_skip ?_
                    refine hK31 _ _ ?_
                    refine cw_region ?_
                    refine wl_op rfl rfl (ow_vr (vr_move (v := .int .i64 (i : Int)) rfl) ?_)
                    first | (refine wl_op rfl rfl (ow_vr (vr_addi rfl rfl (by unfold inI64; omega)) ?_)) | (refine wl_op rfl rfl (ow_vr (vr_add rfl rfl) ?_))
                    refine wl_op rfl rfl (ow_vr (vr_assign (v := .int .i64 _) rfl) ?_)
                    refine wl_nil ?_
                    refine thenF_normal ⟨_, ?_, i + 1, _, (reb (reb (reb (reb (reb rfl rfl) rfl) rfl) rfl) rfl), ?_, rfl, hS⟩
                    · omega
                    · omega
              · (try simp only [decide_eq_true_eq, decide_eq_false_iff_not, Bool.not_eq_true, Bool.not_eq_false, Bool.not_eq_true', Bool.not_eq_false', Bool.and_eq_true, Bool.or_eq_true, Bool.and_eq_false_iff, Bool.or_eq_false_iff, Int.not_lt, Int.not_le, gt_iff_lt, ge_iff_le, ne_eq, Decidable.not_not, beq_iff_eq] at hc)
                have hc7 := hc; clear hc
                refine cw_exit ?_
                refine hK27 _ _ ?_
                refine cw_seq fun K55 hK55 => ?_
                refine cw_region ?_
                refine wl_op rfl rfl (ow_vr (vr_assign (v := .bool true) rfl) ?_)
                refine wl_nil ?_
                refine hK55 _ _ ?_
                refine cw_ret ?_
                refine ret_one (fn := Try.f10) (n := 128) (t := 6) (.inl rfl) rfl rfl ?_
                exact ⟨[], ⟨rfl, rfl⟩, hS.tail1⟩
end Go.Proofs.Ytjhbmogpicddeaa
