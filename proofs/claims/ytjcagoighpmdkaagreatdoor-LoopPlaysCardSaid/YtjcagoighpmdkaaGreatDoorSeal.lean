/- What package seal's functions return, and the document's own: sums, numbers as bytes. -/
import Derived.Test.YtjcagoighpmdkaaGreatDoorRepeat
namespace Go.Proofs.YtjcagoighpmdkaaGreatDoor
open Go Go.RowKit
set_option linter.unusedVariables false
set_option linter.unusedSimpArgs false
attribute [local irreducible] actF WL CW OW PL SW VR LR yes Returns Fn
def sumS (s : Nat) (b : UInt8) : Nat := ((s ^^^ b.toNat) * 16777619) % 4294967296
def sumF (f : Nat → UInt8 → Nat) (c : Nat) (l : List UInt8) : Nat := l.foldl f c
theorem sumF_snoc (f : Nat → UInt8 → Nat) (c : Nat) (l : List UInt8) (b : UInt8) : sumF f c (l ++ [b]) = f (sumF f c l) b := by simp only [sumF, List.foldl_append, List.foldl_cons, List.foldl_nil]
def sumB (l : List UInt8) : Nat := sumF sumS 2166136261 l
theorem sumB_snoc (l : List UInt8) (b : UInt8) : sumB (l ++ [b]) = sumS (sumB l) b := sumF_snoc _ _ l b
theorem sumB_nil : sumB [] = 2166136261 := rfl
theorem sumS_lt (s : Nat) (b : UInt8) : sumS s b < 4294967296 := by unfold sumS; omega
theorem sumB_lt (l : List UInt8) : sumB l < 4294967296 := by
  rcases List.eq_nil_or_concat l with rfl | ⟨t, b, rfl⟩
  · rw [sumB_nil]; omega
  · rw [List.concat_eq_append, sumB_snoc]; exact sumS_lt _ _
theorem seal_Sum (l : List UInt8) (hn : l.length ≤ 9223372036854775807) : FnV Tryz.prog 93 [str l] (.int .u32 (sumB l : Int)) := by
  refine FnV.mk fun E F w hS => ?_
  refine returns_enter Tryz.func93 rfl Tryz.ntmps93 rfl ?_
  refine cw_seq fun K1 hK1 => ?_
  refine cw_region ?_
  refine wl_op rfl rfl (ow_vr (vr_assign (v := .int .u32 0) rfl) ?_)
  refine wl_nil ?_
  refine hK1 _ _ ?_
  refine cw_seq fun K2 hK2 => ?_
  refine cw_region ?_
  refine wl_op rfl rfl (ow_vr (vr_assign (v := .int .u32 2166136261) rfl) ?_)
  refine wl_nil ?_
  refine hK2 _ _ ?_
  refine cw_seq fun K3 hK3 => ?_
  refine cw_seq fun K4 hK4 => ?_
  refine cw_region ?_
  refine wl_op rfl rfl (ow_vr (vr_move (v := str _) rfl) ?_)
  refine wl_op rfl rfl (ow_vr (vr_len_s Tryz.underlying9 rfl) ?_)
  refine wl_op rfl rfl (ow_vr (vr_move (v := .int .i64 0) rfl) ?_)
  refine wl_nil ?_
  refine hK4 _ _ ?_
  refine cw_block ?_
  refine cw_loop (fun m f w => ∃ (k : Nat) (s : Nat) (g : Nat → Value), f = (upd (upd (upd (upd g 0 (str l)) 3 (.int .u32 (s : Int))) 6 (.int .i64 (l.length : Int))) 7 (.int .i64 (k : Int))) ∧ (k ≤ l.length ∧ s = sumB (l.take k)) ∧ m = l.length - k ∧ Sat E (F) w) ⟨0, 2166136261, _, (reb (reb (reb (reb rfl rfl) rfl) rfl) rfl), ?_, rfl, hS⟩ ?_
  · exact ⟨by omega, by rw [List.take_zero, sumB_nil]⟩
  clear hS; rintro m f w ⟨k, s, g, rfl, hI0, rfl, hS⟩
  refine cw_seq fun K5 hK5 => ?_
  refine cw_region ?_
  refine wl_op rfl rfl (ow_vr (vr_lss rfl rfl) ?_)
  refine wl_nil ?_
  refine hK5 _ _ ?_
  refine cw_seq fun K6 hK6 => ?_
  refine cw_cond rfl rfl (fun hc => ?_) (fun hc => ?_)
  · (try simp only [decide_eq_true_eq, decide_eq_false_iff_not, Bool.not_eq_true, Bool.not_eq_false, Bool.not_eq_true', Bool.not_eq_false', Bool.and_eq_true, Bool.or_eq_true, Bool.and_eq_false_iff, Bool.or_eq_false_iff, Int.not_lt, Int.not_le, gt_iff_lt, ge_iff_le, ne_eq, Decidable.not_not, beq_iff_eq] at hc)
    have hc0 := hc; clear hc
    refine cw_skip ?_
    refine hK6 _ _ ?_
    refine cw_seq fun K7 hK7 => ?_
    refine cw_block ?_
    refine cw_seq fun K8 hK8 => ?_
    obtain ⟨b, hb⟩ := get_lt (xs := l) (k := k) (by omega)
    have hb2 := b.toNat_lt
    have hs := sumB_lt (l.take k)
    rw [← hI0.2] at hs
    refine cw_region ?_
    refine wl_op rfl rfl (ow_vr (vr_move (v := .int .i64 (k : Int)) rfl) ?_)
    refine wl_op rfl rfl (ow_vr (vr_assign (v := .int .i64 (k : Int)) rfl) ?_)
    refine wl_nil ?_
    refine hK8 _ _ ?_
    refine cw_seq fun K9 hK9 => ?_
    refine cw_region ?_
    refine wl_op rfl rfl (ow_vr (vr_move (v := .int .u32 (s : Int)) rfl) ?_)
    refine wl_op rfl rfl (ow_vr (vr_move (v := (str l)) rfl) ?_)
    refine wl_op rfl rfl (ow_vr (vr_move (v := .int .i64 (k : Int)) rfl) ?_)
    refine wl_op rfl rfl (ow_vr (vr_index_s Tryz.underlying9 rfl rfl (by omega) (hb)) ?_)
    first | (refine wl_op rfl rfl (ow_vr (vr_conv_in Tryz.underlying5 Tryz.underlying147 rfl (wrap_u32 (by omega) (by omega))) ?_)) | (refine wl_op rfl rfl (ow_vr (vr_conv_int Tryz.underlying5 Tryz.underlying147 rfl) ?_))
    refine wl_op rfl rfl (ow_vr (vr_xor_u32 rfl rfl (by omega) (by omega)) ?_)
    refine wl_op rfl rfl (ow_vr (vr_assign (v := .int .u32 _) rfl) ?_)
    refine wl_nil ?_
    refine hK9 _ _ ?_
    refine cw_region ?_
    refine wl_op rfl rfl (ow_vr (vr_move (v := .int .u32 _) rfl) ?_)
    refine wl_op rfl rfl (ow_vr (vr_mul_u32 (b := 16777619) rfl rfl) ?_)
    refine wl_op rfl rfl (ow_vr (vr_assign (v := .int .u32 _) rfl) ?_)
    refine wl_nil ?_
    refine hK7 _ _ ?_
    refine cw_region ?_
    first | (refine wl_op rfl rfl (ow_vr (vr_addi rfl rfl (by unfold inI64; omega)) ?_)) | (refine wl_op rfl rfl (ow_vr (vr_add rfl rfl) ?_))
    refine wl_op rfl rfl (ow_vr (vr_move (v := .int .i64 _) rfl) ?_)
    refine wl_nil ?_
    refine thenF_normal ⟨_, ?_, k + 1, (s ^^^ b.toNat) * 16777619 % 4294967296, _, (reb (reb (reb (reb rfl rfl) rfl) rfl) rfl), ?_, rfl, hS⟩
    · omega
    · refine ⟨by omega, ?_⟩; rw [take_snoc hb, sumB_snoc, ← hI0.2, sumS]
  · (try simp only [decide_eq_true_eq, decide_eq_false_iff_not, Bool.not_eq_true, Bool.not_eq_false, Bool.not_eq_true', Bool.not_eq_false', Bool.and_eq_true, Bool.or_eq_true, Bool.and_eq_false_iff, Bool.or_eq_false_iff, Int.not_lt, Int.not_le, gt_iff_lt, ge_iff_le, ne_eq, Decidable.not_not, beq_iff_eq] at hc)
    have hc0 := hc; clear hc
    refine cw_exit ?_
    refine hK3 _ _ ?_
    refine cw_seq fun K10 hK10 => ?_
    refine cw_region ?_
    refine wl_op rfl rfl (ow_vr (vr_move (v := .int .u32 (s : Int)) rfl) ?_)
    refine wl_op rfl rfl (ow_vr (vr_assign (v := .int .u32 (s : Int)) rfl) ?_)
    refine wl_nil ?_
    refine hK10 _ _ ?_
    refine cw_ret ?_
    refine ret_one (fn := Tryz.f93) (n := 20) (t := 2) (.inl rfl) rfl rfl ?_
    exact ⟨congrArg (fun x => Value.int .u32 x) (by rw [hI0.2, show k = l.length by omega, List.take_length]), hS⟩
/-- A number as bytes, the least ones first. -/
def putB (v n : Nat) : List UInt8 := (List.range n).map fun i => UInt8.ofNat (v / 256 ^ i)
theorem putB_snoc (v n : Nat) : putB v (n + 1) = putB v n ++ [UInt8.ofNat (v / 256 ^ n)] := by simp [putB, List.range_succ]
theorem putB_length (v n : Nat) : (putB v n).length = n := by simp [putB]
theorem div_pow (v k : Nat) : v / 256 ^ k / 256 = v / 256 ^ (k + 1) := by rw [Nat.div_div_eq_div_mul, Nat.pow_succ]
def putI (v n : Int) : List UInt8 := if (v < 0 ∨ 4294967296 ≤ v) ∨ n < 1 ∨ 8 < n then [] else putB v.toNat n.toNat
theorem seal_Put (v n : Int) : FnV Tryz.prog 82 [.int .i64 v, .int .i64 n] (str (putI v n)) := by
  refine FnV.mk fun E F w hS => ?_
  refine returns_enter Tryz.func82 rfl Tryz.ntmps82 rfl ?_
  refine cw_seq fun K1 hK1 => ?_
  refine cw_region ?_
  refine wl_op rfl rfl (ow_vr (vr_assign (v := str []) rfl) ?_)
  refine wl_nil ?_
  refine hK1 _ _ ?_
  refine cw_seq fun K2 hK2 => ?_
  refine cw_block ?_
  refine cw_seq fun K3 hK3 => ?_
  refine cw_block ?_
  refine cw_block ?_
  refine cw_seq fun K4 hK4 => ?_
  refine cw_seq fun K5 hK5 => ?_
  refine cw_seq fun K6 hK6 => ?_
  refine cw_region ?_
  refine wl_op rfl rfl (ow_vr (vr_move (v := .int .i64 _) rfl) ?_)
  refine wl_op rfl rfl (ow_vr (vr_lss rfl rfl) ?_)
  refine wl_op rfl rfl (ow_vr (vr_move (v := .bool _) rfl) ?_)
  refine wl_split 9 rfl (fun hc => ?_) (fun hc => ?_)
  · (try simp only [decide_eq_true_eq, decide_eq_false_iff_not, Bool.not_eq_true, Bool.not_eq_false, Bool.not_eq_true', Bool.not_eq_false', Bool.and_eq_true, Bool.or_eq_true, Bool.and_eq_false_iff, Bool.or_eq_false_iff, Int.not_lt, Int.not_le, gt_iff_lt, ge_iff_le, ne_eq, Decidable.not_not, beq_iff_eq] at hc)
    have hg9 := hc; clear hc
    refine wl_noD rfl rfl rfl rfl rfl rfl ?_
    refine wl_noD rfl rfl rfl rfl rfl rfl ?_
    refine wl_op rfl rfl (ow_vr (vr_pick (b := true) (v := .bool _) rfl rfl) ?_)
    refine wl_op rfl rfl (ow_vr (vr_assign (v := .bool _) rfl) ?_)
    refine wl_nil ?_
    refine hK6 _ _ ?_
    refine cw_cond_t rfl rfl (rfl) ?_
    refine cw_exit ?_
    refine hK3 _ _ ?_
    refine cw_seq fun K7 hK7 => ?_
    refine cw_seq fun K8 hK8 => ?_
    refine cw_region ?_
    refine wl_op rfl rfl (ow_vr (vr_assign (v := str []) rfl) ?_)
    refine wl_nil ?_
    refine hK8 _ _ ?_
    refine cw_ret ?_
    refine thenF_ret (inB_ret (thenF_ret (?_)))
    refine ret_one (fn := Tryz.f82) (n := 33) (t := 4) (.inl rfl) rfl rfl ?_
    exact ⟨congrArg str (show [] = putI v n by rw [putI, if_pos (by omega)]), hS⟩
  · (try simp only [decide_eq_true_eq, decide_eq_false_iff_not, Bool.not_eq_true, Bool.not_eq_false, Bool.not_eq_true', Bool.not_eq_false', Bool.and_eq_true, Bool.or_eq_true, Bool.and_eq_false_iff, Bool.or_eq_false_iff, Int.not_lt, Int.not_le, gt_iff_lt, ge_iff_le, ne_eq, Decidable.not_not, beq_iff_eq] at hc)
    have hg9 := hc; clear hc
    refine wl_yes rfl rfl rfl rfl rfl (ow_vr (vr_move (v := .int .i64 _) rfl) ?_)
    refine wl_yes rfl rfl rfl rfl rfl (ow_vr (vr_geq rfl rfl) ?_)
    refine wl_op rfl rfl (ow_vr (vr_pick (b := false) (v := .bool _) rfl rfl) ?_)
    refine wl_op rfl rfl (ow_vr (vr_assign (v := .bool _) rfl) ?_)
    refine wl_nil ?_
    refine hK6 _ _ ?_
    refine cw_cond rfl rfl (fun hc => ?_) (fun hc => ?_)
    · (try simp only [decide_eq_true_eq, decide_eq_false_iff_not, Bool.not_eq_true, Bool.not_eq_false, Bool.not_eq_true', Bool.not_eq_false', Bool.and_eq_true, Bool.or_eq_true, Bool.and_eq_false_iff, Bool.or_eq_false_iff, Int.not_lt, Int.not_le, gt_iff_lt, ge_iff_le, ne_eq, Decidable.not_not, beq_iff_eq] at hc)
      have hc0 := hc; clear hc
      refine cw_exit ?_
      refine hK3 _ _ ?_
      refine cw_seq fun K9 hK9 => ?_
      refine cw_seq fun K10 hK10 => ?_
      refine cw_region ?_
      refine wl_op rfl rfl (ow_vr (vr_assign (v := str []) rfl) ?_)
      refine wl_nil ?_
      refine hK10 _ _ ?_
      refine cw_ret ?_
      refine thenF_ret (inB_ret (thenF_ret (?_)))
      refine ret_one (fn := Tryz.f82) (n := 33) (t := 4) (.inl rfl) rfl rfl ?_
      exact ⟨congrArg str (show [] = putI v n by rw [putI, if_pos (by omega)]), hS⟩
    · (try simp only [decide_eq_true_eq, decide_eq_false_iff_not, Bool.not_eq_true, Bool.not_eq_false, Bool.not_eq_true', Bool.not_eq_false', Bool.and_eq_true, Bool.or_eq_true, Bool.and_eq_false_iff, Bool.or_eq_false_iff, Int.not_lt, Int.not_le, gt_iff_lt, ge_iff_le, ne_eq, Decidable.not_not, beq_iff_eq] at hc)
      have hc0 := hc; clear hc
      refine cw_skip ?_
      refine hK5 _ _ ?_
      refine cw_seq fun K11 hK11 => ?_
      refine cw_region ?_
      refine wl_op rfl rfl (ow_vr (vr_move (v := .int .i64 _) rfl) ?_)
      refine wl_op rfl rfl (ow_vr (vr_lss rfl rfl) ?_)
      refine wl_op rfl rfl (ow_vr (vr_move (v := .bool _) rfl) ?_)
      refine wl_split 16 rfl (fun hc => ?_) (fun hc => ?_)
      · (try simp only [decide_eq_true_eq, decide_eq_false_iff_not, Bool.not_eq_true, Bool.not_eq_false, Bool.not_eq_true', Bool.not_eq_false', Bool.and_eq_true, Bool.or_eq_true, Bool.and_eq_false_iff, Bool.or_eq_false_iff, Int.not_lt, Int.not_le, gt_iff_lt, ge_iff_le, ne_eq, Decidable.not_not, beq_iff_eq] at hc)
        have hg16 := hc; clear hc
        refine wl_noD rfl rfl rfl rfl rfl rfl ?_
        refine wl_noD rfl rfl rfl rfl rfl rfl ?_
        refine wl_op rfl rfl (ow_vr (vr_pick (b := true) (v := .bool _) rfl rfl) ?_)
        refine wl_op rfl rfl (ow_vr (vr_assign (v := .bool _) rfl) ?_)
        refine wl_nil ?_
        refine hK11 _ _ ?_
        refine cw_cond_t rfl rfl (rfl) ?_
        refine cw_exit ?_
        refine hK3 _ _ ?_
        refine cw_seq fun K12 hK12 => ?_
        refine cw_seq fun K13 hK13 => ?_
        refine cw_region ?_
        refine wl_op rfl rfl (ow_vr (vr_assign (v := str []) rfl) ?_)
        refine wl_nil ?_
        refine hK13 _ _ ?_
        refine cw_ret ?_
        refine thenF_ret (inB_ret (thenF_ret (?_)))
        refine ret_one (fn := Tryz.f82) (n := 33) (t := 4) (.inl rfl) rfl rfl ?_
        exact ⟨congrArg str (show [] = putI v n by rw [putI, if_pos (by omega)]), hS⟩
      · (try simp only [decide_eq_true_eq, decide_eq_false_iff_not, Bool.not_eq_true, Bool.not_eq_false, Bool.not_eq_true', Bool.not_eq_false', Bool.and_eq_true, Bool.or_eq_true, Bool.and_eq_false_iff, Bool.or_eq_false_iff, Int.not_lt, Int.not_le, gt_iff_lt, ge_iff_le, ne_eq, Decidable.not_not, beq_iff_eq] at hc)
        have hg16 := hc; clear hc
        refine wl_yes rfl rfl rfl rfl rfl (ow_vr (vr_move (v := .int .i64 _) rfl) ?_)
        refine wl_yes rfl rfl rfl rfl rfl (ow_vr (vr_gtr rfl rfl) ?_)
        refine wl_op rfl rfl (ow_vr (vr_pick (b := false) (v := .bool _) rfl rfl) ?_)
        refine wl_op rfl rfl (ow_vr (vr_assign (v := .bool _) rfl) ?_)
        refine wl_nil ?_
        refine hK11 _ _ ?_
        refine cw_cond rfl rfl (fun hc => ?_) (fun hc => ?_)
        · (try simp only [decide_eq_true_eq, decide_eq_false_iff_not, Bool.not_eq_true, Bool.not_eq_false, Bool.not_eq_true', Bool.not_eq_false', Bool.and_eq_true, Bool.or_eq_true, Bool.and_eq_false_iff, Bool.or_eq_false_iff, Int.not_lt, Int.not_le, gt_iff_lt, ge_iff_le, ne_eq, Decidable.not_not, beq_iff_eq] at hc)
          have hc1 := hc; clear hc
          refine cw_exit ?_
          refine hK3 _ _ ?_
          refine cw_seq fun K14 hK14 => ?_
          refine cw_seq fun K15 hK15 => ?_
          refine cw_region ?_
          refine wl_op rfl rfl (ow_vr (vr_assign (v := str []) rfl) ?_)
          refine wl_nil ?_
          refine hK15 _ _ ?_
          refine cw_ret ?_
          refine thenF_ret (inB_ret (thenF_ret (?_)))
          refine ret_one (fn := Tryz.f82) (n := 33) (t := 4) (.inl rfl) rfl rfl ?_
          exact ⟨congrArg str (show [] = putI v n by rw [putI, if_pos (by omega)]), hS⟩
        · (try simp only [decide_eq_true_eq, decide_eq_false_iff_not, Bool.not_eq_true, Bool.not_eq_false, Bool.not_eq_true', Bool.not_eq_false', Bool.and_eq_true, Bool.or_eq_true, Bool.and_eq_false_iff, Bool.or_eq_false_iff, Int.not_lt, Int.not_le, gt_iff_lt, ge_iff_le, ne_eq, Decidable.not_not, beq_iff_eq] at hc)
          have hc1 := hc; clear hc
          refine cw_skip ?_
          refine hK4 _ _ ?_
          refine cw_exit ?_
          refine hK2 _ _ ?_
          refine cw_seq fun K16 hK16 => ?_
          refine cw_region ?_
          refine wl_op rfl rfl (ow_vr (vr_assign (v := .slice none 0 0) rfl) ?_)
          refine wl_nil ?_
          refine hK16 _ _ ?_
          refine cw_seq fun K17 hK17 => ?_
          refine cw_seq fun K18 hK18 => ?_
          have hp : putI v n = putB v.toNat n.toNat := by rw [putI, if_neg (by omega)]
          obtain ⟨a, rfl⟩ : ∃ a : Nat, v = (a : Int) := ⟨v.toNat, by omega⟩
          obtain ⟨q, rfl⟩ : ∃ q : Nat, n = (q : Int) := ⟨n.toNat, by omega⟩
          simp only [Int.toNat_natCast] at hp
          have hS := Sat.nilc.2 hS
          refine cw_region ?_
          refine wl_op rfl rfl (ow_vr (vr_move (v := .int .i64 _) rfl) ?_)
          refine wl_op rfl rfl (ow_vr (vr_move (v := .int .i64 0) rfl) ?_)
          refine wl_nil ?_
          refine hK18 _ _ ?_
          refine cw_block ?_
          refine cw_loop (fun m f w => ∃ (k : Nat) (x : Nat) (v5 : Value) (D5 : Chunk) (g : Nat → Value), f = (upd (upd (upd (upd g 0 (.int .i64 (x : Int))) 5 (v5)) 20 (.int .i64 (q : Int))) 21 (.int .i64 (k : Int))) ∧ (k ≤ q ∧ x = a / 256 ^ k ∧ Own 5 1 encB v5 (putB a k) D5) ∧ m = q - k ∧ Sat E (D5 :: F) w) ⟨0, a, .slice none 0 0, [], _, (reb (reb (reb (reb rfl rfl) rfl) rfl) rfl), ?_, rfl, hS⟩ ?_
          · exact ⟨by omega, by rw [Nat.pow_zero, Nat.div_one], Own.nil⟩
          clear hS; rintro m f w ⟨k, x, v5, D5, g, rfl, hI0, rfl, hS⟩
          refine cw_seq fun K19 hK19 => ?_
          refine cw_region ?_
          refine wl_op rfl rfl (ow_vr (vr_lss rfl rfl) ?_)
          refine wl_nil ?_
          refine hK19 _ _ ?_
          refine cw_seq fun K20 hK20 => ?_
          refine cw_cond rfl rfl (fun hc => ?_) (fun hc => ?_)
          · (try simp only [decide_eq_true_eq, decide_eq_false_iff_not, Bool.not_eq_true, Bool.not_eq_false, Bool.not_eq_true', Bool.not_eq_false', Bool.and_eq_true, Bool.or_eq_true, Bool.and_eq_false_iff, Bool.or_eq_false_iff, Int.not_lt, Int.not_le, gt_iff_lt, ge_iff_le, ne_eq, Decidable.not_not, beq_iff_eq] at hc)
            have hc2 := hc; clear hc
            refine cw_skip ?_
            refine hK20 _ _ ?_
            refine cw_seq fun K21 hK21 => ?_
            refine cw_block ?_
            refine cw_seq fun K22 hK22 => ?_
            obtain ⟨hk, hx, ho5⟩ := hI0
            refine cw_region ?_
            refine wl_op rfl rfl (ow_vr (vr_move (v := v5) rfl) ?_)
            refine wl_op rfl rfl (ow_vr (vr_move (v := .int .i64 (x : Int)) rfl) ?_)
            first | (refine wl_op rfl rfl (ow_vr (vr_conv_byte Tryz.underlying3 Tryz.underlying5 rfl) ?_)) | (refine wl_op rfl rfl (ow_vr (vr_conv_int Tryz.underlying3 Tryz.underlying5 rfl) ?_))
            refine wl_op rfl rfl (ow_buildSliceD (m := 1) (len := 1) (vs := [.int .u8 _]) (cs := [.int .u8 _]) hS Tryz.underlying140 if_5 rfl (by decide) (by decide) rfl rfl (by simp [Value.cells]) rfl ?_)
            clear hS; intro b26 w hS
            refine wl_op rfl rfl (ow_append (v := v5) hS Tryz.underlying140 Tryz.underlying140 if_5 rfl (by decide) rfl rfl (by assumption) (View.single (x := UInt8.ofNat x) rfl rfl (by decide)) (by first | exact HasC.here | exact HasC.there (HasC.here) | exact HasC.there (HasC.there (HasC.here)) | exact HasC.there (HasC.there (HasC.there (HasC.here))) | exact HasC.there (HasC.there (HasC.there (HasC.there (HasC.here)))) | exact HasC.there (HasC.there (HasC.there (HasC.there (HasC.there (HasC.here))))) | exact HasC.there (HasC.there (HasC.there (HasC.there (HasC.there (HasC.there (HasC.here)))))) | exact HasC.there (HasC.there (HasC.there (HasC.there (HasC.there (HasC.there (HasC.there (HasC.here))))))) | exact HasC.there (HasC.there (HasC.there (HasC.there (HasC.there (HasC.there (HasC.there (HasC.there (HasC.here))))))))) (by repeat (first | exact List.mem_cons_self | assumption | refine List.mem_cons_of_mem _ ?_)) (by exact fun _ => rfl) (by exact fun _ => rfl) (by simp [maxLen, putB_length] <;> omega) (by simp [maxLen, putB_length] <;> omega) ?_)
            clear hS; intro v27 D27 w ho27 hS
            refine wl_op rfl rfl (ow_vr (vr_assign (v := v27) rfl) ?_)
            refine wl_nil ?_
            refine hK22 _ _ ?_
            refine cw_region ?_
            refine wl_op rfl rfl (ow_vr (vr_move (v := .int .i64 (x : Int)) rfl) ?_)
            refine wl_op rfl rfl (ow_vr (vr_shr_n (s := 8) rfl rfl (by decide)) ?_)
            refine wl_op rfl rfl (ow_vr (vr_assign (v := .int .i64 _) rfl) ?_)
            refine wl_nil ?_
            replace hS := hS.tail1
            refine hK21 _ _ ?_
            refine cw_region ?_
            first | (refine wl_op rfl rfl (ow_vr (vr_addi rfl rfl (by unfold inI64; omega)) ?_)) | (refine wl_op rfl rfl (ow_vr (vr_add rfl rfl) ?_))
            refine wl_op rfl rfl (ow_vr (vr_move (v := .int .i64 _) rfl) ?_)
            refine wl_nil ?_
            refine thenF_normal ⟨_, ?_, k + 1, x / 2 ^ 8, v27, D27, _, (reb (reb (reb (reb rfl rfl) rfl) rfl) rfl), ?_, rfl, hS⟩
            · omega
            · exact ⟨by omega, by rw [← div_pow, ← hx], by rw [putB_snoc, ← hx]; exact ho27⟩
          · (try simp only [decide_eq_true_eq, decide_eq_false_iff_not, Bool.not_eq_true, Bool.not_eq_false, Bool.not_eq_true', Bool.not_eq_false', Bool.and_eq_true, Bool.or_eq_true, Bool.and_eq_false_iff, Bool.or_eq_false_iff, Int.not_lt, Int.not_le, gt_iff_lt, ge_iff_le, ne_eq, Decidable.not_not, beq_iff_eq] at hc)
            have hc2 := hc; clear hc
            refine cw_exit ?_
            refine hK17 _ _ ?_
            refine cw_seq fun K23 hK23 => ?_
            obtain ⟨hk, hx, ho5⟩ := hI0
            refine cw_region ?_
            refine wl_op rfl rfl (ow_vr (vr_move (v := v5) rfl) ?_)
            refine wl_op rfl rfl (ow_lr (S := Sat _ _) (lr_bytes_str Tryz.underlying140 Tryz.underlying5 Tryz.underlying9 rfl (by first | assumption | (refine Own.view ?_ (by assumption); exact fun _ => rfl) | exact OwnB.view (by assumption)) (by repeat (first | exact List.mem_cons_self | assumption | refine List.mem_cons_of_mem _ ?_))) hS ?_)
            refine wl_op rfl rfl (ow_vr (vr_assign (v := str _) rfl) ?_)
            refine wl_nil ?_
            refine hK23 _ _ ?_
            refine cw_ret ?_
            refine ret_one (fn := Tryz.f82) (n := 33) (t := 4) (.inl rfl) rfl rfl ?_
            exact ⟨congrArg str (by rw [hp, show q = k by omega]), hS.tail1⟩
theorem ref_Number (v : Int) : FnV Tryz.prog 28 [.int .i64 v] (.bool (decide (0 ≤ v ∧ v < 4294967296))) := by
  refine FnV.mk fun E F w hS => ?_
  refine returns_enter Tryz.func28 rfl Tryz.ntmps28 rfl ?_
  refine cw_seq fun K1 hK1 => ?_
  refine cw_region ?_
  refine wl_op rfl rfl (ow_vr (vr_assign (v := .bool false) rfl) ?_)
  refine wl_nil ?_
  refine hK1 _ _ ?_
  refine cw_seq fun K2 hK2 => ?_
  refine cw_region ?_
  refine wl_op rfl rfl (ow_vr (vr_move (v := .int .i64 _) rfl) ?_)
  refine wl_op rfl rfl (ow_vr (vr_geq rfl rfl) ?_)
  refine wl_op rfl rfl (ow_vr (vr_move (v := .bool _) rfl) ?_)
  refine wl_split 5 rfl (fun hc => ?_) (fun hc => ?_)
  · (try simp only [decide_eq_true_eq, decide_eq_false_iff_not, Bool.not_eq_true, Bool.not_eq_false, Bool.not_eq_true', Bool.not_eq_false', Bool.and_eq_true, Bool.or_eq_true, Bool.and_eq_false_iff, Bool.or_eq_false_iff, Int.not_lt, Int.not_le, gt_iff_lt, ge_iff_le, ne_eq, Decidable.not_not, beq_iff_eq] at hc)
    have hg5 := hc; clear hc
    refine wl_yes rfl rfl rfl rfl rfl (ow_vr (vr_move (v := .int .i64 _) rfl) ?_)
    refine wl_yes rfl rfl rfl rfl rfl (ow_vr (vr_lss rfl rfl) ?_)
    refine wl_op rfl rfl (ow_vr (vr_pick (b := true) (v := .bool _) rfl rfl) ?_)
    refine wl_op rfl rfl (ow_vr (vr_assign (v := .bool _) rfl) ?_)
    refine wl_nil ?_
    refine hK2 _ _ ?_
    refine cw_ret ?_
    refine ret_one (fn := Tryz.f28) (n := 9) (t := 2) (.inl rfl) rfl rfl ?_
    first | exact ⟨congrArg Value.bool (show (decide (v < 4294967296)) = decide (0 ≤ v ∧ v < 4294967296) by simp_all), hS⟩ | exact ⟨congrArg Value.bool (show false = decide (0 ≤ v ∧ v < 4294967296) by rw [eq_comm, decide_eq_false_iff_not]; omega), hS⟩
  · (try simp only [decide_eq_true_eq, decide_eq_false_iff_not, Bool.not_eq_true, Bool.not_eq_false, Bool.not_eq_true', Bool.not_eq_false', Bool.and_eq_true, Bool.or_eq_true, Bool.and_eq_false_iff, Bool.or_eq_false_iff, Int.not_lt, Int.not_le, gt_iff_lt, ge_iff_le, ne_eq, Decidable.not_not, beq_iff_eq] at hc)
    have hg5 := hc; clear hc
    refine wl_noD rfl rfl rfl rfl rfl rfl ?_
    refine wl_noD rfl rfl rfl rfl rfl rfl ?_
    refine wl_op rfl rfl (ow_vr (vr_pick (b := false) (v := .bool _) rfl rfl) ?_)
    refine wl_op rfl rfl (ow_vr (vr_assign (v := .bool _) rfl) ?_)
    refine wl_nil ?_
    refine hK2 _ _ ?_
    refine cw_ret ?_
    refine ret_one (fn := Tryz.f28) (n := 9) (t := 2) (.inl rfl) rfl rfl ?_
    first | exact ⟨congrArg Value.bool (show (decide (v < 4294967296)) = decide (0 ≤ v ∧ v < 4294967296) by simp_all), hS⟩ | exact ⟨congrArg Value.bool (show false = decide (0 ≤ v ∧ v < 4294967296) by rw [eq_comm, decide_eq_false_iff_not]; omega), hS⟩
theorem and_255 (x : Nat) : UInt8.ofNat (x &&& 255) = UInt8.ofNat x := by
  apply UInt8.toNat_inj.1
  have : x &&& 255 = x % 2 ^ 8 := Nat.and_two_pow_sub_one_eq_mod x 8
  rw [UInt8.toNat_ofNat', UInt8.toNat_ofNat', this]; omega
theorem set_at {xs : List UInt8} {b c : UInt8} {k n : Nat} (hk : xs.length = k) (hn : k < n) : (xs ++ List.replicate (n - k) c).set k b = (xs ++ [b]) ++ List.replicate (n - (k + 1)) c := by
  obtain ⟨r, rfl⟩ : ∃ r, n = k + 1 + r := ⟨n - (k + 1), by omega⟩
  rw [show k + 1 + r - k = r + 1 by omega, show k + 1 + r - (k + 1) = r by omega, List.replicate_succ, List.set_append_right _ _ (by omega), hk]
  simp
theorem at_rep {xs : List UInt8} {c : UInt8} {k n : Nat} (hk : xs.length = k) (hn : k < n) : (xs ++ List.replicate (n - k) c)[k]? = some c := by
  rw [List.getElem?_append_right (by omega), hk, Nat.sub_self, List.getElem?_replicate, if_pos (by omega)]
/-- Bytes as a number, the least ones first. -/
def num (l : List UInt8) : Nat := l.foldr (fun b s => s * 256 + b.toNat) 0
theorem num_cons (b : UInt8) (l : List UInt8) : num (b :: l) = num l * 256 + b.toNat := rfl
theorem num_lt : ∀ l : List UInt8, num l < 256 ^ l.length
  | [] => by show 0 < 1; omega
  | b :: l => by
    have h := num_lt l
    have hb := b.toNat_lt
    rw [num_cons, List.length_cons, Nat.pow_succ]
    generalize 256 ^ l.length = m at *
    omega
theorem num_lt6 {l : List UInt8} (h : l.length ≤ 6) : num l < 281474976710656 :=
  Nat.lt_of_lt_of_le (num_lt l) (Nat.le_trans (Nat.pow_le_pow_right (by omega) h) (by decide))
theorem or_shift {s b : Nat} (hb : b < 256) : Nat.lor (s * 2 ^ 8) b = s * 256 + b := by
  show s * 2 ^ 8 ||| b = _
  rw [Nat.mul_comm, ← Nat.two_pow_add_eq_or_of_lt (i := 8) (by omega)]
def getB (l : List UInt8) : Nat := num (l.take 7)
theorem seal_Get (l : List UInt8) (hn : l.length ≤ 1000000) : FnV Tryz.prog 69 [str l] (.int .i64 (getB l : Int)) := by
  refine FnV.mk fun E F w hS => ?_
  have ht : (l.take 7).length = min 7 l.length := List.length_take
  refine returns_enter Tryz.func69 rfl Tryz.ntmps69 rfl ?_
  refine cw_seq fun K1 hK1 => ?_
  refine cw_region ?_
  refine wl_op rfl rfl (ow_vr (vr_assign (v := .int .i64 0) rfl) ?_)
  refine wl_nil ?_
  refine hK1 _ _ ?_
  refine cw_seq fun K2 hK2 => ?_
  refine cw_region ?_
  refine wl_op rfl rfl (ow_vr (vr_assign (v := .int .i64 0) rfl) ?_)
  refine wl_nil ?_
  refine hK2 _ _ ?_
  refine cw_seq fun K3 hK3 => ?_
  refine cw_seq fun K4 hK4 => ?_
  refine cw_region ?_
  refine wl_op rfl rfl (ow_vr (vr_move (v := str _) rfl) ?_)
  refine wl_op rfl rfl (ow_vr (vr_len_s Tryz.underlying9 rfl) ?_)
  refine wl_op rfl rfl (ow_vr (vr_min2 rfl rfl) ?_)
  first | (refine wl_op rfl rfl (ow_vr (vr_subi rfl rfl (by unfold inI64; omega)) ?_)) | (refine wl_op rfl rfl (ow_vr (vr_sub rfl rfl) ?_))
  refine wl_op rfl rfl (ow_vr (vr_assign (v := .int .i64 _) rfl) ?_)
  refine wl_nil ?_
  refine hK4 _ _ ?_
  refine cw_block ?_
  refine cw_loop (fun m f w => ∃ (j : Int) (s : Nat) (g : Nat → Value), f = (upd (upd (upd g 0 (str l)) 3 (.int .i64 (s : Int))) 4 (.int .i64 j)) ∧ (-1 ≤ j ∧ j + 1 ≤ (l.take 7).length ∧ s = num ((l.take 7).drop (j + 1).toNat)) ∧ m = (j + 1).toNat ∧ Sat E (F) w) ⟨_, 0, _, (reb (reb (reb rfl rfl) rfl) rfl), ?_, rfl, hS⟩ ?_
  · split <;> exact ⟨by omega, by omega, by rw [List.drop_eq_nil_of_le (by omega)]; rfl⟩
  clear hS; rintro m f w ⟨j, s, g, rfl, hI0, rfl, hS⟩
  refine cw_seq fun K5 hK5 => ?_
  refine cw_seq fun K6 hK6 => ?_
  refine cw_region ?_
  refine wl_op rfl rfl (ow_vr (vr_move (v := .int .i64 j) rfl) ?_)
  refine wl_op rfl rfl (ow_vr (vr_geq rfl rfl) ?_)
  refine wl_nil ?_
  refine hK6 _ _ ?_
  refine cw_cond rfl rfl (fun hc => ?_) (fun hc => ?_)
  · (try simp only [decide_eq_true_eq, decide_eq_false_iff_not, Bool.not_eq_true, Bool.not_eq_false, Bool.not_eq_true', Bool.not_eq_false', Bool.and_eq_true, Bool.or_eq_true, Bool.and_eq_false_iff, Bool.or_eq_false_iff, Int.not_lt, Int.not_le, gt_iff_lt, ge_iff_le, ne_eq, Decidable.not_not, beq_iff_eq] at hc)
    have hc0 := hc; clear hc
    refine cw_skip ?_
    refine hK5 _ _ ?_
    refine cw_seq fun K7 hK7 => ?_
    refine cw_block ?_
    obtain ⟨hj, hj2, hs⟩ := hI0
    obtain ⟨b, hb⟩ := get_lt (xs := l.take 7) (k := j.toNat) (by omega)
    have hb3 : l[j.toNat]? = some b := by rw [List.getElem?_take] at hb; split at hb <;> first | exact hb | cases hb
    have hb2 := b.toNat_lt
    have hs6 := num_lt6 (l := (l.take 7).drop (j + 1).toNat) (by rw [List.length_drop]; omega)
    rw [← hs] at hs6
    refine cw_region ?_
    refine wl_op rfl rfl (ow_vr (vr_move (v := .int .i64 (s : Int)) rfl) ?_)
    refine wl_op rfl rfl (ow_vr (vr_shl_n (s := 8) rfl rfl (by decide) (by omega)) ?_)
    refine wl_op rfl rfl (ow_vr (vr_move (v := (str l)) rfl) ?_)
    refine wl_op rfl rfl (ow_vr (vr_move (v := .int .i64 j) rfl) ?_)
    refine wl_op rfl rfl (ow_vr (vr_index_s Tryz.underlying9 rfl rfl (by omega) (hb3)) ?_)
    first | (refine wl_op rfl rfl (ow_vr (vr_conv_in Tryz.underlying5 Tryz.underlying3 rfl (wrap_i64 (by unfold inI64; omega))) ?_)) | (refine wl_op rfl rfl (ow_vr (vr_conv_int Tryz.underlying5 Tryz.underlying3 rfl) ?_))
    refine wl_op rfl rfl (ow_vr (vr_or_i64 rfl rfl (by omega) (by omega)) ?_)
    refine wl_op rfl rfl (ow_vr (vr_assign (v := .int .i64 _) rfl) ?_)
    refine wl_nil ?_
    refine hK7 _ _ ?_
    refine cw_region ?_
    refine wl_op rfl rfl (ow_vr (vr_move (v := .int .i64 j) rfl) ?_)
    first | (refine wl_op rfl rfl (ow_vr (vr_subi rfl rfl (by unfold inI64; omega)) ?_)) | (refine wl_op rfl rfl (ow_vr (vr_sub rfl rfl) ?_))
    refine wl_op rfl rfl (ow_vr (vr_assign (v := .int .i64 _) rfl) ?_)
    refine wl_nil ?_
    refine thenF_normal ⟨_, ?_, j - 1, Nat.lor (s * 2 ^ 8) b.toNat, _, (reb (reb (reb rfl rfl) rfl) rfl), ?_, rfl, hS⟩
    · omega
    · refine ⟨by omega, by omega, ?_⟩; rw [or_shift hb2, hs, show (j - 1 + 1).toNat = j.toNat by omega, drop_cons hb, num_cons, show (j + 1).toNat = j.toNat + 1 by omega]
  · (try simp only [decide_eq_true_eq, decide_eq_false_iff_not, Bool.not_eq_true, Bool.not_eq_false, Bool.not_eq_true', Bool.not_eq_false', Bool.and_eq_true, Bool.or_eq_true, Bool.and_eq_false_iff, Bool.or_eq_false_iff, Int.not_lt, Int.not_le, gt_iff_lt, ge_iff_le, ne_eq, Decidable.not_not, beq_iff_eq] at hc)
    have hc0 := hc; clear hc
    refine cw_exit ?_
    refine hK3 _ _ ?_
    refine cw_seq fun K8 hK8 => ?_
    refine cw_region ?_
    refine wl_op rfl rfl (ow_vr (vr_move (v := .int .i64 (s : Int)) rfl) ?_)
    refine wl_op rfl rfl (ow_vr (vr_assign (v := .int .i64 (s : Int)) rfl) ?_)
    refine wl_nil ?_
    refine hK8 _ _ ?_
    refine cw_ret ?_
    refine ret_one (fn := Tryz.f69) (n := 21) (t := 2) (.inl rfl) rfl rfl ?_
    exact ⟨congrArg (fun x => Value.int .i64 x) (by rw [hI0.2.2, show (j + 1).toNat = 0 by omega, List.drop_zero]; rfl), hS⟩
theorem num_lt4 {l : List UInt8} (h : l.length ≤ 4) : num l < 4294967296 :=
  Nat.lt_of_lt_of_le (num_lt l) (Nat.le_trans (Nat.pow_le_pow_right (by omega) h) (by decide))
def padB (l : List UInt8) (c : Nat) : List UInt8 := l ++ List.replicate c 0
theorem padB_length (l : List UInt8) (c : Nat) : (padB l c).length = l.length + c := by simp [padB]
def sealedB (t : List UInt8) : List UInt8 := t ++ putB (sumB t) 4
def sealI (l : List UInt8) (n : Int) : List UInt8 := if (n < 4 ∨ 200 < n) ∨ n - 4 < (l.length : Int) then [] else sealedB (padB l (n - 4 - (l.length : Int)).toNat)
theorem putI_sum (t : List UInt8) : putI (sumB t : Int) 4 = putB (sumB t) 4 := by
  have := sumB_lt t
  rw [putI, if_neg (by omega)]; rfl
theorem seal_Seal (l : List UInt8) (n : Int) (hn : l.length ≤ 1000000) : FnV Tryz.prog 83 [str l, .int .i64 n] (str (sealI l n)) := by
  refine FnV.mk fun E F w hS => ?_
  refine returns_enter Tryz.func83 rfl Tryz.ntmps83 rfl ?_
  refine cw_seq fun K1 hK1 => ?_
  refine cw_region ?_
  refine wl_op rfl rfl (ow_vr (vr_assign (v := str []) rfl) ?_)
  refine wl_nil ?_
  refine hK1 _ _ ?_
  refine cw_seq fun K2 hK2 => ?_
  refine cw_seq fun K3 hK3 => ?_
  refine cw_region ?_
  refine wl_op rfl rfl (ow_vr (vr_move (v := .int .i64 _) rfl) ?_)
  refine wl_op rfl rfl (ow_vr (vr_lss rfl rfl) ?_)
  refine wl_op rfl rfl (ow_vr (vr_move (v := .bool _) rfl) ?_)
  refine wl_split 7 rfl (fun hc => ?_) (fun hc => ?_)
  · (try simp only [decide_eq_true_eq, decide_eq_false_iff_not, Bool.not_eq_true, Bool.not_eq_false, Bool.not_eq_true', Bool.not_eq_false', Bool.and_eq_true, Bool.or_eq_true, Bool.and_eq_false_iff, Bool.or_eq_false_iff, Int.not_lt, Int.not_le, gt_iff_lt, ge_iff_le, ne_eq, Decidable.not_not, beq_iff_eq] at hc)
    have hg7 := hc; clear hc
    refine wl_noD rfl rfl rfl rfl rfl rfl ?_
    refine wl_noD rfl rfl rfl rfl rfl rfl ?_
    refine wl_op rfl rfl (ow_vr (vr_pick (b := true) (v := .bool _) rfl rfl) ?_)
    refine wl_op rfl rfl (ow_vr (vr_move (v := .bool _) rfl) ?_)
    refine wl_noD rfl rfl rfl rfl rfl rfl ?_
    refine wl_noD rfl rfl rfl rfl rfl rfl ?_
    refine wl_noD rfl rfl rfl rfl rfl rfl ?_
    refine wl_noD rfl rfl rfl rfl rfl rfl ?_
    refine wl_noD rfl rfl rfl rfl rfl rfl ?_
    refine wl_op rfl rfl (ow_vr (vr_pick (b := true) (v := .bool _) rfl rfl) ?_)
    refine wl_nil ?_
    refine hK3 _ _ ?_
    refine cw_cond_t rfl rfl (rfl) ?_
    refine cw_seq fun K4 hK4 => ?_
    refine cw_region ?_
    refine wl_op rfl rfl (ow_vr (vr_assign (v := str []) rfl) ?_)
    refine wl_nil ?_
    refine hK4 _ _ ?_
    refine cw_ret ?_
    refine thenF_ret (?_)
    refine ret_one (fn := Tryz.f83) (n := 32) (t := 4) (.inl rfl) rfl rfl ?_
    exact ⟨congrArg str (show [] = sealI l n by rw [sealI, if_pos (by omega)]), hS⟩
  · (try simp only [decide_eq_true_eq, decide_eq_false_iff_not, Bool.not_eq_true, Bool.not_eq_false, Bool.not_eq_true', Bool.not_eq_false', Bool.and_eq_true, Bool.or_eq_true, Bool.and_eq_false_iff, Bool.or_eq_false_iff, Int.not_lt, Int.not_le, gt_iff_lt, ge_iff_le, ne_eq, Decidable.not_not, beq_iff_eq] at hc)
    have hg7 := hc; clear hc
    refine wl_yes rfl rfl rfl rfl rfl (ow_vr (vr_move (v := .int .i64 _) rfl) ?_)
    refine wl_yes rfl rfl rfl rfl rfl (ow_vr (vr_gtr rfl rfl) ?_)
    refine wl_op rfl rfl (ow_vr (vr_pick (b := false) (v := .bool _) rfl rfl) ?_)
    refine wl_op rfl rfl (ow_vr (vr_move (v := .bool _) rfl) ?_)
    refine wl_split 11 rfl (fun hc => ?_) (fun hc => ?_)
    · (try simp only [decide_eq_true_eq, decide_eq_false_iff_not, Bool.not_eq_true, Bool.not_eq_false, Bool.not_eq_true', Bool.not_eq_false', Bool.and_eq_true, Bool.or_eq_true, Bool.and_eq_false_iff, Bool.or_eq_false_iff, Int.not_lt, Int.not_le, gt_iff_lt, ge_iff_le, ne_eq, Decidable.not_not, beq_iff_eq] at hc)
      have hg11 := hc; clear hc
      refine wl_noD rfl rfl rfl rfl rfl rfl ?_
      refine wl_noD rfl rfl rfl rfl rfl rfl ?_
      refine wl_noD rfl rfl rfl rfl rfl rfl ?_
      refine wl_noD rfl rfl rfl rfl rfl rfl ?_
      refine wl_noD rfl rfl rfl rfl rfl rfl ?_
      refine wl_op rfl rfl (ow_vr (vr_pick (b := true) (v := .bool _) rfl rfl) ?_)
      refine wl_nil ?_
      refine hK3 _ _ ?_
      refine cw_cond_t rfl rfl (rfl) ?_
      refine cw_seq fun K5 hK5 => ?_
      refine cw_region ?_
      refine wl_op rfl rfl (ow_vr (vr_assign (v := str []) rfl) ?_)
      refine wl_nil ?_
      refine hK5 _ _ ?_
      refine cw_ret ?_
      refine thenF_ret (?_)
      refine ret_one (fn := Tryz.f83) (n := 32) (t := 4) (.inl rfl) rfl rfl ?_
      exact ⟨congrArg str (show [] = sealI l n by rw [sealI, if_pos (by omega)]), hS⟩
    · (try simp only [decide_eq_true_eq, decide_eq_false_iff_not, Bool.not_eq_true, Bool.not_eq_false, Bool.not_eq_true', Bool.not_eq_false', Bool.and_eq_true, Bool.or_eq_true, Bool.and_eq_false_iff, Bool.or_eq_false_iff, Int.not_lt, Int.not_le, gt_iff_lt, ge_iff_le, ne_eq, Decidable.not_not, beq_iff_eq] at hc)
      have hg11 := hc; clear hc
      refine wl_yes rfl rfl rfl rfl rfl (ow_vr (vr_move (v := str _) rfl) ?_)
      refine wl_yes rfl rfl rfl rfl rfl (ow_vr (vr_len_s Tryz.underlying9 rfl) ?_)
      refine wl_yes rfl rfl rfl rfl rfl (ow_vr (vr_move (v := .int .i64 _) rfl) ?_)
      first | (refine wl_yes rfl rfl rfl rfl rfl (ow_vr (vr_subi rfl rfl (by unfold inI64; omega)) ?_)) | (refine wl_yes rfl rfl rfl rfl rfl (ow_vr (vr_sub rfl rfl) ?_))
      refine wl_yes rfl rfl rfl rfl rfl (ow_vr (vr_gtr rfl rfl) ?_)
      refine wl_op rfl rfl (ow_vr (vr_pick (b := false) (v := .bool _) rfl rfl) ?_)
      refine wl_nil ?_
      refine hK3 _ _ ?_
      refine cw_cond rfl rfl (fun hc => ?_) (fun hc => ?_)
      · (try simp only [decide_eq_true_eq, decide_eq_false_iff_not, Bool.not_eq_true, Bool.not_eq_false, Bool.not_eq_true', Bool.not_eq_false', Bool.and_eq_true, Bool.or_eq_true, Bool.and_eq_false_iff, Bool.or_eq_false_iff, Int.not_lt, Int.not_le, gt_iff_lt, ge_iff_le, ne_eq, Decidable.not_not, beq_iff_eq] at hc)
        have hc0 := hc; clear hc
        refine cw_seq fun K6 hK6 => ?_
        refine cw_region ?_
        refine wl_op rfl rfl (ow_vr (vr_assign (v := str []) rfl) ?_)
        refine wl_nil ?_
        refine hK6 _ _ ?_
        refine cw_ret ?_
        refine thenF_ret (?_)
        refine ret_one (fn := Tryz.f83) (n := 32) (t := 4) (.inl rfl) rfl rfl ?_
        exact ⟨congrArg str (show [] = sealI l n by rw [sealI, if_pos (by omega)]), hS⟩
      · (try simp only [decide_eq_true_eq, decide_eq_false_iff_not, Bool.not_eq_true, Bool.not_eq_false, Bool.not_eq_true', Bool.not_eq_false', Bool.and_eq_true, Bool.or_eq_true, Bool.and_eq_false_iff, Bool.or_eq_false_iff, Int.not_lt, Int.not_le, gt_iff_lt, ge_iff_le, ne_eq, Decidable.not_not, beq_iff_eq] at hc)
        have hc0 := hc; clear hc
        refine cw_skip ?_
        refine hK2 _ _ ?_
        refine cw_seq fun K7 hK7 => ?_
        have hp : sealI l n = sealedB (padB l (n - 4 - (l.length : Int)).toNat) := by rw [sealI, if_neg (by omega)]
        obtain ⟨c, hcc⟩ : ∃ c : Nat, n - 4 - (l.length : Int) = (c : Int) := ⟨(n - 4 - (l.length : Int)).toNat, by omega⟩
        rw [hcc, Int.toNat_natCast] at hp
        have hs := sumB_lt (padB l c)
        have hlen := padB_length l c
        have hlen4 := putB_length (sumB (padB l c)) 4
        refine cw_region ?_
        refine wl_op rfl rfl (ow_vr (vr_move (v := str _) rfl) ?_)
        refine wl_op rfl rfl (ow_vr (vr_move (v := .int .i64 _) rfl) ?_)
        first | (refine wl_op rfl rfl (ow_vr (vr_subi rfl rfl (by unfold inI64; omega)) ?_)) | (refine wl_op rfl rfl (ow_vr (vr_sub rfl rfl) ?_))
        refine wl_op rfl rfl (ow_vr (vr_move (v := str _) rfl) ?_)
        refine wl_op rfl rfl (ow_vr (vr_len_s Tryz.underlying9 rfl) ?_)
        refine wl_op rfl rfl (ow_vr (vr_as (vr_subi rfl rfl (by unfold inI64; omega)) (congrArg (Value.int .i64) hcc)) ?_)
        refine wl_op rfl rfl (ow_fn (vs := [str _, .int .i64 _]) en_66 rfl hS (strings_Repeat 0 c (by omega)) ?_)
        clear hS; rintro v24 _ w ⟨rfl, rfl⟩ hS; (try simp only [List.cons_append, List.nil_append] at hS)
        refine wl_op rfl rfl (ow_vr (vr_as (v' := str (padB l c)) (vr_cat_s (a := l) (b := List.replicate c 0) rfl rfl (by rw [List.length_replicate]; omega)) rfl) ?_)
        refine wl_op rfl rfl (ow_vr (vr_assign (v := str _) rfl) ?_)
        refine wl_nil ?_
        refine hK7 _ _ ?_
        refine cw_seq fun K8 hK8 => ?_
        refine cw_region ?_
        refine wl_op rfl rfl (ow_vr (vr_move (v := str _) rfl) ?_)
        refine wl_op rfl rfl (ow_vr (vr_move (v := str _) rfl) ?_)
        refine wl_op rfl rfl (ow_fn (vs := [str _]) en_93 rfl hS (seal_Sum (padB l c) (by omega)) ?_)
        clear hS; rintro v28 _ w ⟨rfl, rfl⟩ hS; (try simp only [List.cons_append, List.nil_append] at hS)
        first | (refine wl_op rfl rfl (ow_vr (vr_conv_in Tryz.underlying147 Tryz.underlying3 rfl (wrap_i64 (by unfold inI64; omega))) ?_)) | (refine wl_op rfl rfl (ow_vr (vr_conv_int Tryz.underlying147 Tryz.underlying3 rfl) ?_))
        refine wl_op rfl rfl (ow_fn (vs := [.int .i64 _, .int .i64 _]) en_82 rfl hS (seal_Put (sumB (padB l c) : Int) 4) ?_)
        clear hS; rintro v30 _ w ⟨rfl, rfl⟩ hS; (try simp only [List.cons_append, List.nil_append] at hS)
        refine wl_op rfl rfl (ow_vr (vr_cat_s (a := padB l c) (b := putI (sumB (padB l c) : Int) 4) rfl rfl (by rw [putI_sum]; omega)) ?_)
        refine wl_op rfl rfl (ow_vr (vr_assign (v := str _) rfl) ?_)
        refine wl_nil ?_
        refine hK8 _ _ ?_
        refine cw_ret ?_
        refine ret_one (fn := Tryz.f83) (n := 32) (t := 4) (.inl rfl) rfl rfl ?_
        exact ⟨congrArg str (by rw [hp, putI_sum]; rfl), hS⟩
def bodyB (l : List UInt8) : List UInt8 := l.take (l.length - 4)
def tailB (l : List UInt8) : List UInt8 := l.drop (l.length - 4)
def openOk (l : List UInt8) : Bool := decide (4 ≤ l.length ∧ num (tailB l) = sumB (bodyB l))
def openL (l : List UInt8) : List UInt8 := if openOk l then bodyB l else []
theorem getB_tail {l : List UInt8} (h : 4 ≤ l.length) : getB (tailB l) = num (tailB l) := by
  rw [getB, List.take_of_length_le (by rw [tailB, List.length_drop]; omega)]
theorem tailB_length (l : List UInt8) : (tailB l).length ≤ 4 := by rw [tailB, List.length_drop]; omega
theorem bodyB_length (l : List UInt8) : (bodyB l).length = l.length - 4 := by rw [bodyB, List.length_take]; omega
theorem seal_Open0 (l : List UInt8) (hl : l.length < 4) : FnV Tryz.prog 67 [str l] (.tuple #[str (openL l), .bool (openOk l)]) := by
  refine FnV.mk fun E F w hS => ?_
  have ho : openOk l = false := by rw [openOk, decide_eq_false_iff_not]; omega
  refine returns_enter Tryz.func67 rfl Tryz.ntmps67 rfl ?_
  refine cw_seq fun K1 hK1 => ?_
  refine cw_region ?_
  refine wl_op rfl rfl (ow_vr (vr_assign (v := str []) rfl) ?_)
  refine wl_op rfl rfl (ow_vr (vr_assign (v := .bool false) rfl) ?_)
  refine wl_nil ?_
  refine hK1 _ _ ?_
  refine cw_seq fun K2 hK2 => ?_
  refine cw_region ?_
  refine wl_op rfl rfl (ow_vr (vr_move (v := str _) rfl) ?_)
  refine wl_op rfl rfl (ow_vr (vr_len_s Tryz.underlying9 rfl) ?_)
  first | (refine wl_op rfl rfl (ow_vr (vr_subi rfl rfl (by unfold inI64; omega)) ?_)) | (refine wl_op rfl rfl (ow_vr (vr_sub rfl rfl) ?_))
  refine wl_op rfl rfl (ow_vr (vr_assign (v := .int .i64 _) rfl) ?_)
  refine wl_nil ?_
  refine hK2 _ _ ?_
  refine cw_seq fun K3 hK3 => ?_
  refine cw_seq fun K4 hK4 => ?_
  refine cw_draw_sat hS [(0, 0), (1, 0), (2, 0), (3, 0), (4, 0), (5, 0), (7, 0), (8, 0), (9, 0), (6, 2), (10, 2), (11, 0), (12, 0), (13, 0)] mixed (planFast_ok (by kernel_rfl)) (by rintro _ _ _ ⟨⟩) ?_
  clear hS; intro w hS
  refine pl_take rfl (yes_none rfl) (vr_move (v := .int .i64 _) rfl) ?_
  refine pl_take rfl (yes_none rfl) (vr_lss rfl rfl) ?_
  refine pl_take rfl (yes_none rfl) (vr_move (v := .bool _) rfl) ?_
  refine pl_known 10 rfl (c := true) (by simp; omega) ?_
  refine pl_noD rfl (yes_not rfl rfl rfl rfl rfl) ?_
  refine pl_noD rfl (yes_not rfl rfl rfl rfl rfl) ?_
  refine pl_noD rfl (yes_not rfl rfl rfl rfl rfl) ?_
  refine pl_noD rfl (yes_not rfl rfl rfl rfl rfl) ?_
  refine pl_noD rfl (yes_not rfl rfl rfl rfl rfl) ?_
  refine pl_noD rfl (yes_not rfl rfl rfl rfl rfl) ?_
  refine pl_noD rfl (yes_not rfl rfl rfl rfl rfl) ?_
  refine pl_noD rfl (yes_not rfl rfl rfl rfl rfl) ?_
  refine pl_noD rfl (yes_not rfl rfl rfl rfl rfl) ?_
  refine pl_noD rfl (yes_not rfl rfl rfl rfl rfl) ?_
  refine pl_take rfl (yes_none rfl) (vr_pick (b := true) (v := .bool _) rfl rfl) ?_
  refine pl_nil hS ?_
  clear hS; intro w hS
  refine hK4 _ _ ?_
  refine cw_cond_t rfl rfl (rfl) ?_
  refine cw_seq fun K5 hK5 => ?_
  refine cw_region ?_
  refine wl_op rfl rfl (ow_vr (vr_assign (v := str []) rfl) ?_)
  refine wl_op rfl rfl (ow_vr (vr_assign (v := .bool false) rfl) ?_)
  refine wl_nil ?_
  refine hK5 _ _ ?_
  refine cw_ret ?_
  refine thenF_ret (?_)
  refine ret_two (fn := Tryz.f67) (n := 25) (t := 2) (u := 3) (.inl rfl) rfl rfl rfl ?_
  exact ⟨by rw [openL, ho] <;> rfl, hS⟩
theorem seal_Open (l : List UInt8) (hn : l.length ≤ 1000000) : FnV Tryz.prog 67 [str l] (.tuple #[str (openL l), .bool (openOk l)]) := by
  rcases Nat.lt_or_ge l.length 4 with hl | hl
  · exact seal_Open0 l hl
  refine FnV.mk fun E F w hS => ?_
  have hs := sumB_lt (bodyB l)
  have hb := bodyB_length l
  have ht := tailB_length l
  refine returns_enter Tryz.func67 rfl Tryz.ntmps67 rfl ?_
  refine cw_seq fun K1 hK1 => ?_
  refine cw_region ?_
  refine wl_op rfl rfl (ow_vr (vr_assign (v := str []) rfl) ?_)
  refine wl_op rfl rfl (ow_vr (vr_assign (v := .bool false) rfl) ?_)
  refine wl_nil ?_
  refine hK1 _ _ ?_
  refine cw_seq fun K2 hK2 => ?_
  refine cw_region ?_
  refine wl_op rfl rfl (ow_vr (vr_move (v := str _) rfl) ?_)
  refine wl_op rfl rfl (ow_vr (vr_len_s Tryz.underlying9 rfl) ?_)
  refine wl_op rfl rfl (ow_vr (vr_as (vr_subi rfl rfl (by unfold inI64; omega)) (congrArg (Value.int .i64) (show (l.length : Int) - 4 = ((l.length - 4 : Nat) : Int) by omega))) ?_)
  refine wl_op rfl rfl (ow_vr (vr_assign (v := .int .i64 _) rfl) ?_)
  refine wl_nil ?_
  refine hK2 _ _ ?_
  refine cw_seq fun K3 hK3 => ?_
  refine cw_seq fun K4 hK4 => ?_
  refine cw_draw_sat hS [(0, 0), (1, 0), (2, 0), (3, 0), (4, 0), (5, 0), (7, 0), (8, 0), (9, 0), (6, 2), (10, 2), (11, 0), (12, 0), (13, 0)] mixed (planFast_ok (by kernel_rfl)) (by rintro _ _ _ ⟨⟩) ?_
  clear hS; intro w hS
  refine pl_take rfl (yes_none rfl) (vr_move (v := .int .i64 _) rfl) ?_
  refine pl_take rfl (yes_none rfl) (vr_lss rfl rfl) ?_
  refine pl_take rfl (yes_none rfl) (vr_move (v := .bool _) rfl) ?_
  refine pl_known 10 rfl (c := false) (by simp) ?_
  refine pl_take rfl (yes_some rfl rfl rfl rfl) (vr_move (v := str _) rfl) ?_
  refine pl_take rfl (yes_some rfl rfl rfl rfl) (vr_move (v := .int .i64 _) rfl) ?_
  refine pl_take rfl (yes_some rfl rfl rfl rfl) (vr_as (v' := str (tailB l)) (vr_slice_from (l := l) (h := l.length - 4) Tryz.underlying9 rfl rfl (by omega)) rfl) ?_
  refine pl_take rfl (yes_some rfl rfl rfl rfl) (vr_move (v := str _) rfl) ?_
  refine pl_take rfl (yes_some rfl rfl rfl rfl) (vr_move (v := .int .i64 _) rfl) ?_
  refine pl_take rfl (yes_some rfl rfl rfl rfl) (vr_as (v' := str (bodyB l)) (vr_slice_to (l := l) (h := l.length - 4) Tryz.underlying9 rfl rfl (by omega)) rfl) ?_
  refine pl_act hS rfl (yes_some rfl rfl rfl rfl) ?_
  clear hS; intro w hS
  refine (ow_fn (vs := [str _]) en_69 rfl hS (seal_Get (tailB l) (by omega)) ?_)
  clear hS; rintro v14 _ w ⟨rfl, rfl⟩ hS; (try simp only [List.cons_append, List.nil_append] at hS)
  refine ⟨by first | exact hS | exact hS.tail1 | exact hS.tail1.tail1 | exact hS.tail1.tail1.tail1, ?_⟩
  refine pl_act hS rfl (yes_some rfl rfl rfl rfl) ?_
  clear hS; intro w hS
  refine (ow_fn (vs := [str _]) en_93 rfl hS (seal_Sum (bodyB l) (by omega)) ?_)
  clear hS; rintro v18 _ w ⟨rfl, rfl⟩ hS; (try simp only [List.cons_append, List.nil_append] at hS)
  refine ⟨by first | exact hS | exact hS.tail1 | exact hS.tail1.tail1 | exact hS.tail1.tail1.tail1, ?_⟩
  first | (refine pl_take rfl (yes_some rfl rfl rfl rfl) (vr_conv_in Tryz.underlying147 Tryz.underlying3 rfl (wrap_i64 (by unfold inI64; omega))) ?_) | (refine pl_take rfl (yes_some rfl rfl rfl rfl) (vr_conv_int Tryz.underlying147 Tryz.underlying3 rfl) ?_)
  refine pl_take rfl (yes_some rfl rfl rfl rfl) (vr_neq rfl rfl) ?_
  refine pl_take rfl (yes_none rfl) (vr_pick (b := false) (v := .bool _) rfl rfl) ?_
  refine pl_nil hS ?_
  clear hS; intro w hS
  refine hK4 _ _ ?_
  refine cw_cond rfl rfl (fun hc => ?_) (fun hc => ?_)
  · (try simp only [decide_eq_true_eq, decide_eq_false_iff_not, Bool.not_eq_true, Bool.not_eq_false, Bool.not_eq_true', Bool.not_eq_false', Bool.and_eq_true, Bool.or_eq_true, Bool.and_eq_false_iff, Bool.or_eq_false_iff, Int.not_lt, Int.not_le, gt_iff_lt, ge_iff_le, ne_eq, Decidable.not_not, beq_iff_eq] at hc)
    have hc0 := hc; clear hc
    refine cw_seq fun K5 hK5 => ?_
    have ho : openOk l = false := by rw [openOk, decide_eq_false_iff_not, ← getB_tail hl]; omega
    refine cw_region ?_
    refine wl_op rfl rfl (ow_vr (vr_assign (v := str []) rfl) ?_)
    refine wl_op rfl rfl (ow_vr (vr_assign (v := .bool false) rfl) ?_)
    refine wl_nil ?_
    refine hK5 _ _ ?_
    refine cw_ret ?_
    refine thenF_ret (?_)
    refine ret_two (fn := Tryz.f67) (n := 25) (t := 2) (u := 3) (.inl rfl) rfl rfl rfl ?_
    exact ⟨by rw [openL, ho] <;> rfl, hS⟩
  · (try simp only [decide_eq_true_eq, decide_eq_false_iff_not, Bool.not_eq_true, Bool.not_eq_false, Bool.not_eq_true', Bool.not_eq_false', Bool.and_eq_true, Bool.or_eq_true, Bool.and_eq_false_iff, Bool.or_eq_false_iff, Int.not_lt, Int.not_le, gt_iff_lt, ge_iff_le, ne_eq, Decidable.not_not, beq_iff_eq] at hc)
    have hc0 := hc; clear hc
    refine cw_skip ?_
    refine hK3 _ _ ?_
    refine cw_seq fun K6 hK6 => ?_
    have ho : openOk l = true := by rw [openOk, decide_eq_true_eq, ← getB_tail hl]; omega
    refine cw_region ?_
    refine wl_op rfl rfl (ow_vr (vr_move (v := str _) rfl) ?_)
    refine wl_op rfl rfl (ow_vr (vr_move (v := .int .i64 _) rfl) ?_)
    refine wl_op rfl rfl (ow_vr (vr_as (v' := str (bodyB l)) (vr_slice_to (l := l) (h := l.length - 4) Tryz.underlying9 rfl rfl (by omega)) rfl) ?_)
    refine wl_op rfl rfl (ow_vr (vr_assign (v := str _) rfl) ?_)
    refine wl_op rfl rfl (ow_vr (vr_assign (v := .bool true) rfl) ?_)
    refine wl_nil ?_
    refine hK6 _ _ ?_
    refine cw_ret ?_
    refine ret_two (fn := Tryz.f67) (n := 25) (t := 2) (u := 3) (.inl rfl) rfl rfl rfl ?_
    exact ⟨by rw [openL, ho] <;> rfl, hS⟩
end Go.Proofs.YtjcagoighpmdkaaGreatDoor
