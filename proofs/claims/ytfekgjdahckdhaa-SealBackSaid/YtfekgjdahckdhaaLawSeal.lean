/- The laws of chapter 3: what is summed, put, sealed. -/
import Derived.Test.YtfekgjdahckdhaaSeal
import Derived.Test.YtfekgjdahckdhaaConv
import Derived.Test.YtfekgjdahckdhaaRow
namespace Go.Proofs.Ytfekgjdahckdhaa
open Go Go.RowKit
set_option linter.unusedVariables false
set_option linter.unusedSimpArgs false
attribute [local irreducible] actF WL CW OW PL SW VR LR yes Returns Fn
/-! sums -/
theorem xor_inj {s t b : Nat} (h : s ^^^ b = t ^^^ b) : s = t := by
  have := congrArg (· ^^^ b) h
  simpa [Nat.xor_assoc] using this
theorem mul_inj_gen {x y P Q M k : Nat} (h1 : P * Q = 1 + k * M) (h : x * P % M = y * P % M) : x % M = y % M := by
  have e : ∀ z, z * P * Q % M = z % M := fun z => by rw [Nat.mul_assoc, h1, Nat.mul_add, Nat.mul_one, ← Nat.mul_assoc, Nat.add_mul_mod_self_right]
  rw [← e x, ← e y, Nat.mul_mod (x * P), Nat.mul_mod (y * P), h]
theorem mul_inj {x y : Nat} (hx : x < 4294967296) (hy : y < 4294967296) (h : x * 16777619 % 4294967296 = y * 16777619 % 4294967296) : x = y := by
  have := mul_inj_gen (Q := 899433627) (k := 3513497) (by decide) h
  rwa [Nat.mod_eq_of_lt hx, Nat.mod_eq_of_lt hy] at this
theorem sumS_inj {s t : Nat} {b : UInt8} (hs : s < 4294967296) (ht : t < 4294967296) (h : sumS s b = sumS t b) : s = t := by
  have hb : b.toNat < 2 ^ 32 := by have := b.toNat_lt; omega
  refine xor_inj (mul_inj ?_ ?_ h)
  · exact Nat.xor_lt_two_pow (n := 32) (by omega) hb
  · exact Nat.xor_lt_two_pow (n := 32) (by omega) hb
theorem sumS_inj2 {s : Nat} {b c : UInt8} (hs : s < 4294967296) (h : sumS s b = sumS s c) : b = c := by
  have hb : b.toNat < 2 ^ 32 := by have := b.toNat_lt; omega
  have hc : c.toNat < 2 ^ 32 := by have := c.toNat_lt; omega
  have := mul_inj (Nat.xor_lt_two_pow (n := 32) (by omega) hb) (Nat.xor_lt_two_pow (n := 32) (by omega) hc) h
  rw [Nat.xor_comm s, Nat.xor_comm s] at this
  exact UInt8.toNat_inj.1 (xor_inj this)
theorem sumF_lt {s : Nat} (hs : s < 4294967296) (l : List UInt8) : sumF sumS s l < 4294967296 := by
  rcases List.eq_nil_or_concat l with rfl | ⟨t, b, rfl⟩
  · exact hs
  · rw [List.concat_eq_append, sumF_snoc]; exact sumS_lt _ _
theorem sumF_inj : ∀ (l : List UInt8) {s t : Nat}, s < 4294967296 → t < 4294967296 → sumF sumS s l = sumF sumS t l → s = t
  | [], _, _, _, _, h => h
  | b :: l, s, t, hs, ht, h => sumS_inj hs ht (sumF_inj l (sumS_lt _ _) (sumS_lt _ _) h)
theorem sumF_set : ∀ (l : List UInt8) (k : Nat) (b : UInt8) {s : Nat}, s < 4294967296 → k < l.length → sumF sumS s (l.set k b) = sumF sumS s l → l[k]? = some b
  | c :: l, 0, b, s, hs, _, h => by
    have := sumF_inj l (sumS_lt s b) (sumS_lt s c) h
    rw [sumS_inj2 hs this]; rfl
  | c :: l, k + 1, b, s, hs, hk, h => by
    rw [List.getElem?_cons_succ]
    exact sumF_set l k b (sumS_lt s c) (by simpa using hk) h
theorem sumB_set {l : List UInt8} {k : Nat} {b : UInt8} (hk : k < l.length) (h : sumB (l.set k b) = sumB l) : l[k]? = some b := sumF_set l k b (by omega) hk h
/-! numbers as bytes -/
theorem putB_succ (v n : Nat) : putB v (n + 1) = UInt8.ofNat v :: putB (v / 256) n := by
  unfold putB
  rw [List.range_succ_eq_map, List.map_cons, List.map_map, Nat.pow_zero, Nat.div_one]
  congr 1
  apply List.map_congr_left
  intro i _
  simp only [Function.comp]
  rw [Nat.div_div_eq_div_mul, Nat.pow_succ, Nat.mul_comm]
theorem num_put : ∀ (n v : Nat), v < 256 ^ n → num (putB v n) = v
  | 0, v, h => by
    have : v = 0 := by rw [Nat.pow_zero] at h; omega
    subst this; rfl
  | n + 1, v, h => by
    rw [putB_succ, num_cons, num_put n (v / 256) (by rw [Nat.pow_succ] at h; exact Nat.div_lt_of_lt_mul (by rw [Nat.mul_comm]; exact h)), UInt8.toNat_ofNat']
    omega
theorem num_inj : ∀ (l m : List UInt8), l.length = m.length → num l = num m → l = m
  | [], [], _, _ => rfl
  | b :: l, c :: m, h, e => by
    rw [num_cons, num_cons] at e
    have hb := b.toNat_lt
    have hc := c.toNat_lt
    rw [num_inj l m (by simpa using h) (by omega), UInt8.toNat_inj.1 (show b.toNat = c.toNat by omega)]
theorem putB_take (v : Nat) : ∀ (n m : Nat), m ≤ n → (putB v n).take m = putB v m := by
  intro n m h
  unfold putB
  rw [← List.map_take, List.take_range, Nat.min_eq_left h]
/-! sealed -/
theorem sealed_length (t : List UInt8) : (sealedB t).length = t.length + 4 := by rw [sealedB, List.length_append, putB_length]
theorem body_sealed (t : List UInt8) : bodyB (sealedB t) = t := by
  rw [bodyB, sealed_length, Nat.add_sub_cancel, sealedB, List.take_left]
theorem tail_sealed (t : List UInt8) : tailB (sealedB t) = putB (sumB t) 4 := by
  rw [tailB, sealed_length, Nat.add_sub_cancel, sealedB, List.drop_left]
theorem open_sealed (t : List UInt8) : openOk (sealedB t) = true := by
  rw [openOk, decide_eq_true_eq, sealed_length, body_sealed, tail_sealed, num_put 4 _ (sumB_lt t)]
  exact ⟨by omega, rfl⟩
theorem openL_sealed (t : List UInt8) : openL (sealedB t) = t := by rw [openL, open_sealed, if_pos rfl, body_sealed]
/-- One byte turned: it is not opened. -/
theorem open_turned (t : List UInt8) (k : Nat) (b : UInt8) (hk : k < t.length + 4) (hb : (sealedB t)[k]? ≠ some b) : openOk ((sealedB t).set k b) = false := by
  rw [openOk, decide_eq_false_iff_not]
  rintro ⟨-, h⟩
  have hl := sealed_length t
  apply hb
  rcases Nat.lt_or_ge k t.length with h1 | h1
  · have e1 : bodyB ((sealedB t).set k b) = t.set k b := by
      rw [bodyB, List.length_set, hl, Nat.add_sub_cancel, sealedB, List.set_append_left _ _ h1, List.take_left' (by rw [List.length_set])]
    have e2 : tailB ((sealedB t).set k b) = putB (sumB t) 4 := by
      rw [tailB, List.length_set, hl, Nat.add_sub_cancel, sealedB, List.set_append_left _ _ h1, List.drop_left' (by rw [List.length_set])]
    rw [e1, e2, num_put 4 _ (sumB_lt t)] at h
    rw [sealedB, List.getElem?_append_left h1]
    exact sumB_set h1 h.symm
  · have e1 : bodyB ((sealedB t).set k b) = t := by
      rw [bodyB, List.length_set, hl, Nat.add_sub_cancel, sealedB, List.set_append_right _ _ h1, List.take_left]
    have e2 : tailB ((sealedB t).set k b) = (putB (sumB t) 4).set (k - t.length) b := by
      rw [tailB, List.length_set, hl, Nat.add_sub_cancel, sealedB, List.set_append_right _ _ h1, List.drop_left]
    rw [e1, e2] at h
    have := num_inj _ _ (by rw [List.length_set]) (h.trans (num_put 4 _ (sumB_lt t)).symm)
    rw [sealedB, List.getElem?_append_right h1]
    rw [← this] 
    rw [List.getElem?_set_self (by rw [putB_length]; omega)]
theorem sealI_ok {l : List UInt8} {n : Int} (h1 : (l.length : Int) + 4 ≤ n) (h2 : n ≤ 200) : sealI l n = sealedB (padB l (n - 4 - (l.length : Int)).toNat) := by
  rw [sealI, if_neg (by omega)]
theorem sealI_length {l : List UInt8} {n : Int} (h1 : (l.length : Int) + 4 ≤ n) (h2 : n ≤ 200) : ((sealI l n).length : Int) = n := by
  rw [sealI_ok h1 h2, sealed_length, padB_length]; omega
/-- A first call whose answer the document fixes. -/
theorem alive3 : FnV Try.prog 35 [] (.bool true) := by
  refine FnV.mk fun E F w hS => ?_
  have h1 : sealI [97, 98] 10 = sealedB [97, 98, 0, 0, 0, 0] := rfl
  have hlen : (sealI [97, 98] 10).length = 10 := by rw [h1, sealed_length]; rfl
  have hop : openOk (sealI [97, 98] 10) = true := by rw [h1, open_sealed]
  have hol : openL (sealI [97, 98] 10) = [97, 98, 0, 0, 0, 0] := by rw [h1, openL_sealed]
  have hput : putI 258 4 = putB 258 4 := rfl
  have hget : getB (putI 258 4) = 258 := by rw [hput, getB, List.take_of_length_le (by rw [putB_length]; omega), num_put 4 258 (by decide)]
  have hl4 : (putI 258 4).length = 4 := by rw [hput, putB_length]
  refine returns_enter Try.func35 rfl Try.ntmps35 rfl ?_
  refine cw_seq fun K1 hK1 => ?_
  refine cw_region ?_
  refine wl_op rfl rfl (ow_vr (vr_assign rfl) ?_)
  refine wl_nil ?_
  refine hK1 _ _ ?_
  refine cw_seq fun K2 hK2 => ?_
  refine cw_region ?_
  refine wl_op rfl rfl (ow_fn (vs := [str _, .int .i64 _]) en_38 rfl hS (seal_Seal [97, 98] 10 (by simp)) ?_)
  clear hS; rintro _ _ w ⟨rfl, rfl⟩ hS; (try simp only [List.cons_append, List.nil_append] at hS)
  refine wl_op rfl rfl (ow_vr (vr_assign (v := str _) rfl) ?_)
  refine wl_nil ?_
  refine hK2 _ _ ?_
  refine cw_seq fun K3 hK3 => ?_
  refine cw_region ?_
  refine wl_op rfl rfl (ow_vr (vr_move (v := str _) rfl) ?_)
  refine wl_op rfl rfl (ow_fn (vs := [str _]) en_36 rfl hS (seal_Open (sealI [97, 98] 10) (by omega)) ?_)
  clear hS; rintro _ _ w ⟨rfl, rfl⟩ hS; (try simp only [List.cons_append, List.nil_append] at hS)
  refine wl_op rfl rfl (ow_vr (vr_move (v := .tuple _) rfl) ?_)
  refine wl_op rfl rfl (ow_vr (vr_extract rfl rfl) ?_)
  refine wl_op rfl rfl (ow_vr (vr_extract rfl rfl) ?_)
  refine wl_op rfl rfl (ow_vr (vr_assign (v := str _) rfl) ?_)
  refine wl_op rfl rfl (ow_vr (vr_assign (v := .bool _) rfl) ?_)
  refine wl_nil ?_
  refine hK3 _ _ ?_
  refine cw_seq fun K4 hK4 => ?_
  refine cw_region ?_
  refine wl_op rfl rfl (ow_vr (vr_move (v := str _) rfl) ?_)
  refine wl_op rfl rfl (ow_vr (vr_len_s Try.underlying9 rfl) ?_)
  refine wl_op rfl rfl (ow_vr (vr_eql rfl rfl) ?_)
  refine wl_op rfl rfl (ow_vr (vr_move (v := .bool _) rfl) ?_)
  refine wl_known 13 rfl (c := true) (by rw [hlen]; rfl) ?_
  refine wl_yes rfl rfl rfl rfl rfl (ow_vr (vr_move (v := .bool _) rfl) ?_)
  refine wl_op rfl rfl (ow_vr (vr_pick (b := true) rfl rfl) ?_)
  refine wl_op rfl rfl (ow_vr (vr_move (v := .bool _) rfl) ?_)
  refine wl_known 16 rfl (c := true) (hop) ?_
  refine wl_yes rfl rfl rfl rfl rfl (ow_vr (vr_move (v := str _) rfl) ?_)
  refine wl_yes rfl rfl rfl rfl rfl (ow_vr (vr_eql_s rfl rfl) ?_)
  refine wl_op rfl rfl (ow_vr (vr_pick (b := true) rfl rfl) ?_)
  refine wl_op rfl rfl (ow_vr (vr_move (v := .bool _) rfl) ?_)
  refine wl_known 20 rfl (c := true) (by rw [hol]; rfl) ?_
  refine wl_yes rfl rfl rfl rfl rfl (ow_fn (vs := [.int .i64 _, .int .i64 _]) en_41 rfl hS (seal_Put 258 4) ?_)
  clear hS; rintro _ _ w ⟨rfl, rfl⟩ hS; (try simp only [List.cons_append, List.nil_append] at hS)
  refine wl_yes rfl rfl rfl rfl rfl (ow_fn (vs := [str _]) en_43 rfl hS (seal_Get (putI 258 4) (by omega)) ?_)
  clear hS; rintro _ _ w ⟨rfl, rfl⟩ hS; (try simp only [List.cons_append, List.nil_append] at hS)
  refine wl_yes rfl rfl rfl rfl rfl (ow_vr (vr_eql rfl rfl) ?_)
  refine wl_op rfl rfl (ow_vr (vr_pick (b := true) rfl rfl) ?_)
  refine wl_op rfl rfl (ow_vr (vr_move (v := .bool _) rfl) ?_)
  refine wl_known 25 rfl (c := true) (by rw [hget]; rfl) ?_
  refine wl_yes rfl rfl rfl rfl rfl (ow_fn (vs := [str _]) en_39 rfl hS (seal_Sum [] (by simp)) ?_)
  clear hS; rintro _ _ w ⟨rfl, rfl⟩ hS; (try simp only [List.cons_append, List.nil_append] at hS)
  refine wl_yes rfl rfl rfl rfl rfl (ow_vr (vr_eql rfl rfl) ?_)
  refine wl_op rfl rfl (ow_vr (vr_pick (b := true) rfl rfl) ?_)
  refine wl_op rfl rfl (ow_vr (vr_assign (v := .bool _) rfl) ?_)
  refine wl_nil ?_
  refine hK4 _ _ ?_
  refine cw_ret ?_
  refine ret_one (fn := Try.f35) (n := 29) (t := 0) (.inl rfl) rfl rfl ?_
  exact ⟨congrArg Value.bool (by rw [sumB_nil]; rfl), hS⟩
theorem seal_tells (b c : List UInt8) (v n : Int) (hb : b.length ≤ 9223372036854775807) (hc : c.length ≤ 9223372036854775807) : FnV Try.prog 7 [str b, str c, .int .i64 v, .int .i64 n] (.bool true) := by
  refine FnV.mk fun E F w hS => ?_
  have hsl : b.length ≤ 1000 → (sealI b n).length ≤ 1000 := fun h => by
    rw [sealI]; split
    · simp
    · rw [sealed_length, padB_length]; omega
  refine returns_enter Try.func7 rfl Try.ntmps7 rfl ?_
  refine cw_seq fun K1 hK1 => ?_
  refine cw_region ?_
  refine wl_op rfl rfl (ow_vr (vr_assign rfl) ?_)
  refine wl_nil ?_
  refine hK1 _ _ ?_
  refine cw_seq fun K2 hK2 => ?_
  refine cw_seq fun K3 hK3 => ?_
  refine cw_region ?_
  refine wl_op rfl rfl (ow_vr (vr_move (v := str _) rfl) ?_)
  refine wl_op rfl rfl (ow_vr (vr_len_s Try.underlying9 rfl) ?_)
  refine wl_op rfl rfl (ow_vr (vr_gtr rfl rfl) ?_)
  refine wl_op rfl rfl (ow_vr (vr_move (v := .bool _) rfl) ?_)
  refine wl_split 21 rfl (fun hc => ?_) (fun hc => ?_)
  · (try simp only [decide_eq_true_eq, decide_eq_false_iff_not, Bool.not_eq_true, Bool.not_eq_false, Bool.not_eq_true', Bool.not_eq_false', Bool.and_eq_true, Bool.or_eq_true, Bool.and_eq_false_iff, Bool.or_eq_false_iff, Int.not_lt, Int.not_le, gt_iff_lt, ge_iff_le, ne_eq, Decidable.not_not, beq_iff_eq] at hc)
    have hg21 := hc; clear hc
    refine wl_no rfl rfl rfl rfl rfl rfl ?_
    refine wl_no rfl rfl rfl rfl rfl rfl ?_
    refine wl_no rfl rfl rfl rfl rfl rfl ?_
    refine wl_op rfl rfl (ow_vr (vr_pick (b := true) rfl rfl) ?_)
    refine wl_op rfl rfl (ow_vr (vr_move (v := .bool _) rfl) ?_)
    refine wl_no rfl rfl rfl rfl rfl rfl ?_
    refine wl_no rfl rfl rfl rfl rfl rfl ?_
    refine wl_op rfl rfl (ow_vr (vr_pick (b := true) rfl rfl) ?_)
    refine wl_nil ?_
    refine hK3 _ _ ?_
    refine cw_cond_t rfl rfl (rfl) ?_
    refine cw_seq fun K4 hK4 => ?_
    refine cw_region ?_
    refine wl_op rfl rfl (ow_fn (vs := []) en_35 rfl hS (alive3) ?_)
    clear hS; rintro _ _ w ⟨rfl, rfl⟩ hS; (try simp only [List.cons_append, List.nil_append] at hS)
    refine wl_op rfl rfl (ow_vr (vr_assign (v := .bool _) rfl) ?_)
    refine wl_nil ?_
    refine hK4 _ _ ?_
    refine cw_ret ?_
    refine thenF_ret (?_)
    refine ret_one (fn := Try.f7) (n := 102) (t := 8) (.inl rfl) rfl rfl ?_
    first | exact ⟨rfl, hS⟩ | exact ⟨congrArg Value.bool (by simp), hS⟩
  · (try simp only [decide_eq_true_eq, decide_eq_false_iff_not, Bool.not_eq_true, Bool.not_eq_false, Bool.not_eq_true', Bool.not_eq_false', Bool.and_eq_true, Bool.or_eq_true, Bool.and_eq_false_iff, Bool.or_eq_false_iff, Int.not_lt, Int.not_le, gt_iff_lt, ge_iff_le, ne_eq, Decidable.not_not, beq_iff_eq] at hc)
    have hg21 := hc; clear hc
    refine wl_yes rfl rfl rfl rfl rfl (ow_vr (vr_move (v := str _) rfl) ?_)
    refine wl_yes rfl rfl rfl rfl rfl (ow_vr (vr_len_s Try.underlying9 rfl) ?_)
    refine wl_yes rfl rfl rfl rfl rfl (ow_vr (vr_gtr rfl rfl) ?_)
    refine wl_op rfl rfl (ow_vr (vr_pick (b := false) rfl rfl) ?_)
    refine wl_op rfl rfl (ow_vr (vr_move (v := .bool _) rfl) ?_)
    refine wl_split 26 rfl (fun hc => ?_) (fun hc => ?_)
    · (try simp only [decide_eq_true_eq, decide_eq_false_iff_not, Bool.not_eq_true, Bool.not_eq_false, Bool.not_eq_true', Bool.not_eq_false', Bool.and_eq_true, Bool.or_eq_true, Bool.and_eq_false_iff, Bool.or_eq_false_iff, Int.not_lt, Int.not_le, gt_iff_lt, ge_iff_le, ne_eq, Decidable.not_not, beq_iff_eq] at hc)
      have hg26 := hc; clear hc
      refine wl_no rfl rfl rfl rfl rfl rfl ?_
      refine wl_no rfl rfl rfl rfl rfl rfl ?_
      refine wl_op rfl rfl (ow_vr (vr_pick (b := true) rfl rfl) ?_)
      refine wl_nil ?_
      refine hK3 _ _ ?_
      refine cw_cond_t rfl rfl (rfl) ?_
      refine cw_seq fun K5 hK5 => ?_
      refine cw_region ?_
      refine wl_op rfl rfl (ow_fn (vs := []) en_35 rfl hS (alive3) ?_)
      clear hS; rintro _ _ w ⟨rfl, rfl⟩ hS; (try simp only [List.cons_append, List.nil_append] at hS)
      refine wl_op rfl rfl (ow_vr (vr_assign (v := .bool _) rfl) ?_)
      refine wl_nil ?_
      refine hK5 _ _ ?_
      refine cw_ret ?_
      refine thenF_ret (?_)
      refine ret_one (fn := Try.f7) (n := 102) (t := 8) (.inl rfl) rfl rfl ?_
      first | exact ⟨rfl, hS⟩ | exact ⟨congrArg Value.bool (by simp), hS⟩
    · (try simp only [decide_eq_true_eq, decide_eq_false_iff_not, Bool.not_eq_true, Bool.not_eq_false, Bool.not_eq_true', Bool.not_eq_false', Bool.and_eq_true, Bool.or_eq_true, Bool.and_eq_false_iff, Bool.or_eq_false_iff, Int.not_lt, Int.not_le, gt_iff_lt, ge_iff_le, ne_eq, Decidable.not_not, beq_iff_eq] at hc)
      have hg26 := hc; clear hc
      refine wl_yes rfl rfl rfl rfl rfl (ow_fn (vs := []) en_35 rfl hS (alive3) ?_)
      clear hS; rintro _ _ w ⟨rfl, rfl⟩ hS; (try simp only [List.cons_append, List.nil_append] at hS)
      refine wl_yes rfl rfl rfl rfl rfl (ow_vr (vr_not rfl) ?_)
      refine wl_op rfl rfl (ow_vr (vr_pick (b := false) rfl rfl) ?_)
      refine wl_nil ?_
      refine hK3 _ _ ?_
      refine cw_cond rfl rfl (fun hc => ?_) (fun hc => ?_)
      · (try simp only [decide_eq_true_eq, decide_eq_false_iff_not, Bool.not_eq_true, Bool.not_eq_false, Bool.not_eq_true', Bool.not_eq_false', Bool.and_eq_true, Bool.or_eq_true, Bool.and_eq_false_iff, Bool.or_eq_false_iff, Int.not_lt, Int.not_le, gt_iff_lt, ge_iff_le, ne_eq, Decidable.not_not, beq_iff_eq] at hc)
        have hc0 := hc; clear hc
        refine cw_seq fun K6 hK6 => ?_
        refine cw_region ?_
        refine wl_op rfl rfl (ow_fn (vs := []) en_35 rfl hS (alive3) ?_)
        clear hS; rintro _ _ w ⟨rfl, rfl⟩ hS; (try simp only [List.cons_append, List.nil_append] at hS)
        refine wl_op rfl rfl (ow_vr (vr_assign (v := .bool _) rfl) ?_)
        refine wl_nil ?_
        refine hK6 _ _ ?_
        refine cw_ret ?_
        refine thenF_ret (?_)
        refine ret_one (fn := Try.f7) (n := 102) (t := 8) (.inl rfl) rfl rfl ?_
        first | exact ⟨rfl, hS⟩ | exact ⟨congrArg Value.bool (by simp), hS⟩
      · (try simp only [decide_eq_true_eq, decide_eq_false_iff_not, Bool.not_eq_true, Bool.not_eq_false, Bool.not_eq_true', Bool.not_eq_false', Bool.and_eq_true, Bool.or_eq_true, Bool.and_eq_false_iff, Bool.or_eq_false_iff, Int.not_lt, Int.not_le, gt_iff_lt, ge_iff_le, ne_eq, Decidable.not_not, beq_iff_eq] at hc)
        have hc0 := hc; clear hc
        refine cw_skip ?_
        refine hK2 _ _ ?_
        refine cw_seq fun K7 hK7 => ?_
        refine cw_region ?_
        refine wl_op rfl rfl (ow_vr (vr_move (v := str _) rfl) ?_)
        refine wl_op rfl rfl (ow_fn (vs := [str _]) en_36 rfl hS (seal_Open c (by omega)) ?_)
        clear hS; rintro _ _ w ⟨rfl, rfl⟩ hS; (try simp only [List.cons_append, List.nil_append] at hS)
        refine wl_op rfl rfl (ow_vr (vr_move (v := .tuple _) rfl) ?_)
        refine wl_op rfl rfl (ow_vr (vr_extract rfl rfl) ?_)
        refine wl_op rfl rfl (ow_vr (vr_extract rfl rfl) ?_)
        refine wl_op rfl rfl (ow_vr (vr_assign (v := str _) rfl) ?_)
        refine wl_op rfl rfl (ow_vr (vr_assign (v := .bool _) rfl) ?_)
        refine wl_nil ?_
        refine hK7 _ _ ?_
        refine cw_seq fun K8 hK8 => ?_
        refine cw_region ?_
        refine wl_op rfl rfl (ow_vr (vr_move (v := str _) rfl) ?_)
        refine wl_op rfl rfl (ow_fn (vs := [str _]) en_37 rfl hS (ref_Open c (by omega)) ?_)
        clear hS; rintro _ _ w ⟨rfl, rfl⟩ hS; (try simp only [List.cons_append, List.nil_append] at hS)
        refine wl_op rfl rfl (ow_vr (vr_move (v := .tuple _) rfl) ?_)
        refine wl_op rfl rfl (ow_vr (vr_extract rfl rfl) ?_)
        refine wl_op rfl rfl (ow_vr (vr_extract rfl rfl) ?_)
        refine wl_op rfl rfl (ow_vr (vr_assign (v := str _) rfl) ?_)
        refine wl_op rfl rfl (ow_vr (vr_assign (v := .bool _) rfl) ?_)
        refine wl_nil ?_
        refine hK8 _ _ ?_
        refine cw_seq fun K9 hK9 => ?_
        refine cw_region ?_
        refine wl_op rfl rfl (ow_vr (vr_move (v := str _) rfl) ?_)
        refine wl_op rfl rfl (ow_vr (vr_move (v := .int .i64 _) rfl) ?_)
        refine wl_op rfl rfl (ow_fn (vs := [str _, .int .i64 _]) en_38 rfl hS (seal_Seal b n (by omega)) ?_)
        clear hS; rintro _ _ w ⟨rfl, rfl⟩ hS; (try simp only [List.cons_append, List.nil_append] at hS)
        refine wl_op rfl rfl (ow_vr (vr_assign (v := str _) rfl) ?_)
        refine wl_nil ?_
        refine hK9 _ _ ?_
        refine cw_seq fun K10 hK10 => ?_
        refine cw_region ?_
        refine wl_op rfl rfl (ow_vr (vr_move (v := str _) rfl) ?_)
        refine wl_op rfl rfl (ow_fn (vs := [str _]) en_36 rfl hS (seal_Open (sealI b n) (by omega)) ?_)
        clear hS; rintro _ _ w ⟨rfl, rfl⟩ hS; (try simp only [List.cons_append, List.nil_append] at hS)
        refine wl_op rfl rfl (ow_vr (vr_move (v := .tuple _) rfl) ?_)
        refine wl_op rfl rfl (ow_vr (vr_extract rfl rfl) ?_)
        refine wl_op rfl rfl (ow_vr (vr_extract rfl rfl) ?_)
        refine wl_op rfl rfl (ow_vr (vr_assign (v := str _) rfl) ?_)
        refine wl_op rfl rfl (ow_vr (vr_assign (v := .bool _) rfl) ?_)
        refine wl_nil ?_
        refine hK10 _ _ ?_
        refine cw_seq fun K11 hK11 => ?_
        refine cw_region ?_
        refine wl_op rfl rfl (ow_vr (vr_move (v := str _) rfl) ?_)
        refine wl_op rfl rfl (ow_fn (vs := [str _]) en_37 rfl hS (ref_Open (sealI b n) (by omega)) ?_)
        clear hS; rintro _ _ w ⟨rfl, rfl⟩ hS; (try simp only [List.cons_append, List.nil_append] at hS)
        refine wl_op rfl rfl (ow_vr (vr_move (v := .tuple _) rfl) ?_)
        refine wl_op rfl rfl (ow_vr (vr_extract rfl rfl) ?_)
        refine wl_op rfl rfl (ow_vr (vr_extract rfl rfl) ?_)
        refine wl_op rfl rfl (ow_vr (vr_assign (v := str _) rfl) ?_)
        refine wl_op rfl rfl (ow_vr (vr_assign (v := .bool _) rfl) ?_)
        refine wl_nil ?_
        refine hK11 _ _ ?_
        refine cw_seq fun K12 hK12 => ?_
        refine cw_region ?_
        refine wl_op rfl rfl (ow_vr (vr_move (v := str _) rfl) ?_)
        refine wl_op rfl rfl (ow_fn (vs := [str _]) en_39 rfl hS (seal_Sum b hb) ?_)
        clear hS; rintro _ _ w ⟨rfl, rfl⟩ hS; (try simp only [List.cons_append, List.nil_append] at hS)
        refine wl_op rfl rfl (ow_vr (vr_move (v := str _) rfl) ?_)
        refine wl_op rfl rfl (ow_fn (vs := [str _]) en_40 rfl hS (ref_Sum b hb) ?_)
        clear hS; rintro _ _ w ⟨rfl, rfl⟩ hS; (try simp only [List.cons_append, List.nil_append] at hS)
        refine wl_op rfl rfl (ow_vr (vr_eql rfl rfl) ?_)
        refine wl_op rfl rfl (ow_vr (vr_move (v := .bool _) rfl) ?_)
        refine wl_known 59 rfl (c := true) (by simp) ?_
        refine wl_yes rfl rfl rfl rfl rfl (ow_vr (vr_move (v := .int .i64 _) rfl) ?_)
        refine wl_yes rfl rfl rfl rfl rfl (ow_vr (vr_move (v := .int .i64 _) rfl) ?_)
        refine wl_yes rfl rfl rfl rfl rfl (ow_fn (vs := [.int .i64 _, .int .i64 _]) en_41 rfl hS (seal_Put v n) ?_)
        clear hS; rintro _ _ w ⟨rfl, rfl⟩ hS; (try simp only [List.cons_append, List.nil_append] at hS)
        refine wl_yes rfl rfl rfl rfl rfl (ow_vr (vr_move (v := .int .i64 _) rfl) ?_)
        refine wl_yes rfl rfl rfl rfl rfl (ow_vr (vr_move (v := .int .i64 _) rfl) ?_)
        refine wl_yes rfl rfl rfl rfl rfl (ow_fn (vs := [.int .i64 _, .int .i64 _]) en_42 rfl hS (ref_Put v n) ?_)
        clear hS; rintro _ _ w ⟨rfl, rfl⟩ hS; (try simp only [List.cons_append, List.nil_append] at hS)
        refine wl_yes rfl rfl rfl rfl rfl (ow_vr (vr_eql_s rfl rfl) ?_)
        refine wl_op rfl rfl (ow_vr (vr_pick (b := true) rfl rfl) ?_)
        refine wl_op rfl rfl (ow_vr (vr_move (v := .bool _) rfl) ?_)
        refine wl_known 68 rfl (c := true) (by simp) ?_
        refine wl_yes rfl rfl rfl rfl rfl (ow_vr (vr_move (v := str _) rfl) ?_)
        refine wl_yes rfl rfl rfl rfl rfl (ow_fn (vs := [str _]) en_43 rfl hS (seal_Get b (by omega)) ?_)
        clear hS; rintro _ _ w ⟨rfl, rfl⟩ hS; (try simp only [List.cons_append, List.nil_append] at hS)
        refine wl_yes rfl rfl rfl rfl rfl (ow_vr (vr_move (v := str _) rfl) ?_)
        refine wl_yes rfl rfl rfl rfl rfl (ow_fn (vs := [str _]) en_44 rfl hS (ref_Get b (by omega)) ?_)
        clear hS; rintro _ _ w ⟨rfl, rfl⟩ hS; (try simp only [List.cons_append, List.nil_append] at hS)
        refine wl_yes rfl rfl rfl rfl rfl (ow_vr (vr_eql rfl rfl) ?_)
        refine wl_op rfl rfl (ow_vr (vr_pick (b := true) rfl rfl) ?_)
        refine wl_op rfl rfl (ow_vr (vr_move (v := .bool _) rfl) ?_)
        refine wl_known 75 rfl (c := true) (by simp) ?_
        refine wl_yes rfl rfl rfl rfl rfl (ow_vr (vr_move (v := str _) rfl) ?_)
        refine wl_yes rfl rfl rfl rfl rfl (ow_vr (vr_move (v := str _) rfl) ?_)
        refine wl_yes rfl rfl rfl rfl rfl (ow_vr (vr_move (v := .int .i64 _) rfl) ?_)
        refine wl_yes rfl rfl rfl rfl rfl (ow_fn (vs := [str _, .int .i64 _]) en_45 rfl hS (ref_Seal b n (by omega)) ?_)
        clear hS; rintro _ _ w ⟨rfl, rfl⟩ hS; (try simp only [List.cons_append, List.nil_append] at hS)
        refine wl_yes rfl rfl rfl rfl rfl (ow_vr (vr_eql_s rfl rfl) ?_)
        refine wl_op rfl rfl (ow_vr (vr_pick (b := true) rfl rfl) ?_)
        refine wl_op rfl rfl (ow_vr (vr_move (v := .bool _) rfl) ?_)
        refine wl_known 82 rfl (c := true) (by simp) ?_
        refine wl_yes rfl rfl rfl rfl rfl (ow_vr (vr_move (v := str _) rfl) ?_)
        refine wl_yes rfl rfl rfl rfl rfl (ow_vr (vr_move (v := str _) rfl) ?_)
        refine wl_yes rfl rfl rfl rfl rfl (ow_vr (vr_eql_s rfl rfl) ?_)
        refine wl_op rfl rfl (ow_vr (vr_pick (b := true) rfl rfl) ?_)
        refine wl_op rfl rfl (ow_vr (vr_move (v := .bool _) rfl) ?_)
        refine wl_known 87 rfl (c := true) (by simp) ?_
        refine wl_yes rfl rfl rfl rfl rfl (ow_vr (vr_move (v := .bool _) rfl) ?_)
        refine wl_yes rfl rfl rfl rfl rfl (ow_vr (vr_move (v := .bool _) rfl) ?_)
        refine wl_yes rfl rfl rfl rfl rfl (ow_vr (vr_eqlb Try.underlying4 rfl rfl) ?_)
        refine wl_op rfl rfl (ow_vr (vr_pick (b := true) rfl rfl) ?_)
        refine wl_op rfl rfl (ow_vr (vr_move (v := .bool _) rfl) ?_)
        refine wl_known 92 rfl (c := true) (by simp) ?_
        refine wl_yes rfl rfl rfl rfl rfl (ow_vr (vr_move (v := str _) rfl) ?_)
        refine wl_yes rfl rfl rfl rfl rfl (ow_vr (vr_move (v := str _) rfl) ?_)
        refine wl_yes rfl rfl rfl rfl rfl (ow_vr (vr_eql_s rfl rfl) ?_)
        refine wl_op rfl rfl (ow_vr (vr_pick (b := true) rfl rfl) ?_)
        refine wl_op rfl rfl (ow_vr (vr_move (v := .bool _) rfl) ?_)
        refine wl_known 97 rfl (c := true) (by simp) ?_
        refine wl_yes rfl rfl rfl rfl rfl (ow_vr (vr_move (v := .bool _) rfl) ?_)
        refine wl_yes rfl rfl rfl rfl rfl (ow_vr (vr_move (v := .bool _) rfl) ?_)
        refine wl_yes rfl rfl rfl rfl rfl (ow_vr (vr_eqlb Try.underlying4 rfl rfl) ?_)
        refine wl_op rfl rfl (ow_vr (vr_pick (b := true) rfl rfl) ?_)
        refine wl_op rfl rfl (ow_vr (vr_assign (v := .bool _) rfl) ?_)
        refine wl_nil ?_
        refine hK12 _ _ ?_
        refine cw_ret ?_
        refine ret_one (fn := Try.f7) (n := 102) (t := 8) (.inl rfl) rfl rfl ?_
        first | exact ⟨rfl, hS⟩ | exact ⟨congrArg Value.bool (by simp), hS⟩
theorem str_of_wf {s : ByteArray} (h : s.size ≤ maxLen) : s.data.toList.length ≤ 9223372036854775807 := by
  have : s.data.toList.length = s.size := rfl
  unfold maxLen at h
  omega
theorem seal_numbers (v n : Int) : FnV Try.prog 9 [.int .i64 v, .int .i64 n] (.bool true) := by
  refine FnV.mk fun E F w hS => ?_
  have hp : ∀ m : Int, (0 ≤ v ∧ v < 4294967296) → 1 ≤ m ∧ m ≤ 8 → putI v m = putB v.toNat m.toNat := fun m h1 h2 => by rw [putI, if_neg (by omega)]
  have h4 : (putI v 4).length ≤ 4 := by rw [putI]; split <;> simp [putB_length]
  have hn : (putI v n).length ≤ 8 := by rw [putI]; split <;> simp [putB_length]; omega
  have hm1 : putI (-1) 4 = [] := by rw [putI, if_pos (by omega)]
  have h0 : putI v 0 = [] := by rw [putI, if_pos (by omega)]
  have h9 : putI v 9 = [] := by rw [putI, if_pos (by omega)]
  refine returns_enter Try.func9 rfl Try.ntmps9 rfl ?_
  refine cw_seq fun K1 hK1 => ?_
  refine cw_region ?_
  refine wl_op rfl rfl (ow_vr (vr_assign rfl) ?_)
  refine wl_nil ?_
  refine hK1 _ _ ?_
  refine cw_seq fun K2 hK2 => ?_
  refine cw_seq fun K3 hK3 => ?_
  refine cw_region ?_
  refine wl_op rfl rfl (ow_vr (vr_move (v := .int .i64 _) rfl) ?_)
  refine wl_op rfl rfl (ow_vr (vr_lss rfl rfl) ?_)
  refine wl_op rfl rfl (ow_vr (vr_move (v := .bool _) rfl) ?_)
  refine wl_split 8 rfl (fun hc => ?_) (fun hc => ?_)
  · (try simp only [decide_eq_true_eq, decide_eq_false_iff_not, Bool.not_eq_true, Bool.not_eq_false, Bool.not_eq_true', Bool.not_eq_false', Bool.and_eq_true, Bool.or_eq_true, Bool.and_eq_false_iff, Bool.or_eq_false_iff, Int.not_lt, Int.not_le, gt_iff_lt, ge_iff_le, ne_eq, Decidable.not_not, beq_iff_eq] at hc)
    have hg8 := hc; clear hc
    refine wl_no rfl rfl rfl rfl rfl rfl ?_
    refine wl_no rfl rfl rfl rfl rfl rfl ?_
    refine wl_op rfl rfl (ow_vr (vr_pick (b := true) rfl rfl) ?_)
    refine wl_op rfl rfl (ow_vr (vr_move (v := .bool _) rfl) ?_)
    refine wl_no rfl rfl rfl rfl rfl rfl ?_
    refine wl_no rfl rfl rfl rfl rfl rfl ?_
    refine wl_op rfl rfl (ow_vr (vr_pick (b := true) rfl rfl) ?_)
    refine wl_op rfl rfl (ow_vr (vr_move (v := .bool _) rfl) ?_)
    refine wl_no rfl rfl rfl rfl rfl rfl ?_
    refine wl_no rfl rfl rfl rfl rfl rfl ?_
    refine wl_op rfl rfl (ow_vr (vr_pick (b := true) rfl rfl) ?_)
    refine wl_op rfl rfl (ow_vr (vr_move (v := .bool _) rfl) ?_)
    refine wl_no rfl rfl rfl rfl rfl rfl ?_
    refine wl_no rfl rfl rfl rfl rfl rfl ?_
    refine wl_op rfl rfl (ow_vr (vr_pick (b := true) rfl rfl) ?_)
    refine wl_nil ?_
    refine hK3 _ _ ?_
    refine cw_cond_t rfl rfl (rfl) ?_
    refine cw_seq fun K4 hK4 => ?_
    refine cw_region ?_
    refine wl_op rfl rfl (ow_fn (vs := []) en_35 rfl hS (alive3) ?_)
    clear hS; rintro _ _ w ⟨rfl, rfl⟩ hS; (try simp only [List.cons_append, List.nil_append] at hS)
    refine wl_op rfl rfl (ow_vr (vr_assign (v := .bool _) rfl) ?_)
    refine wl_nil ?_
    refine hK4 _ _ ?_
    refine cw_ret ?_
    refine thenF_ret (?_)
    refine ret_one (fn := Try.f9) (n := 59) (t := 4) (.inl rfl) rfl rfl ?_
    first | exact ⟨rfl, hS⟩ | exact ⟨congrArg Value.bool (by simp [h9]), hS⟩
  · (try simp only [decide_eq_true_eq, decide_eq_false_iff_not, Bool.not_eq_true, Bool.not_eq_false, Bool.not_eq_true', Bool.not_eq_false', Bool.and_eq_true, Bool.or_eq_true, Bool.and_eq_false_iff, Bool.or_eq_false_iff, Int.not_lt, Int.not_le, gt_iff_lt, ge_iff_le, ne_eq, Decidable.not_not, beq_iff_eq] at hc)
    have hg8 := hc; clear hc
    refine wl_yes rfl rfl rfl rfl rfl (ow_vr (vr_move (v := .int .i64 _) rfl) ?_)
    refine wl_yes rfl rfl rfl rfl rfl (ow_vr (vr_geq rfl rfl) ?_)
    refine wl_op rfl rfl (ow_vr (vr_pick (b := false) rfl rfl) ?_)
    refine wl_op rfl rfl (ow_vr (vr_move (v := .bool _) rfl) ?_)
    refine wl_split 12 rfl (fun hc => ?_) (fun hc => ?_)
    · (try simp only [decide_eq_true_eq, decide_eq_false_iff_not, Bool.not_eq_true, Bool.not_eq_false, Bool.not_eq_true', Bool.not_eq_false', Bool.and_eq_true, Bool.or_eq_true, Bool.and_eq_false_iff, Bool.or_eq_false_iff, Int.not_lt, Int.not_le, gt_iff_lt, ge_iff_le, ne_eq, Decidable.not_not, beq_iff_eq] at hc)
      have hg12 := hc; clear hc
      refine wl_no rfl rfl rfl rfl rfl rfl ?_
      refine wl_no rfl rfl rfl rfl rfl rfl ?_
      refine wl_op rfl rfl (ow_vr (vr_pick (b := true) rfl rfl) ?_)
      refine wl_op rfl rfl (ow_vr (vr_move (v := .bool _) rfl) ?_)
      refine wl_no rfl rfl rfl rfl rfl rfl ?_
      refine wl_no rfl rfl rfl rfl rfl rfl ?_
      refine wl_op rfl rfl (ow_vr (vr_pick (b := true) rfl rfl) ?_)
      refine wl_op rfl rfl (ow_vr (vr_move (v := .bool _) rfl) ?_)
      refine wl_no rfl rfl rfl rfl rfl rfl ?_
      refine wl_no rfl rfl rfl rfl rfl rfl ?_
      refine wl_op rfl rfl (ow_vr (vr_pick (b := true) rfl rfl) ?_)
      refine wl_nil ?_
      refine hK3 _ _ ?_
      refine cw_cond_t rfl rfl (rfl) ?_
      refine cw_seq fun K5 hK5 => ?_
      refine cw_region ?_
      refine wl_op rfl rfl (ow_fn (vs := []) en_35 rfl hS (alive3) ?_)
      clear hS; rintro _ _ w ⟨rfl, rfl⟩ hS; (try simp only [List.cons_append, List.nil_append] at hS)
      refine wl_op rfl rfl (ow_vr (vr_assign (v := .bool _) rfl) ?_)
      refine wl_nil ?_
      refine hK5 _ _ ?_
      refine cw_ret ?_
      refine thenF_ret (?_)
      refine ret_one (fn := Try.f9) (n := 59) (t := 4) (.inl rfl) rfl rfl ?_
      first | exact ⟨rfl, hS⟩ | exact ⟨congrArg Value.bool (by simp [h9]), hS⟩
    · (try simp only [decide_eq_true_eq, decide_eq_false_iff_not, Bool.not_eq_true, Bool.not_eq_false, Bool.not_eq_true', Bool.not_eq_false', Bool.and_eq_true, Bool.or_eq_true, Bool.and_eq_false_iff, Bool.or_eq_false_iff, Int.not_lt, Int.not_le, gt_iff_lt, ge_iff_le, ne_eq, Decidable.not_not, beq_iff_eq] at hc)
      have hg12 := hc; clear hc
      refine wl_yes rfl rfl rfl rfl rfl (ow_vr (vr_move (v := .int .i64 _) rfl) ?_)
      refine wl_yes rfl rfl rfl rfl rfl (ow_vr (vr_lss rfl rfl) ?_)
      refine wl_op rfl rfl (ow_vr (vr_pick (b := false) rfl rfl) ?_)
      refine wl_op rfl rfl (ow_vr (vr_move (v := .bool _) rfl) ?_)
      refine wl_split 16 rfl (fun hc => ?_) (fun hc => ?_)
      · (try simp only [decide_eq_true_eq, decide_eq_false_iff_not, Bool.not_eq_true, Bool.not_eq_false, Bool.not_eq_true', Bool.not_eq_false', Bool.and_eq_true, Bool.or_eq_true, Bool.and_eq_false_iff, Bool.or_eq_false_iff, Int.not_lt, Int.not_le, gt_iff_lt, ge_iff_le, ne_eq, Decidable.not_not, beq_iff_eq] at hc)
        have hg16 := hc; clear hc
        refine wl_no rfl rfl rfl rfl rfl rfl ?_
        refine wl_no rfl rfl rfl rfl rfl rfl ?_
        refine wl_op rfl rfl (ow_vr (vr_pick (b := true) rfl rfl) ?_)
        refine wl_op rfl rfl (ow_vr (vr_move (v := .bool _) rfl) ?_)
        refine wl_no rfl rfl rfl rfl rfl rfl ?_
        refine wl_no rfl rfl rfl rfl rfl rfl ?_
        refine wl_op rfl rfl (ow_vr (vr_pick (b := true) rfl rfl) ?_)
        refine wl_nil ?_
        refine hK3 _ _ ?_
        refine cw_cond_t rfl rfl (rfl) ?_
        refine cw_seq fun K6 hK6 => ?_
        refine cw_region ?_
        refine wl_op rfl rfl (ow_fn (vs := []) en_35 rfl hS (alive3) ?_)
        clear hS; rintro _ _ w ⟨rfl, rfl⟩ hS; (try simp only [List.cons_append, List.nil_append] at hS)
        refine wl_op rfl rfl (ow_vr (vr_assign (v := .bool _) rfl) ?_)
        refine wl_nil ?_
        refine hK6 _ _ ?_
        refine cw_ret ?_
        refine thenF_ret (?_)
        refine ret_one (fn := Try.f9) (n := 59) (t := 4) (.inl rfl) rfl rfl ?_
        first | exact ⟨rfl, hS⟩ | exact ⟨congrArg Value.bool (by simp [h9]), hS⟩
      · (try simp only [decide_eq_true_eq, decide_eq_false_iff_not, Bool.not_eq_true, Bool.not_eq_false, Bool.not_eq_true', Bool.not_eq_false', Bool.and_eq_true, Bool.or_eq_true, Bool.and_eq_false_iff, Bool.or_eq_false_iff, Int.not_lt, Int.not_le, gt_iff_lt, ge_iff_le, ne_eq, Decidable.not_not, beq_iff_eq] at hc)
        have hg16 := hc; clear hc
        refine wl_yes rfl rfl rfl rfl rfl (ow_vr (vr_move (v := .int .i64 _) rfl) ?_)
        refine wl_yes rfl rfl rfl rfl rfl (ow_vr (vr_gtr rfl rfl) ?_)
        refine wl_op rfl rfl (ow_vr (vr_pick (b := false) rfl rfl) ?_)
        refine wl_op rfl rfl (ow_vr (vr_move (v := .bool _) rfl) ?_)
        refine wl_split 20 rfl (fun hc => ?_) (fun hc => ?_)
        · (try simp only [decide_eq_true_eq, decide_eq_false_iff_not, Bool.not_eq_true, Bool.not_eq_false, Bool.not_eq_true', Bool.not_eq_false', Bool.and_eq_true, Bool.or_eq_true, Bool.and_eq_false_iff, Bool.or_eq_false_iff, Int.not_lt, Int.not_le, gt_iff_lt, ge_iff_le, ne_eq, Decidable.not_not, beq_iff_eq] at hc)
          have hg20 := hc; clear hc
          refine wl_no rfl rfl rfl rfl rfl rfl ?_
          refine wl_no rfl rfl rfl rfl rfl rfl ?_
          refine wl_op rfl rfl (ow_vr (vr_pick (b := true) rfl rfl) ?_)
          refine wl_nil ?_
          refine hK3 _ _ ?_
          refine cw_cond_t rfl rfl (rfl) ?_
          refine cw_seq fun K7 hK7 => ?_
          refine cw_region ?_
          refine wl_op rfl rfl (ow_fn (vs := []) en_35 rfl hS (alive3) ?_)
          clear hS; rintro _ _ w ⟨rfl, rfl⟩ hS; (try simp only [List.cons_append, List.nil_append] at hS)
          refine wl_op rfl rfl (ow_vr (vr_assign (v := .bool _) rfl) ?_)
          refine wl_nil ?_
          refine hK7 _ _ ?_
          refine cw_ret ?_
          refine thenF_ret (?_)
          refine ret_one (fn := Try.f9) (n := 59) (t := 4) (.inl rfl) rfl rfl ?_
          first | exact ⟨rfl, hS⟩ | exact ⟨congrArg Value.bool (by simp [h9]), hS⟩
        · (try simp only [decide_eq_true_eq, decide_eq_false_iff_not, Bool.not_eq_true, Bool.not_eq_false, Bool.not_eq_true', Bool.not_eq_false', Bool.and_eq_true, Bool.or_eq_true, Bool.and_eq_false_iff, Bool.or_eq_false_iff, Int.not_lt, Int.not_le, gt_iff_lt, ge_iff_le, ne_eq, Decidable.not_not, beq_iff_eq] at hc)
          have hg20 := hc; clear hc
          refine wl_yes rfl rfl rfl rfl rfl (ow_fn (vs := []) en_35 rfl hS (alive3) ?_)
          clear hS; rintro _ _ w ⟨rfl, rfl⟩ hS; (try simp only [List.cons_append, List.nil_append] at hS)
          refine wl_yes rfl rfl rfl rfl rfl (ow_vr (vr_not rfl) ?_)
          refine wl_op rfl rfl (ow_vr (vr_pick (b := false) rfl rfl) ?_)
          refine wl_nil ?_
          refine hK3 _ _ ?_
          refine cw_cond rfl rfl (fun hc => ?_) (fun hc => ?_)
          · (try simp only [decide_eq_true_eq, decide_eq_false_iff_not, Bool.not_eq_true, Bool.not_eq_false, Bool.not_eq_true', Bool.not_eq_false', Bool.and_eq_true, Bool.or_eq_true, Bool.and_eq_false_iff, Bool.or_eq_false_iff, Int.not_lt, Int.not_le, gt_iff_lt, ge_iff_le, ne_eq, Decidable.not_not, beq_iff_eq] at hc)
            have hc0 := hc; clear hc
            refine cw_seq fun K8 hK8 => ?_
            refine cw_region ?_
            refine wl_op rfl rfl (ow_fn (vs := []) en_35 rfl hS (alive3) ?_)
            clear hS; rintro _ _ w ⟨rfl, rfl⟩ hS; (try simp only [List.cons_append, List.nil_append] at hS)
            refine wl_op rfl rfl (ow_vr (vr_assign (v := .bool _) rfl) ?_)
            refine wl_nil ?_
            refine hK8 _ _ ?_
            refine cw_ret ?_
            refine thenF_ret (?_)
            refine ret_one (fn := Try.f9) (n := 59) (t := 4) (.inl rfl) rfl rfl ?_
            first | exact ⟨rfl, hS⟩ | exact ⟨congrArg Value.bool (by simp [h9]), hS⟩
          · (try simp only [decide_eq_true_eq, decide_eq_false_iff_not, Bool.not_eq_true, Bool.not_eq_false, Bool.not_eq_true', Bool.not_eq_false', Bool.and_eq_true, Bool.or_eq_true, Bool.and_eq_false_iff, Bool.or_eq_false_iff, Int.not_lt, Int.not_le, gt_iff_lt, ge_iff_le, ne_eq, Decidable.not_not, beq_iff_eq] at hc)
            have hc0 := hc; clear hc
            refine cw_skip ?_
            refine hK2 _ _ ?_
            refine cw_seq fun K9 hK9 => ?_
            refine cw_region ?_
            refine wl_op rfl rfl (ow_vr (vr_move (v := .int .i64 _) rfl) ?_)
            refine wl_op rfl rfl (ow_vr (vr_move (v := .int .i64 _) rfl) ?_)
            refine wl_op rfl rfl (ow_fn (vs := [.int .i64 _, .int .i64 _]) en_41 rfl hS (seal_Put v n) ?_)
            clear hS; rintro _ _ w ⟨rfl, rfl⟩ hS; (try simp only [List.cons_append, List.nil_append] at hS)
            refine wl_op rfl rfl (ow_vr (vr_assign (v := str _) rfl) ?_)
            refine wl_nil ?_
            refine hK9 _ _ ?_
            refine cw_seq fun K10 hK10 => ?_
            have hv : 0 ≤ v ∧ v < 4294967296 := by omega
            have hpn := hp n hv (by omega)
            have hp4 := hp 4 hv (by omega)
            have hlen : (putI v n).length = n.toNat := by rw [hpn, putB_length]
            have hget : (getB (putI v n) : Int) = v := by rw [getB, List.take_of_length_le (by omega), hpn, num_put _ _ (Nat.lt_of_lt_of_le (show v.toNat < 256 ^ 4 by omega) (Nat.pow_le_pow_right (by omega) (by omega)))]; omega
            have htake : putI v 4 = (putI v n).take 4 := by rw [hp4, hpn, show (4 : Int).toNat = 4 from rfl, putB_take _ _ _ (by omega)]
            refine cw_draw_sat hS [(0, 0), (1, 0), (2, 0), (3, 0), (4, 0), (5, 0), (7, 0), (6, 2), (8, 0), (9, 0), (10, 0), (11, 0), (13, 0), (14, 0), (12, 2), (15, 0), (16, 0), (17, 0), (18, 2), (19, 0), (20, 0), (21, 0), (22, 0), (23, 2), (24, 0), (25, 0), (26, 0), (27, 0), (28, 2), (29, 0), (30, 0), (31, 0)] mixed (planFast_ok (by kernel_rfl)) (by rintro _ _ _ ⟨⟩) ?_
            clear hS; intro w hS
            refine pl_take rfl (yes_none rfl) (vr_move (v := str _) rfl) ?_
            refine pl_take rfl (yes_none rfl) (vr_len_s Try.underlying9 rfl) ?_
            refine pl_take rfl (yes_none rfl) (vr_move (v := .int .i64 _) rfl) ?_
            refine pl_take rfl (yes_none rfl) (vr_eql rfl rfl) ?_
            refine pl_take rfl (yes_none rfl) (vr_move (v := .bool _) rfl) ?_
            refine pl_known 32 rfl (c := true) (by simp; omega) ?_
            refine pl_take rfl (yes_some rfl rfl rfl rfl) (vr_move (v := str _) rfl) ?_
            refine pl_take rfl (yes_some rfl rfl rfl rfl) (vr_move (v := .int .i64 _) rfl) ?_
            refine pl_act rfl (yes_some rfl rfl rfl rfl) (ow_fn (vs := [str _]) en_43 rfl hS (seal_Get (putI v n) (by omega)) ?_)
            clear hS; rintro _ _ w ⟨rfl, rfl⟩ hS; (try simp only [List.cons_append, List.nil_append] at hS)
            refine ⟨by first | exact hS | exact hS.tail1 | exact hS.tail1.tail1, ?_⟩
            refine pl_take rfl (yes_some rfl rfl rfl rfl) (vr_eql rfl rfl) ?_
            refine pl_take rfl (yes_none rfl) (vr_pick (b := true) rfl rfl) ?_
            refine pl_take rfl (yes_none rfl) (vr_move (v := .bool _) rfl) ?_
            refine pl_known 38 rfl (c := true) (by simp [hget]) ?_
            refine pl_take rfl (yes_some rfl rfl rfl rfl) (vr_move (v := .int .i64 _) rfl) ?_
            refine pl_take rfl (yes_some rfl rfl rfl rfl) (vr_move (v := str _) rfl) ?_
            refine pl_take rfl (yes_some rfl rfl rfl rfl) (vr_slice_to (l := putI v n) (h := 4) Try.underlying9 rfl rfl (by omega)) ?_
            refine pl_act rfl (yes_some rfl rfl rfl rfl) (ow_fn (vs := [.int .i64 _, .int .i64 _]) en_41 rfl hS (seal_Put v 4) ?_)
            clear hS; rintro _ _ w ⟨rfl, rfl⟩ hS; (try simp only [List.cons_append, List.nil_append] at hS)
            refine ⟨by first | exact hS | exact hS.tail1 | exact hS.tail1.tail1, ?_⟩
            refine pl_take rfl (yes_some rfl rfl rfl rfl) (vr_eql_s rfl rfl) ?_
            refine pl_take rfl (yes_none rfl) (vr_pick (b := true) rfl rfl) ?_
            refine pl_take rfl (yes_none rfl) (vr_move (v := .bool _) rfl) ?_
            refine pl_known 45 rfl (c := true) (by simpa using htake) ?_
            refine pl_act rfl (yes_some rfl rfl rfl rfl) (ow_fn (vs := [.int .i64 _, .int .i64 _]) en_41 rfl hS (seal_Put (-1) 4) ?_)
            clear hS; rintro _ _ w ⟨rfl, rfl⟩ hS; (try simp only [List.cons_append, List.nil_append] at hS)
            refine ⟨by first | exact hS | exact hS.tail1 | exact hS.tail1.tail1, ?_⟩
            refine pl_take rfl (yes_some rfl rfl rfl rfl) (vr_eql_s rfl rfl) ?_
            refine pl_take rfl (yes_none rfl) (vr_pick (b := true) rfl rfl) ?_
            refine pl_take rfl (yes_none rfl) (vr_move (v := .bool _) rfl) ?_
            refine pl_known 49 rfl (c := true) (by simp [hm1]) ?_
            refine pl_take rfl (yes_some rfl rfl rfl rfl) (vr_move (v := .int .i64 _) rfl) ?_
            refine pl_act rfl (yes_some rfl rfl rfl rfl) (ow_fn (vs := [.int .i64 _, .int .i64 _]) en_41 rfl hS (seal_Put v 0) ?_)
            clear hS; rintro _ _ w ⟨rfl, rfl⟩ hS; (try simp only [List.cons_append, List.nil_append] at hS)
            refine ⟨by first | exact hS | exact hS.tail1 | exact hS.tail1.tail1, ?_⟩
            refine pl_take rfl (yes_some rfl rfl rfl rfl) (vr_eql_s rfl rfl) ?_
            refine pl_take rfl (yes_none rfl) (vr_pick (b := true) rfl rfl) ?_
            refine pl_take rfl (yes_none rfl) (vr_move (v := .bool _) rfl) ?_
            refine pl_known 54 rfl (c := true) (by simp [h0]) ?_
            refine pl_take rfl (yes_some rfl rfl rfl rfl) (vr_move (v := .int .i64 _) rfl) ?_
            refine pl_act rfl (yes_some rfl rfl rfl rfl) (ow_fn (vs := [.int .i64 _, .int .i64 _]) en_41 rfl hS (seal_Put v 9) ?_)
            clear hS; rintro _ _ w ⟨rfl, rfl⟩ hS; (try simp only [List.cons_append, List.nil_append] at hS)
            refine ⟨by first | exact hS | exact hS.tail1 | exact hS.tail1.tail1, ?_⟩
            refine pl_take rfl (yes_some rfl rfl rfl rfl) (vr_eql_s rfl rfl) ?_
            refine pl_take rfl (yes_none rfl) (vr_pick (b := true) rfl rfl) ?_
            refine pl_take rfl (yes_none rfl) (vr_assign (v := .bool _) rfl) ?_
            refine pl_nil ?_
            refine hK10 _ _ ?_
            refine cw_ret ?_
            refine ret_one (fn := Try.f9) (n := 59) (t := 4) (.inl rfl) rfl rfl ?_
            first | exact ⟨rfl, hS⟩ | exact ⟨congrArg Value.bool (by simp [h9]), hS⟩
theorem seal_back (b : List UInt8) (n : Int) (hb : b.length ≤ 9223372036854775807) : FnV Try.prog 10 [str b, .int .i64 n] (.bool true) := by
  refine FnV.mk fun E F w hS => ?_
  have hsl : b.length ≤ 1000 → (sealI b n).length ≤ 1000 := fun h => by
    rw [sealI]; split
    · simp
    · rw [sealed_length, padB_length]; omega
  refine returns_enter Try.func10 rfl Try.ntmps10 rfl ?_
  refine cw_seq fun K1 hK1 => ?_
  refine cw_region ?_
  refine wl_op rfl rfl (ow_vr (vr_assign rfl) ?_)
  refine wl_nil ?_
  refine hK1 _ _ ?_
  refine cw_seq fun K2 hK2 => ?_
  refine cw_seq fun K3 hK3 => ?_
  refine cw_region ?_
  refine wl_op rfl rfl (ow_vr (vr_move (v := str _) rfl) ?_)
  refine wl_op rfl rfl (ow_vr (vr_len_s Try.underlying9 rfl) ?_)
  refine wl_op rfl rfl (ow_vr (vr_gtr rfl rfl) ?_)
  refine wl_op rfl rfl (ow_vr (vr_move (v := .bool _) rfl) ?_)
  refine wl_split 12 rfl (fun hc => ?_) (fun hc => ?_)
  · (try simp only [decide_eq_true_eq, decide_eq_false_iff_not, Bool.not_eq_true, Bool.not_eq_false, Bool.not_eq_true', Bool.not_eq_false', Bool.and_eq_true, Bool.or_eq_true, Bool.and_eq_false_iff, Bool.or_eq_false_iff, Int.not_lt, Int.not_le, gt_iff_lt, ge_iff_le, ne_eq, Decidable.not_not, beq_iff_eq] at hc)
    have hg12 := hc; clear hc
    refine wl_no rfl rfl rfl rfl rfl rfl ?_
    refine wl_no rfl rfl rfl rfl rfl rfl ?_
    refine wl_op rfl rfl (ow_vr (vr_pick (b := true) rfl rfl) ?_)
    refine wl_op rfl rfl (ow_vr (vr_move (v := .bool _) rfl) ?_)
    refine wl_no rfl rfl rfl rfl rfl rfl ?_
    refine wl_no rfl rfl rfl rfl rfl rfl ?_
    refine wl_op rfl rfl (ow_vr (vr_pick (b := true) rfl rfl) ?_)
    refine wl_op rfl rfl (ow_vr (vr_move (v := .bool _) rfl) ?_)
    refine wl_no rfl rfl rfl rfl rfl rfl ?_
    refine wl_no rfl rfl rfl rfl rfl rfl ?_
    refine wl_op rfl rfl (ow_vr (vr_pick (b := true) rfl rfl) ?_)
    refine wl_nil ?_
    refine hK3 _ _ ?_
    refine cw_cond_t rfl rfl (rfl) ?_
    refine cw_seq fun K4 hK4 => ?_
    refine cw_region ?_
    refine wl_op rfl rfl (ow_fn (vs := []) en_35 rfl hS (alive3) ?_)
    clear hS; rintro _ _ w ⟨rfl, rfl⟩ hS; (try simp only [List.cons_append, List.nil_append] at hS)
    refine wl_op rfl rfl (ow_vr (vr_assign (v := .bool _) rfl) ?_)
    refine wl_nil ?_
    refine hK4 _ _ ?_
    refine cw_ret ?_
    refine thenF_ret (?_)
    refine ret_one (fn := Try.f10) (n := 83) (t := 4) (.inl rfl) rfl rfl ?_
    first | exact ⟨rfl, hS⟩
  · (try simp only [decide_eq_true_eq, decide_eq_false_iff_not, Bool.not_eq_true, Bool.not_eq_false, Bool.not_eq_true', Bool.not_eq_false', Bool.and_eq_true, Bool.or_eq_true, Bool.and_eq_false_iff, Bool.or_eq_false_iff, Int.not_lt, Int.not_le, gt_iff_lt, ge_iff_le, ne_eq, Decidable.not_not, beq_iff_eq] at hc)
    have hg12 := hc; clear hc
    refine wl_yes rfl rfl rfl rfl rfl (ow_vr (vr_move (v := .int .i64 _) rfl) ?_)
    refine wl_yes rfl rfl rfl rfl rfl (ow_vr (vr_lss rfl rfl) ?_)
    refine wl_op rfl rfl (ow_vr (vr_pick (b := false) rfl rfl) ?_)
    refine wl_op rfl rfl (ow_vr (vr_move (v := .bool _) rfl) ?_)
    refine wl_split 16 rfl (fun hc => ?_) (fun hc => ?_)
    · (try simp only [decide_eq_true_eq, decide_eq_false_iff_not, Bool.not_eq_true, Bool.not_eq_false, Bool.not_eq_true', Bool.not_eq_false', Bool.and_eq_true, Bool.or_eq_true, Bool.and_eq_false_iff, Bool.or_eq_false_iff, Int.not_lt, Int.not_le, gt_iff_lt, ge_iff_le, ne_eq, Decidable.not_not, beq_iff_eq] at hc)
      have hg16 := hc; clear hc
      refine wl_no rfl rfl rfl rfl rfl rfl ?_
      refine wl_no rfl rfl rfl rfl rfl rfl ?_
      refine wl_op rfl rfl (ow_vr (vr_pick (b := true) rfl rfl) ?_)
      refine wl_op rfl rfl (ow_vr (vr_move (v := .bool _) rfl) ?_)
      refine wl_no rfl rfl rfl rfl rfl rfl ?_
      refine wl_no rfl rfl rfl rfl rfl rfl ?_
      refine wl_op rfl rfl (ow_vr (vr_pick (b := true) rfl rfl) ?_)
      refine wl_nil ?_
      refine hK3 _ _ ?_
      refine cw_cond_t rfl rfl (rfl) ?_
      refine cw_seq fun K5 hK5 => ?_
      refine cw_region ?_
      refine wl_op rfl rfl (ow_fn (vs := []) en_35 rfl hS (alive3) ?_)
      clear hS; rintro _ _ w ⟨rfl, rfl⟩ hS; (try simp only [List.cons_append, List.nil_append] at hS)
      refine wl_op rfl rfl (ow_vr (vr_assign (v := .bool _) rfl) ?_)
      refine wl_nil ?_
      refine hK5 _ _ ?_
      refine cw_ret ?_
      refine thenF_ret (?_)
      refine ret_one (fn := Try.f10) (n := 83) (t := 4) (.inl rfl) rfl rfl ?_
      first | exact ⟨rfl, hS⟩
    · (try simp only [decide_eq_true_eq, decide_eq_false_iff_not, Bool.not_eq_true, Bool.not_eq_false, Bool.not_eq_true', Bool.not_eq_false', Bool.and_eq_true, Bool.or_eq_true, Bool.and_eq_false_iff, Bool.or_eq_false_iff, Int.not_lt, Int.not_le, gt_iff_lt, ge_iff_le, ne_eq, Decidable.not_not, beq_iff_eq] at hc)
      have hg16 := hc; clear hc
      refine wl_yes rfl rfl rfl rfl rfl (ow_vr (vr_move (v := .int .i64 _) rfl) ?_)
      refine wl_yes rfl rfl rfl rfl rfl (ow_vr (vr_gtr rfl rfl) ?_)
      refine wl_op rfl rfl (ow_vr (vr_pick (b := false) rfl rfl) ?_)
      refine wl_op rfl rfl (ow_vr (vr_move (v := .bool _) rfl) ?_)
      refine wl_split 20 rfl (fun hc => ?_) (fun hc => ?_)
      · (try simp only [decide_eq_true_eq, decide_eq_false_iff_not, Bool.not_eq_true, Bool.not_eq_false, Bool.not_eq_true', Bool.not_eq_false', Bool.and_eq_true, Bool.or_eq_true, Bool.and_eq_false_iff, Bool.or_eq_false_iff, Int.not_lt, Int.not_le, gt_iff_lt, ge_iff_le, ne_eq, Decidable.not_not, beq_iff_eq] at hc)
        have hg20 := hc; clear hc
        refine wl_no rfl rfl rfl rfl rfl rfl ?_
        refine wl_no rfl rfl rfl rfl rfl rfl ?_
        refine wl_op rfl rfl (ow_vr (vr_pick (b := true) rfl rfl) ?_)
        refine wl_nil ?_
        refine hK3 _ _ ?_
        refine cw_cond_t rfl rfl (rfl) ?_
        refine cw_seq fun K6 hK6 => ?_
        refine cw_region ?_
        refine wl_op rfl rfl (ow_fn (vs := []) en_35 rfl hS (alive3) ?_)
        clear hS; rintro _ _ w ⟨rfl, rfl⟩ hS; (try simp only [List.cons_append, List.nil_append] at hS)
        refine wl_op rfl rfl (ow_vr (vr_assign (v := .bool _) rfl) ?_)
        refine wl_nil ?_
        refine hK6 _ _ ?_
        refine cw_ret ?_
        refine thenF_ret (?_)
        refine ret_one (fn := Try.f10) (n := 83) (t := 4) (.inl rfl) rfl rfl ?_
        first | exact ⟨rfl, hS⟩
      · (try simp only [decide_eq_true_eq, decide_eq_false_iff_not, Bool.not_eq_true, Bool.not_eq_false, Bool.not_eq_true', Bool.not_eq_false', Bool.and_eq_true, Bool.or_eq_true, Bool.and_eq_false_iff, Bool.or_eq_false_iff, Int.not_lt, Int.not_le, gt_iff_lt, ge_iff_le, ne_eq, Decidable.not_not, beq_iff_eq] at hc)
        have hg20 := hc; clear hc
        refine wl_yes rfl rfl rfl rfl rfl (ow_fn (vs := []) en_35 rfl hS (alive3) ?_)
        clear hS; rintro _ _ w ⟨rfl, rfl⟩ hS; (try simp only [List.cons_append, List.nil_append] at hS)
        refine wl_yes rfl rfl rfl rfl rfl (ow_vr (vr_not rfl) ?_)
        refine wl_op rfl rfl (ow_vr (vr_pick (b := false) rfl rfl) ?_)
        refine wl_nil ?_
        refine hK3 _ _ ?_
        refine cw_cond rfl rfl (fun hc => ?_) (fun hc => ?_)
        · (try simp only [decide_eq_true_eq, decide_eq_false_iff_not, Bool.not_eq_true, Bool.not_eq_false, Bool.not_eq_true', Bool.not_eq_false', Bool.and_eq_true, Bool.or_eq_true, Bool.and_eq_false_iff, Bool.or_eq_false_iff, Int.not_lt, Int.not_le, gt_iff_lt, ge_iff_le, ne_eq, Decidable.not_not, beq_iff_eq] at hc)
          have hc0 := hc; clear hc
          refine cw_seq fun K7 hK7 => ?_
          refine cw_region ?_
          refine wl_op rfl rfl (ow_fn (vs := []) en_35 rfl hS (alive3) ?_)
          clear hS; rintro _ _ w ⟨rfl, rfl⟩ hS; (try simp only [List.cons_append, List.nil_append] at hS)
          refine wl_op rfl rfl (ow_vr (vr_assign (v := .bool _) rfl) ?_)
          refine wl_nil ?_
          refine hK7 _ _ ?_
          refine cw_ret ?_
          refine thenF_ret (?_)
          refine ret_one (fn := Try.f10) (n := 83) (t := 4) (.inl rfl) rfl rfl ?_
          first | exact ⟨rfl, hS⟩
        · (try simp only [decide_eq_true_eq, decide_eq_false_iff_not, Bool.not_eq_true, Bool.not_eq_false, Bool.not_eq_true', Bool.not_eq_false', Bool.and_eq_true, Bool.or_eq_true, Bool.and_eq_false_iff, Bool.or_eq_false_iff, Int.not_lt, Int.not_le, gt_iff_lt, ge_iff_le, ne_eq, Decidable.not_not, beq_iff_eq] at hc)
          have hc0 := hc; clear hc
          refine cw_skip ?_
          refine hK2 _ _ ?_
          refine cw_seq fun K8 hK8 => ?_
          refine cw_region ?_
          refine wl_op rfl rfl (ow_vr (vr_move (v := str _) rfl) ?_)
          refine wl_op rfl rfl (ow_vr (vr_move (v := .int .i64 _) rfl) ?_)
          refine wl_op rfl rfl (ow_fn (vs := [str _, .int .i64 _]) en_38 rfl hS (seal_Seal b n (by omega)) ?_)
          clear hS; rintro _ _ w ⟨rfl, rfl⟩ hS; (try simp only [List.cons_append, List.nil_append] at hS)
          refine wl_op rfl rfl (ow_vr (vr_assign (v := str _) rfl) ?_)
          refine wl_nil ?_
          refine hK8 _ _ ?_
          refine cw_seq fun K9 hK9 => ?_
          refine cw_seq fun K10 hK10 => ?_
          refine cw_region ?_
          refine wl_op rfl rfl (ow_vr (vr_move (v := .int .i64 _) rfl) ?_)
          refine wl_op rfl rfl (ow_vr (vr_lss rfl rfl) ?_)
          refine wl_op rfl rfl (ow_vr (vr_move (v := .bool _) rfl) ?_)
          refine wl_split 30 rfl (fun hc => ?_) (fun hc => ?_)
          · (try simp only [decide_eq_true_eq, decide_eq_false_iff_not, Bool.not_eq_true, Bool.not_eq_false, Bool.not_eq_true', Bool.not_eq_false', Bool.and_eq_true, Bool.or_eq_true, Bool.and_eq_false_iff, Bool.or_eq_false_iff, Int.not_lt, Int.not_le, gt_iff_lt, ge_iff_le, ne_eq, Decidable.not_not, beq_iff_eq] at hc)
            have hg30 := hc; clear hc
            refine wl_no rfl rfl rfl rfl rfl rfl ?_
            refine wl_no rfl rfl rfl rfl rfl rfl ?_
            refine wl_op rfl rfl (ow_vr (vr_pick (b := true) rfl rfl) ?_)
            refine wl_op rfl rfl (ow_vr (vr_move (v := .bool _) rfl) ?_)
            refine wl_no rfl rfl rfl rfl rfl rfl ?_
            refine wl_no rfl rfl rfl rfl rfl rfl ?_
            refine wl_no rfl rfl rfl rfl rfl rfl ?_
            refine wl_no rfl rfl rfl rfl rfl rfl ?_
            refine wl_no rfl rfl rfl rfl rfl rfl ?_
            refine wl_op rfl rfl (ow_vr (vr_pick (b := true) rfl rfl) ?_)
            refine wl_nil ?_
            refine hK10 _ _ ?_
            refine cw_cond_t rfl rfl (rfl) ?_
            refine cw_seq fun K11 hK11 => ?_
            have he : sealI b n = [] := by rw [sealI, if_pos (by omega)]
            refine cw_region ?_
            refine wl_op rfl rfl (ow_vr (vr_move (v := str _) rfl) ?_)
            refine wl_op rfl rfl (ow_vr (vr_eql_s rfl rfl) ?_)
            refine wl_op rfl rfl (ow_vr (vr_assign (v := .bool _) rfl) ?_)
            refine wl_nil ?_
            refine hK11 _ _ ?_
            refine cw_ret ?_
            refine thenF_ret (?_)
            refine ret_one (fn := Try.f10) (n := 83) (t := 4) (.inl rfl) rfl rfl ?_
            exact ⟨congrArg Value.bool (show decide (sealI b n = []) = true by simp [he]), hS⟩
          · (try simp only [decide_eq_true_eq, decide_eq_false_iff_not, Bool.not_eq_true, Bool.not_eq_false, Bool.not_eq_true', Bool.not_eq_false', Bool.and_eq_true, Bool.or_eq_true, Bool.and_eq_false_iff, Bool.or_eq_false_iff, Int.not_lt, Int.not_le, gt_iff_lt, ge_iff_le, ne_eq, Decidable.not_not, beq_iff_eq] at hc)
            have hg30 := hc; clear hc
            refine wl_yes rfl rfl rfl rfl rfl (ow_vr (vr_move (v := .int .i64 _) rfl) ?_)
            refine wl_yes rfl rfl rfl rfl rfl (ow_vr (vr_gtr rfl rfl) ?_)
            refine wl_op rfl rfl (ow_vr (vr_pick (b := false) rfl rfl) ?_)
            refine wl_op rfl rfl (ow_vr (vr_move (v := .bool _) rfl) ?_)
            refine wl_split 34 rfl (fun hc => ?_) (fun hc => ?_)
            · (try simp only [decide_eq_true_eq, decide_eq_false_iff_not, Bool.not_eq_true, Bool.not_eq_false, Bool.not_eq_true', Bool.not_eq_false', Bool.and_eq_true, Bool.or_eq_true, Bool.and_eq_false_iff, Bool.or_eq_false_iff, Int.not_lt, Int.not_le, gt_iff_lt, ge_iff_le, ne_eq, Decidable.not_not, beq_iff_eq] at hc)
              have hg34 := hc; clear hc
              refine wl_no rfl rfl rfl rfl rfl rfl ?_
              refine wl_no rfl rfl rfl rfl rfl rfl ?_
              refine wl_no rfl rfl rfl rfl rfl rfl ?_
              refine wl_no rfl rfl rfl rfl rfl rfl ?_
              refine wl_no rfl rfl rfl rfl rfl rfl ?_
              refine wl_op rfl rfl (ow_vr (vr_pick (b := true) rfl rfl) ?_)
              refine wl_nil ?_
              refine hK10 _ _ ?_
              refine cw_cond_t rfl rfl (rfl) ?_
              refine cw_seq fun K12 hK12 => ?_
              have he : sealI b n = [] := by rw [sealI, if_pos (by omega)]
              refine cw_region ?_
              refine wl_op rfl rfl (ow_vr (vr_move (v := str _) rfl) ?_)
              refine wl_op rfl rfl (ow_vr (vr_eql_s rfl rfl) ?_)
              refine wl_op rfl rfl (ow_vr (vr_assign (v := .bool _) rfl) ?_)
              refine wl_nil ?_
              refine hK12 _ _ ?_
              refine cw_ret ?_
              refine thenF_ret (?_)
              refine ret_one (fn := Try.f10) (n := 83) (t := 4) (.inl rfl) rfl rfl ?_
              exact ⟨congrArg Value.bool (show decide (sealI b n = []) = true by simp [he]), hS⟩
            · (try simp only [decide_eq_true_eq, decide_eq_false_iff_not, Bool.not_eq_true, Bool.not_eq_false, Bool.not_eq_true', Bool.not_eq_false', Bool.and_eq_true, Bool.or_eq_true, Bool.and_eq_false_iff, Bool.or_eq_false_iff, Int.not_lt, Int.not_le, gt_iff_lt, ge_iff_le, ne_eq, Decidable.not_not, beq_iff_eq] at hc)
              have hg34 := hc; clear hc
              refine wl_yes rfl rfl rfl rfl rfl (ow_vr (vr_move (v := str _) rfl) ?_)
              refine wl_yes rfl rfl rfl rfl rfl (ow_vr (vr_len_s Try.underlying9 rfl) ?_)
              refine wl_yes rfl rfl rfl rfl rfl (ow_vr (vr_move (v := .int .i64 _) rfl) ?_)
              first | (refine wl_yes rfl rfl rfl rfl rfl (ow_vr (vr_subi rfl rfl (by unfold inI64; omega)) ?_)) | (refine wl_yes rfl rfl rfl rfl rfl (ow_vr (vr_sub rfl rfl) ?_))
              refine wl_yes rfl rfl rfl rfl rfl (ow_vr (vr_gtr rfl rfl) ?_)
              refine wl_op rfl rfl (ow_vr (vr_pick (b := false) rfl rfl) ?_)
              refine wl_nil ?_
              refine hK10 _ _ ?_
              refine cw_cond rfl rfl (fun hc => ?_) (fun hc => ?_)
              · (try simp only [decide_eq_true_eq, decide_eq_false_iff_not, Bool.not_eq_true, Bool.not_eq_false, Bool.not_eq_true', Bool.not_eq_false', Bool.and_eq_true, Bool.or_eq_true, Bool.and_eq_false_iff, Bool.or_eq_false_iff, Int.not_lt, Int.not_le, gt_iff_lt, ge_iff_le, ne_eq, Decidable.not_not, beq_iff_eq] at hc)
                have hc1 := hc; clear hc
                refine cw_seq fun K13 hK13 => ?_
                have he : sealI b n = [] := by rw [sealI, if_pos (by omega)]
                refine cw_region ?_
                refine wl_op rfl rfl (ow_vr (vr_move (v := str _) rfl) ?_)
                refine wl_op rfl rfl (ow_vr (vr_eql_s rfl rfl) ?_)
                refine wl_op rfl rfl (ow_vr (vr_assign (v := .bool _) rfl) ?_)
                refine wl_nil ?_
                refine hK13 _ _ ?_
                refine cw_ret ?_
                refine thenF_ret (?_)
                refine ret_one (fn := Try.f10) (n := 83) (t := 4) (.inl rfl) rfl rfl ?_
                exact ⟨congrArg Value.bool (show decide (sealI b n = []) = true by simp [he]), hS⟩
              · (try simp only [decide_eq_true_eq, decide_eq_false_iff_not, Bool.not_eq_true, Bool.not_eq_false, Bool.not_eq_true', Bool.not_eq_false', Bool.and_eq_true, Bool.or_eq_true, Bool.and_eq_false_iff, Bool.or_eq_false_iff, Int.not_lt, Int.not_le, gt_iff_lt, ge_iff_le, ne_eq, Decidable.not_not, beq_iff_eq] at hc)
                have hc1 := hc; clear hc
                refine cw_skip ?_
                refine hK9 _ _ ?_
                refine cw_seq fun K14 hK14 => ?_
                have he := sealI_ok (l := b) (n := n) (by omega) (by omega)
                have hl := sealI_length (l := b) (n := n) (by omega) (by omega)
                have hok : openOk (sealI b n) = true := by rw [he, open_sealed]
                have hol : openL (sealI b n) = padB b (n - 4 - (b.length : Int)).toNat := by rw [he, openL_sealed]
                have hpl := padB_length b (n - 4 - (b.length : Int)).toNat
                rw [← hol] at hpl
                refine cw_region ?_
                refine wl_op rfl rfl (ow_vr (vr_move (v := str _) rfl) ?_)
                refine wl_op rfl rfl (ow_fn (vs := [str _]) en_36 rfl hS (seal_Open (sealI b n) (by omega)) ?_)
                clear hS; rintro _ _ w ⟨rfl, rfl⟩ hS; (try simp only [List.cons_append, List.nil_append] at hS)
                refine wl_op rfl rfl (ow_vr (vr_move (v := .tuple _) rfl) ?_)
                refine wl_op rfl rfl (ow_vr (vr_extract rfl rfl) ?_)
                refine wl_op rfl rfl (ow_vr (vr_extract rfl rfl) ?_)
                refine wl_op rfl rfl (ow_vr (vr_assign (v := str _) rfl) ?_)
                refine wl_op rfl rfl (ow_vr (vr_assign (v := .bool _) rfl) ?_)
                refine wl_nil ?_
                refine hK14 _ _ ?_
                refine cw_seq fun K15 hK15 => ?_
                refine cw_seq fun K16 hK16 => ?_
                refine cw_region ?_
                refine wl_op rfl rfl (ow_vr (vr_move (v := .bool _) rfl) ?_)
                refine wl_op rfl rfl (ow_vr (vr_not rfl) ?_)
                refine wl_op rfl rfl (ow_vr (vr_move (v := .bool _) rfl) ?_)
                refine wl_known 50 rfl (c := false) (by simp [hok]) ?_
                refine wl_yes rfl rfl rfl rfl rfl (ow_vr (vr_move (v := str _) rfl) ?_)
                refine wl_yes rfl rfl rfl rfl rfl (ow_vr (vr_len_s Try.underlying9 rfl) ?_)
                refine wl_yes rfl rfl rfl rfl rfl (ow_vr (vr_move (v := .int .i64 _) rfl) ?_)
                refine wl_yes rfl rfl rfl rfl rfl (ow_vr (vr_neq rfl rfl) ?_)
                refine wl_op rfl rfl (ow_vr (vr_pick (b := false) rfl rfl) ?_)
                refine wl_op rfl rfl (ow_vr (vr_move (v := .bool _) rfl) ?_)
                refine wl_known 56 rfl (c := false) (by simp; omega) ?_
                refine wl_yes rfl rfl rfl rfl rfl (ow_vr (vr_move (v := str _) rfl) ?_)
                refine wl_yes rfl rfl rfl rfl rfl (ow_vr (vr_len_s Try.underlying9 rfl) ?_)
                refine wl_yes rfl rfl rfl rfl rfl (ow_vr (vr_move (v := .int .i64 _) rfl) ?_)
                first | (refine wl_yes rfl rfl rfl rfl rfl (ow_vr (vr_subi rfl rfl (by unfold inI64; omega)) ?_)) | (refine wl_yes rfl rfl rfl rfl rfl (ow_vr (vr_sub rfl rfl) ?_))
                refine wl_yes rfl rfl rfl rfl rfl (ow_vr (vr_neq rfl rfl) ?_)
                refine wl_op rfl rfl (ow_vr (vr_pick (b := false) rfl rfl) ?_)
                refine wl_op rfl rfl (ow_vr (vr_move (v := .bool _) rfl) ?_)
                refine wl_known 63 rfl (c := false) (by simp; omega) ?_
                refine wl_yes rfl rfl rfl rfl rfl (ow_vr (vr_move (v := str _) rfl) ?_)
                refine wl_yes rfl rfl rfl rfl rfl (ow_vr (vr_move (v := str _) rfl) ?_)
                refine wl_yes rfl rfl rfl rfl rfl (ow_vr (vr_len_s Try.underlying9 rfl) ?_)
                refine wl_yes rfl rfl rfl rfl rfl (ow_vr (vr_slice_to (l := openL (sealI b n)) (h := b.length) Try.underlying9 rfl rfl (by omega)) ?_)
                refine wl_yes rfl rfl rfl rfl rfl (ow_vr (vr_move (v := str _) rfl) ?_)
                refine wl_yes rfl rfl rfl rfl rfl (ow_vr (vr_neq_s rfl rfl) ?_)
                refine wl_op rfl rfl (ow_vr (vr_pick (b := false) rfl rfl) ?_)
                refine wl_nil ?_
                refine hK16 _ _ ?_
                refine cw_cond_f rfl rfl (by simp [hol, padB]) ?_
                refine cw_skip ?_
                refine hK15 _ _ ?_
                refine cw_seq fun K17 hK17 => ?_
                refine cw_seq fun K18 hK18 => ?_
                refine cw_region ?_
                refine wl_op rfl rfl (ow_vr (vr_move (v := str _) rfl) ?_)
                refine wl_op rfl rfl (ow_vr (vr_len_s Try.underlying9 rfl) ?_)
                refine wl_op rfl rfl (ow_vr (vr_assign (v := .int .i64 _) rfl) ?_)
                refine wl_nil ?_
                refine hK18 _ _ ?_
                refine cw_block ?_
                refine cw_loop (fun m f w => ∃ (k : Nat) (g : Nat → Value), f = (upd (upd g 6 (str (openL (sealI b n)))) 8 (.int .i64 (k : Int))) ∧ (b.length ≤ k ∧ k ≤ (openL (sealI b n)).length) ∧ m = (openL (sealI b n)).length - k ∧ Sat E (F) w) ⟨b.length, _, (reb (reb rfl rfl) rfl), ?_, rfl, hS⟩ ?_
                · exact ⟨by omega, by omega⟩
                clear hS; rintro m f w ⟨k, g, rfl, hI0, rfl, hS⟩
                refine cw_seq fun K19 hK19 => ?_
                refine cw_seq fun K20 hK20 => ?_
                refine cw_region ?_
                refine wl_op rfl rfl (ow_vr (vr_move (v := .int .i64 (k : Int)) rfl) ?_)
                refine wl_op rfl rfl (ow_vr (vr_move (v := (str (openL (sealI b n)))) rfl) ?_)
                refine wl_op rfl rfl (ow_vr (vr_len_s Try.underlying9 rfl) ?_)
                refine wl_op rfl rfl (ow_vr (vr_lss rfl rfl) ?_)
                refine wl_nil ?_
                refine hK20 _ _ ?_
                refine cw_cond rfl rfl (fun hc => ?_) (fun hc => ?_)
                · (try simp only [decide_eq_true_eq, decide_eq_false_iff_not, Bool.not_eq_true, Bool.not_eq_false, Bool.not_eq_true', Bool.not_eq_false', Bool.and_eq_true, Bool.or_eq_true, Bool.and_eq_false_iff, Bool.or_eq_false_iff, Int.not_lt, Int.not_le, gt_iff_lt, ge_iff_le, ne_eq, Decidable.not_not, beq_iff_eq] at hc)
                  have hc3 := hc; clear hc
                  refine cw_skip ?_
                  refine hK19 _ _ ?_
                  refine cw_seq fun K21 hK21 => ?_
                  refine cw_block ?_
                  refine cw_seq fun K22 hK22 => ?_
                  have hz : (openL (sealI b n))[k]? = some 0 := by rw [hol, padB, List.getElem?_append_right (by omega), List.getElem?_replicate, if_pos (by omega)]
                  refine cw_region ?_
                  refine wl_op rfl rfl (ow_vr (vr_move (v := (str (openL (sealI b n)))) rfl) ?_)
                  refine wl_op rfl rfl (ow_vr (vr_move (v := .int .i64 (k : Int)) rfl) ?_)
                  refine wl_op rfl rfl (ow_vr (vr_index_s Try.underlying9 rfl rfl (by omega) (hz)) ?_)
                  refine wl_op rfl rfl (ow_vr (vr_neq rfl rfl) ?_)
                  refine wl_nil ?_
                  refine hK22 _ _ ?_
                  refine cw_cond_f rfl rfl (by rfl) ?_
                  refine cw_skip ?_
                  refine hK21 _ _ ?_
                  refine cw_region ?_
                  refine wl_op rfl rfl (ow_vr (vr_move (v := .int .i64 (k : Int)) rfl) ?_)
                  first | (refine wl_op rfl rfl (ow_vr (vr_addi rfl rfl (by unfold inI64; omega)) ?_)) | (refine wl_op rfl rfl (ow_vr (vr_add rfl rfl) ?_))
                  refine wl_op rfl rfl (ow_vr (vr_assign (v := .int .i64 _) rfl) ?_)
                  refine wl_nil ?_
                  refine thenF_normal ⟨_, ?_, k + 1, _, (reb (reb rfl rfl) rfl), ?_, rfl, hS⟩
                  · omega
                  · omega
                · (try simp only [decide_eq_true_eq, decide_eq_false_iff_not, Bool.not_eq_true, Bool.not_eq_false, Bool.not_eq_true', Bool.not_eq_false', Bool.and_eq_true, Bool.or_eq_true, Bool.and_eq_false_iff, Bool.or_eq_false_iff, Int.not_lt, Int.not_le, gt_iff_lt, ge_iff_le, ne_eq, Decidable.not_not, beq_iff_eq] at hc)
                  have hc3 := hc; clear hc
                  refine cw_exit ?_
                  refine hK17 _ _ ?_
                  refine cw_seq fun K23 hK23 => ?_
                  refine cw_region ?_
                  refine wl_op rfl rfl (ow_vr (vr_assign rfl) ?_)
                  refine wl_nil ?_
                  refine hK23 _ _ ?_
                  refine cw_ret ?_
                  refine ret_one (fn := Try.f10) (n := 83) (t := 4) (.inl rfl) rfl rfl ?_
                  first | exact ⟨rfl, hS⟩
theorem sealI_eq {a b : List UInt8} {n : Int} (h : a.length = b.length) (h1 : (a.length : Int) + 4 ≤ n) (h2 : n ≤ 200) : sealI a n = sealI b n ↔ a = b := by
  constructor
  · intro he
    rw [sealI_ok h1 h2, sealI_ok (by omega) h2] at he
    have h3 := congrArg bodyB he
    rw [body_sealed, body_sealed, padB, padB] at h3
    exact List.append_inj_left h3 h
  · intro e; rw [e]
theorem sealI_eq2 {a : List UInt8} {n m : Int} (h1 : (a.length : Int) + 4 ≤ n) (h2 : n ≤ 200) (h3 : (a.length : Int) + 4 ≤ m) (h4 : m ≤ 200) : sealI a n = sealI a m ↔ n = m := by
  constructor
  · intro he
    have h5 := sealI_length h1 h2
    have h6 := sealI_length h3 h4
    rw [he] at h5; omega
  · intro e; rw [e]
theorem seal_two (a b : List UInt8) (n m : Int) (ha : a.length ≤ 9223372036854775807) (hb : b.length ≤ 9223372036854775807) : FnV Try.prog 11 [str a, str b, .int .i64 n, .int .i64 m] (.bool true) := by
  refine FnV.mk fun E F w hS => ?_
  refine returns_enter Try.func11 rfl Try.ntmps11 rfl ?_
  refine cw_seq fun K1 hK1 => ?_
  refine cw_region ?_
  refine wl_op rfl rfl (ow_vr (vr_assign rfl) ?_)
  refine wl_nil ?_
  refine hK1 _ _ ?_
  refine cw_seq fun K2 hK2 => ?_
  refine cw_seq fun K3 hK3 => ?_
  refine cw_region ?_
  refine wl_op rfl rfl (ow_vr (vr_move (v := str _) rfl) ?_)
  refine wl_op rfl rfl (ow_vr (vr_len_s Try.underlying9 rfl) ?_)
  refine wl_op rfl rfl (ow_vr (vr_move (v := str _) rfl) ?_)
  refine wl_op rfl rfl (ow_vr (vr_len_s Try.underlying9 rfl) ?_)
  refine wl_op rfl rfl (ow_vr (vr_neq rfl rfl) ?_)
  refine wl_op rfl rfl (ow_vr (vr_move (v := .bool _) rfl) ?_)
  refine wl_split 14 rfl (fun hc => ?_) (fun hc => ?_)
  · (try simp only [decide_eq_true_eq, decide_eq_false_iff_not, Bool.not_eq_true, Bool.not_eq_false, Bool.not_eq_true', Bool.not_eq_false', Bool.and_eq_true, Bool.or_eq_true, Bool.and_eq_false_iff, Bool.or_eq_false_iff, Int.not_lt, Int.not_le, gt_iff_lt, ge_iff_le, ne_eq, Decidable.not_not, beq_iff_eq] at hc)
    have hg14 := hc; clear hc
    refine wl_no rfl rfl rfl rfl rfl rfl ?_
    refine wl_no rfl rfl rfl rfl rfl rfl ?_
    refine wl_no rfl rfl rfl rfl rfl rfl ?_
    refine wl_op rfl rfl (ow_vr (vr_pick (b := true) rfl rfl) ?_)
    refine wl_op rfl rfl (ow_vr (vr_move (v := .bool _) rfl) ?_)
    refine wl_no rfl rfl rfl rfl rfl rfl ?_
    refine wl_no rfl rfl rfl rfl rfl rfl ?_
    refine wl_no rfl rfl rfl rfl rfl rfl ?_
    refine wl_no rfl rfl rfl rfl rfl rfl ?_
    refine wl_no rfl rfl rfl rfl rfl rfl ?_
    refine wl_op rfl rfl (ow_vr (vr_pick (b := true) rfl rfl) ?_)
    refine wl_op rfl rfl (ow_vr (vr_move (v := .bool _) rfl) ?_)
    refine wl_no rfl rfl rfl rfl rfl rfl ?_
    refine wl_no rfl rfl rfl rfl rfl rfl ?_
    refine wl_op rfl rfl (ow_vr (vr_pick (b := true) rfl rfl) ?_)
    refine wl_op rfl rfl (ow_vr (vr_move (v := .bool _) rfl) ?_)
    refine wl_no rfl rfl rfl rfl rfl rfl ?_
    refine wl_no rfl rfl rfl rfl rfl rfl ?_
    refine wl_no rfl rfl rfl rfl rfl rfl ?_
    refine wl_no rfl rfl rfl rfl rfl rfl ?_
    refine wl_no rfl rfl rfl rfl rfl rfl ?_
    refine wl_op rfl rfl (ow_vr (vr_pick (b := true) rfl rfl) ?_)
    refine wl_op rfl rfl (ow_vr (vr_move (v := .bool _) rfl) ?_)
    refine wl_no rfl rfl rfl rfl rfl rfl ?_
    refine wl_no rfl rfl rfl rfl rfl rfl ?_
    refine wl_op rfl rfl (ow_vr (vr_pick (b := true) rfl rfl) ?_)
    refine wl_op rfl rfl (ow_vr (vr_move (v := .bool _) rfl) ?_)
    refine wl_no rfl rfl rfl rfl rfl rfl ?_
    refine wl_no rfl rfl rfl rfl rfl rfl ?_
    refine wl_op rfl rfl (ow_vr (vr_pick (b := true) rfl rfl) ?_)
    refine wl_nil ?_
    refine hK3 _ _ ?_
    refine cw_cond_t rfl rfl (rfl) ?_
    refine cw_seq fun K4 hK4 => ?_
    refine cw_region ?_
    refine wl_op rfl rfl (ow_fn (vs := []) en_35 rfl hS (alive3) ?_)
    clear hS; rintro _ _ w ⟨rfl, rfl⟩ hS; (try simp only [List.cons_append, List.nil_append] at hS)
    refine wl_op rfl rfl (ow_vr (vr_assign (v := .bool _) rfl) ?_)
    refine wl_nil ?_
    refine hK4 _ _ ?_
    refine cw_ret ?_
    refine thenF_ret (?_)
    refine ret_one (fn := Try.f11) (n := 70) (t := 8) (.inl rfl) rfl rfl ?_
    first | exact ⟨rfl, hS⟩ | exact ⟨congrArg Value.bool (by simp [e2]), hS⟩
  · (try simp only [decide_eq_true_eq, decide_eq_false_iff_not, Bool.not_eq_true, Bool.not_eq_false, Bool.not_eq_true', Bool.not_eq_false', Bool.and_eq_true, Bool.or_eq_true, Bool.and_eq_false_iff, Bool.or_eq_false_iff, Int.not_lt, Int.not_le, gt_iff_lt, ge_iff_le, ne_eq, Decidable.not_not, beq_iff_eq] at hc)
    have hg14 := hc; clear hc
    refine wl_yes rfl rfl rfl rfl rfl (ow_vr (vr_move (v := str _) rfl) ?_)
    refine wl_yes rfl rfl rfl rfl rfl (ow_vr (vr_len_s Try.underlying9 rfl) ?_)
    refine wl_yes rfl rfl rfl rfl rfl (ow_vr (vr_gtr rfl rfl) ?_)
    refine wl_op rfl rfl (ow_vr (vr_pick (b := false) rfl rfl) ?_)
    refine wl_op rfl rfl (ow_vr (vr_move (v := .bool _) rfl) ?_)
    refine wl_split 19 rfl (fun hc => ?_) (fun hc => ?_)
    · (try simp only [decide_eq_true_eq, decide_eq_false_iff_not, Bool.not_eq_true, Bool.not_eq_false, Bool.not_eq_true', Bool.not_eq_false', Bool.and_eq_true, Bool.or_eq_true, Bool.and_eq_false_iff, Bool.or_eq_false_iff, Int.not_lt, Int.not_le, gt_iff_lt, ge_iff_le, ne_eq, Decidable.not_not, beq_iff_eq] at hc)
      have hg19 := hc; clear hc
      refine wl_no rfl rfl rfl rfl rfl rfl ?_
      refine wl_no rfl rfl rfl rfl rfl rfl ?_
      refine wl_no rfl rfl rfl rfl rfl rfl ?_
      refine wl_no rfl rfl rfl rfl rfl rfl ?_
      refine wl_no rfl rfl rfl rfl rfl rfl ?_
      refine wl_op rfl rfl (ow_vr (vr_pick (b := true) rfl rfl) ?_)
      refine wl_op rfl rfl (ow_vr (vr_move (v := .bool _) rfl) ?_)
      refine wl_no rfl rfl rfl rfl rfl rfl ?_
      refine wl_no rfl rfl rfl rfl rfl rfl ?_
      refine wl_op rfl rfl (ow_vr (vr_pick (b := true) rfl rfl) ?_)
      refine wl_op rfl rfl (ow_vr (vr_move (v := .bool _) rfl) ?_)
      refine wl_no rfl rfl rfl rfl rfl rfl ?_
      refine wl_no rfl rfl rfl rfl rfl rfl ?_
      refine wl_no rfl rfl rfl rfl rfl rfl ?_
      refine wl_no rfl rfl rfl rfl rfl rfl ?_
      refine wl_no rfl rfl rfl rfl rfl rfl ?_
      refine wl_op rfl rfl (ow_vr (vr_pick (b := true) rfl rfl) ?_)
      refine wl_op rfl rfl (ow_vr (vr_move (v := .bool _) rfl) ?_)
      refine wl_no rfl rfl rfl rfl rfl rfl ?_
      refine wl_no rfl rfl rfl rfl rfl rfl ?_
      refine wl_op rfl rfl (ow_vr (vr_pick (b := true) rfl rfl) ?_)
      refine wl_op rfl rfl (ow_vr (vr_move (v := .bool _) rfl) ?_)
      refine wl_no rfl rfl rfl rfl rfl rfl ?_
      refine wl_no rfl rfl rfl rfl rfl rfl ?_
      refine wl_op rfl rfl (ow_vr (vr_pick (b := true) rfl rfl) ?_)
      refine wl_nil ?_
      refine hK3 _ _ ?_
      refine cw_cond_t rfl rfl (rfl) ?_
      refine cw_seq fun K5 hK5 => ?_
      refine cw_region ?_
      refine wl_op rfl rfl (ow_fn (vs := []) en_35 rfl hS (alive3) ?_)
      clear hS; rintro _ _ w ⟨rfl, rfl⟩ hS; (try simp only [List.cons_append, List.nil_append] at hS)
      refine wl_op rfl rfl (ow_vr (vr_assign (v := .bool _) rfl) ?_)
      refine wl_nil ?_
      refine hK5 _ _ ?_
      refine cw_ret ?_
      refine thenF_ret (?_)
      refine ret_one (fn := Try.f11) (n := 70) (t := 8) (.inl rfl) rfl rfl ?_
      first | exact ⟨rfl, hS⟩ | exact ⟨congrArg Value.bool (by simp [e2]), hS⟩
    · (try simp only [decide_eq_true_eq, decide_eq_false_iff_not, Bool.not_eq_true, Bool.not_eq_false, Bool.not_eq_true', Bool.not_eq_false', Bool.and_eq_true, Bool.or_eq_true, Bool.and_eq_false_iff, Bool.or_eq_false_iff, Int.not_lt, Int.not_le, gt_iff_lt, ge_iff_le, ne_eq, Decidable.not_not, beq_iff_eq] at hc)
      have hg19 := hc; clear hc
      refine wl_yes rfl rfl rfl rfl rfl (ow_vr (vr_move (v := .int .i64 _) rfl) ?_)
      refine wl_yes rfl rfl rfl rfl rfl (ow_vr (vr_move (v := str _) rfl) ?_)
      refine wl_yes rfl rfl rfl rfl rfl (ow_vr (vr_len_s Try.underlying9 rfl) ?_)
      refine wl_yes rfl rfl rfl rfl rfl (ow_vr (vr_addi rfl rfl (by unfold inI64; omega)) ?_)
      refine wl_yes rfl rfl rfl rfl rfl (ow_vr (vr_lss rfl rfl) ?_)
      refine wl_op rfl rfl (ow_vr (vr_pick (b := false) rfl rfl) ?_)
      refine wl_op rfl rfl (ow_vr (vr_move (v := .bool _) rfl) ?_)
      refine wl_split 26 rfl (fun hc => ?_) (fun hc => ?_)
      · (try simp only [decide_eq_true_eq, decide_eq_false_iff_not, Bool.not_eq_true, Bool.not_eq_false, Bool.not_eq_true', Bool.not_eq_false', Bool.and_eq_true, Bool.or_eq_true, Bool.and_eq_false_iff, Bool.or_eq_false_iff, Int.not_lt, Int.not_le, gt_iff_lt, ge_iff_le, ne_eq, Decidable.not_not, beq_iff_eq] at hc)
        have hg26 := hc; clear hc
        refine wl_no rfl rfl rfl rfl rfl rfl ?_
        refine wl_no rfl rfl rfl rfl rfl rfl ?_
        refine wl_op rfl rfl (ow_vr (vr_pick (b := true) rfl rfl) ?_)
        refine wl_op rfl rfl (ow_vr (vr_move (v := .bool _) rfl) ?_)
        refine wl_no rfl rfl rfl rfl rfl rfl ?_
        refine wl_no rfl rfl rfl rfl rfl rfl ?_
        refine wl_no rfl rfl rfl rfl rfl rfl ?_
        refine wl_no rfl rfl rfl rfl rfl rfl ?_
        refine wl_no rfl rfl rfl rfl rfl rfl ?_
        refine wl_op rfl rfl (ow_vr (vr_pick (b := true) rfl rfl) ?_)
        refine wl_op rfl rfl (ow_vr (vr_move (v := .bool _) rfl) ?_)
        refine wl_no rfl rfl rfl rfl rfl rfl ?_
        refine wl_no rfl rfl rfl rfl rfl rfl ?_
        refine wl_op rfl rfl (ow_vr (vr_pick (b := true) rfl rfl) ?_)
        refine wl_op rfl rfl (ow_vr (vr_move (v := .bool _) rfl) ?_)
        refine wl_no rfl rfl rfl rfl rfl rfl ?_
        refine wl_no rfl rfl rfl rfl rfl rfl ?_
        refine wl_op rfl rfl (ow_vr (vr_pick (b := true) rfl rfl) ?_)
        refine wl_nil ?_
        refine hK3 _ _ ?_
        refine cw_cond_t rfl rfl (rfl) ?_
        refine cw_seq fun K6 hK6 => ?_
        refine cw_region ?_
        refine wl_op rfl rfl (ow_fn (vs := []) en_35 rfl hS (alive3) ?_)
        clear hS; rintro _ _ w ⟨rfl, rfl⟩ hS; (try simp only [List.cons_append, List.nil_append] at hS)
        refine wl_op rfl rfl (ow_vr (vr_assign (v := .bool _) rfl) ?_)
        refine wl_nil ?_
        refine hK6 _ _ ?_
        refine cw_ret ?_
        refine thenF_ret (?_)
        refine ret_one (fn := Try.f11) (n := 70) (t := 8) (.inl rfl) rfl rfl ?_
        first | exact ⟨rfl, hS⟩ | exact ⟨congrArg Value.bool (by simp [e2]), hS⟩
      · (try simp only [decide_eq_true_eq, decide_eq_false_iff_not, Bool.not_eq_true, Bool.not_eq_false, Bool.not_eq_true', Bool.not_eq_false', Bool.and_eq_true, Bool.or_eq_true, Bool.and_eq_false_iff, Bool.or_eq_false_iff, Int.not_lt, Int.not_le, gt_iff_lt, ge_iff_le, ne_eq, Decidable.not_not, beq_iff_eq] at hc)
        have hg26 := hc; clear hc
        refine wl_yes rfl rfl rfl rfl rfl (ow_vr (vr_move (v := .int .i64 _) rfl) ?_)
        refine wl_yes rfl rfl rfl rfl rfl (ow_vr (vr_gtr rfl rfl) ?_)
        refine wl_op rfl rfl (ow_vr (vr_pick (b := false) rfl rfl) ?_)
        refine wl_op rfl rfl (ow_vr (vr_move (v := .bool _) rfl) ?_)
        refine wl_split 30 rfl (fun hc => ?_) (fun hc => ?_)
        · (try simp only [decide_eq_true_eq, decide_eq_false_iff_not, Bool.not_eq_true, Bool.not_eq_false, Bool.not_eq_true', Bool.not_eq_false', Bool.and_eq_true, Bool.or_eq_true, Bool.and_eq_false_iff, Bool.or_eq_false_iff, Int.not_lt, Int.not_le, gt_iff_lt, ge_iff_le, ne_eq, Decidable.not_not, beq_iff_eq] at hc)
          have hg30 := hc; clear hc
          refine wl_no rfl rfl rfl rfl rfl rfl ?_
          refine wl_no rfl rfl rfl rfl rfl rfl ?_
          refine wl_no rfl rfl rfl rfl rfl rfl ?_
          refine wl_no rfl rfl rfl rfl rfl rfl ?_
          refine wl_no rfl rfl rfl rfl rfl rfl ?_
          refine wl_op rfl rfl (ow_vr (vr_pick (b := true) rfl rfl) ?_)
          refine wl_op rfl rfl (ow_vr (vr_move (v := .bool _) rfl) ?_)
          refine wl_no rfl rfl rfl rfl rfl rfl ?_
          refine wl_no rfl rfl rfl rfl rfl rfl ?_
          refine wl_op rfl rfl (ow_vr (vr_pick (b := true) rfl rfl) ?_)
          refine wl_op rfl rfl (ow_vr (vr_move (v := .bool _) rfl) ?_)
          refine wl_no rfl rfl rfl rfl rfl rfl ?_
          refine wl_no rfl rfl rfl rfl rfl rfl ?_
          refine wl_op rfl rfl (ow_vr (vr_pick (b := true) rfl rfl) ?_)
          refine wl_nil ?_
          refine hK3 _ _ ?_
          refine cw_cond_t rfl rfl (rfl) ?_
          refine cw_seq fun K7 hK7 => ?_
          refine cw_region ?_
          refine wl_op rfl rfl (ow_fn (vs := []) en_35 rfl hS (alive3) ?_)
          clear hS; rintro _ _ w ⟨rfl, rfl⟩ hS; (try simp only [List.cons_append, List.nil_append] at hS)
          refine wl_op rfl rfl (ow_vr (vr_assign (v := .bool _) rfl) ?_)
          refine wl_nil ?_
          refine hK7 _ _ ?_
          refine cw_ret ?_
          refine thenF_ret (?_)
          refine ret_one (fn := Try.f11) (n := 70) (t := 8) (.inl rfl) rfl rfl ?_
          first | exact ⟨rfl, hS⟩ | exact ⟨congrArg Value.bool (by simp [e2]), hS⟩
        · (try simp only [decide_eq_true_eq, decide_eq_false_iff_not, Bool.not_eq_true, Bool.not_eq_false, Bool.not_eq_true', Bool.not_eq_false', Bool.and_eq_true, Bool.or_eq_true, Bool.and_eq_false_iff, Bool.or_eq_false_iff, Int.not_lt, Int.not_le, gt_iff_lt, ge_iff_le, ne_eq, Decidable.not_not, beq_iff_eq] at hc)
          have hg30 := hc; clear hc
          refine wl_yes rfl rfl rfl rfl rfl (ow_vr (vr_move (v := .int .i64 _) rfl) ?_)
          refine wl_yes rfl rfl rfl rfl rfl (ow_vr (vr_move (v := str _) rfl) ?_)
          refine wl_yes rfl rfl rfl rfl rfl (ow_vr (vr_len_s Try.underlying9 rfl) ?_)
          refine wl_yes rfl rfl rfl rfl rfl (ow_vr (vr_addi rfl rfl (by unfold inI64; omega)) ?_)
          refine wl_yes rfl rfl rfl rfl rfl (ow_vr (vr_lss rfl rfl) ?_)
          refine wl_op rfl rfl (ow_vr (vr_pick (b := false) rfl rfl) ?_)
          refine wl_op rfl rfl (ow_vr (vr_move (v := .bool _) rfl) ?_)
          refine wl_split 37 rfl (fun hc => ?_) (fun hc => ?_)
          · (try simp only [decide_eq_true_eq, decide_eq_false_iff_not, Bool.not_eq_true, Bool.not_eq_false, Bool.not_eq_true', Bool.not_eq_false', Bool.and_eq_true, Bool.or_eq_true, Bool.and_eq_false_iff, Bool.or_eq_false_iff, Int.not_lt, Int.not_le, gt_iff_lt, ge_iff_le, ne_eq, Decidable.not_not, beq_iff_eq] at hc)
            have hg37 := hc; clear hc
            refine wl_no rfl rfl rfl rfl rfl rfl ?_
            refine wl_no rfl rfl rfl rfl rfl rfl ?_
            refine wl_op rfl rfl (ow_vr (vr_pick (b := true) rfl rfl) ?_)
            refine wl_op rfl rfl (ow_vr (vr_move (v := .bool _) rfl) ?_)
            refine wl_no rfl rfl rfl rfl rfl rfl ?_
            refine wl_no rfl rfl rfl rfl rfl rfl ?_
            refine wl_op rfl rfl (ow_vr (vr_pick (b := true) rfl rfl) ?_)
            refine wl_nil ?_
            refine hK3 _ _ ?_
            refine cw_cond_t rfl rfl (rfl) ?_
            refine cw_seq fun K8 hK8 => ?_
            refine cw_region ?_
            refine wl_op rfl rfl (ow_fn (vs := []) en_35 rfl hS (alive3) ?_)
            clear hS; rintro _ _ w ⟨rfl, rfl⟩ hS; (try simp only [List.cons_append, List.nil_append] at hS)
            refine wl_op rfl rfl (ow_vr (vr_assign (v := .bool _) rfl) ?_)
            refine wl_nil ?_
            refine hK8 _ _ ?_
            refine cw_ret ?_
            refine thenF_ret (?_)
            refine ret_one (fn := Try.f11) (n := 70) (t := 8) (.inl rfl) rfl rfl ?_
            first | exact ⟨rfl, hS⟩ | exact ⟨congrArg Value.bool (by simp [e2]), hS⟩
          · (try simp only [decide_eq_true_eq, decide_eq_false_iff_not, Bool.not_eq_true, Bool.not_eq_false, Bool.not_eq_true', Bool.not_eq_false', Bool.and_eq_true, Bool.or_eq_true, Bool.and_eq_false_iff, Bool.or_eq_false_iff, Int.not_lt, Int.not_le, gt_iff_lt, ge_iff_le, ne_eq, Decidable.not_not, beq_iff_eq] at hc)
            have hg37 := hc; clear hc
            refine wl_yes rfl rfl rfl rfl rfl (ow_vr (vr_move (v := .int .i64 _) rfl) ?_)
            refine wl_yes rfl rfl rfl rfl rfl (ow_vr (vr_gtr rfl rfl) ?_)
            refine wl_op rfl rfl (ow_vr (vr_pick (b := false) rfl rfl) ?_)
            refine wl_op rfl rfl (ow_vr (vr_move (v := .bool _) rfl) ?_)
            refine wl_split 41 rfl (fun hc => ?_) (fun hc => ?_)
            · (try simp only [decide_eq_true_eq, decide_eq_false_iff_not, Bool.not_eq_true, Bool.not_eq_false, Bool.not_eq_true', Bool.not_eq_false', Bool.and_eq_true, Bool.or_eq_true, Bool.and_eq_false_iff, Bool.or_eq_false_iff, Int.not_lt, Int.not_le, gt_iff_lt, ge_iff_le, ne_eq, Decidable.not_not, beq_iff_eq] at hc)
              have hg41 := hc; clear hc
              refine wl_no rfl rfl rfl rfl rfl rfl ?_
              refine wl_no rfl rfl rfl rfl rfl rfl ?_
              refine wl_op rfl rfl (ow_vr (vr_pick (b := true) rfl rfl) ?_)
              refine wl_nil ?_
              refine hK3 _ _ ?_
              refine cw_cond_t rfl rfl (rfl) ?_
              refine cw_seq fun K9 hK9 => ?_
              refine cw_region ?_
              refine wl_op rfl rfl (ow_fn (vs := []) en_35 rfl hS (alive3) ?_)
              clear hS; rintro _ _ w ⟨rfl, rfl⟩ hS; (try simp only [List.cons_append, List.nil_append] at hS)
              refine wl_op rfl rfl (ow_vr (vr_assign (v := .bool _) rfl) ?_)
              refine wl_nil ?_
              refine hK9 _ _ ?_
              refine cw_ret ?_
              refine thenF_ret (?_)
              refine ret_one (fn := Try.f11) (n := 70) (t := 8) (.inl rfl) rfl rfl ?_
              first | exact ⟨rfl, hS⟩ | exact ⟨congrArg Value.bool (by simp [e2]), hS⟩
            · (try simp only [decide_eq_true_eq, decide_eq_false_iff_not, Bool.not_eq_true, Bool.not_eq_false, Bool.not_eq_true', Bool.not_eq_false', Bool.and_eq_true, Bool.or_eq_true, Bool.and_eq_false_iff, Bool.or_eq_false_iff, Int.not_lt, Int.not_le, gt_iff_lt, ge_iff_le, ne_eq, Decidable.not_not, beq_iff_eq] at hc)
              have hg41 := hc; clear hc
              refine wl_yes rfl rfl rfl rfl rfl (ow_fn (vs := []) en_35 rfl hS (alive3) ?_)
              clear hS; rintro _ _ w ⟨rfl, rfl⟩ hS; (try simp only [List.cons_append, List.nil_append] at hS)
              refine wl_yes rfl rfl rfl rfl rfl (ow_vr (vr_not rfl) ?_)
              refine wl_op rfl rfl (ow_vr (vr_pick (b := false) rfl rfl) ?_)
              refine wl_nil ?_
              refine hK3 _ _ ?_
              refine cw_cond rfl rfl (fun hc => ?_) (fun hc => ?_)
              · (try simp only [decide_eq_true_eq, decide_eq_false_iff_not, Bool.not_eq_true, Bool.not_eq_false, Bool.not_eq_true', Bool.not_eq_false', Bool.and_eq_true, Bool.or_eq_true, Bool.and_eq_false_iff, Bool.or_eq_false_iff, Int.not_lt, Int.not_le, gt_iff_lt, ge_iff_le, ne_eq, Decidable.not_not, beq_iff_eq] at hc)
                have hc0 := hc; clear hc
                refine cw_seq fun K10 hK10 => ?_
                refine cw_region ?_
                refine wl_op rfl rfl (ow_fn (vs := []) en_35 rfl hS (alive3) ?_)
                clear hS; rintro _ _ w ⟨rfl, rfl⟩ hS; (try simp only [List.cons_append, List.nil_append] at hS)
                refine wl_op rfl rfl (ow_vr (vr_assign (v := .bool _) rfl) ?_)
                refine wl_nil ?_
                refine hK10 _ _ ?_
                refine cw_ret ?_
                refine thenF_ret (?_)
                refine ret_one (fn := Try.f11) (n := 70) (t := 8) (.inl rfl) rfl rfl ?_
                first | exact ⟨rfl, hS⟩ | exact ⟨congrArg Value.bool (by simp [e2]), hS⟩
              · (try simp only [decide_eq_true_eq, decide_eq_false_iff_not, Bool.not_eq_true, Bool.not_eq_false, Bool.not_eq_true', Bool.not_eq_false', Bool.and_eq_true, Bool.or_eq_true, Bool.and_eq_false_iff, Bool.or_eq_false_iff, Int.not_lt, Int.not_le, gt_iff_lt, ge_iff_le, ne_eq, Decidable.not_not, beq_iff_eq] at hc)
                have hc0 := hc; clear hc
                refine cw_skip ?_
                refine hK2 _ _ ?_
                refine cw_seq fun K11 hK11 => ?_
                have e1 := sealI_eq (a := a) (b := b) (n := n) (by omega) (by omega) (by omega)
                have e2 := sealI_eq2 (a := a) (n := n) (m := m) (by omega) (by omega) (by omega) (by omega)
                refine cw_region ?_
                refine wl_op rfl rfl (ow_vr (vr_move (v := str _) rfl) ?_)
                refine wl_op rfl rfl (ow_vr (vr_move (v := .int .i64 _) rfl) ?_)
                refine wl_op rfl rfl (ow_fn (vs := [str _, .int .i64 _]) en_38 rfl hS (seal_Seal a n (by omega)) ?_)
                clear hS; rintro _ _ w ⟨rfl, rfl⟩ hS; (try simp only [List.cons_append, List.nil_append] at hS)
                refine wl_op rfl rfl (ow_vr (vr_move (v := str _) rfl) ?_)
                refine wl_op rfl rfl (ow_vr (vr_move (v := .int .i64 _) rfl) ?_)
                refine wl_op rfl rfl (ow_fn (vs := [str _, .int .i64 _]) en_38 rfl hS (seal_Seal b n (by omega)) ?_)
                clear hS; rintro _ _ w ⟨rfl, rfl⟩ hS; (try simp only [List.cons_append, List.nil_append] at hS)
                refine wl_op rfl rfl (ow_vr (vr_eql_s rfl rfl) ?_)
                refine wl_op rfl rfl (ow_vr (vr_move (v := str _) rfl) ?_)
                refine wl_op rfl rfl (ow_vr (vr_move (v := str _) rfl) ?_)
                refine wl_op rfl rfl (ow_vr (vr_eql_s rfl rfl) ?_)
                refine wl_op rfl rfl (ow_vr (vr_eqlb Try.underlying4 rfl rfl) ?_)
                refine wl_op rfl rfl (ow_vr (vr_move (v := .bool _) rfl) ?_)
                refine wl_known 57 rfl (c := true) (by simp [e1]) ?_
                refine wl_yes rfl rfl rfl rfl rfl (ow_vr (vr_move (v := str _) rfl) ?_)
                refine wl_yes rfl rfl rfl rfl rfl (ow_vr (vr_move (v := .int .i64 _) rfl) ?_)
                refine wl_yes rfl rfl rfl rfl rfl (ow_fn (vs := [str _, .int .i64 _]) en_38 rfl hS (seal_Seal a n (by omega)) ?_)
                clear hS; rintro _ _ w ⟨rfl, rfl⟩ hS; (try simp only [List.cons_append, List.nil_append] at hS)
                refine wl_yes rfl rfl rfl rfl rfl (ow_vr (vr_move (v := str _) rfl) ?_)
                refine wl_yes rfl rfl rfl rfl rfl (ow_vr (vr_move (v := .int .i64 _) rfl) ?_)
                refine wl_yes rfl rfl rfl rfl rfl (ow_fn (vs := [str _, .int .i64 _]) en_38 rfl hS (seal_Seal a m (by omega)) ?_)
                clear hS; rintro _ _ w ⟨rfl, rfl⟩ hS; (try simp only [List.cons_append, List.nil_append] at hS)
                refine wl_yes rfl rfl rfl rfl rfl (ow_vr (vr_eql_s rfl rfl) ?_)
                refine wl_yes rfl rfl rfl rfl rfl (ow_vr (vr_move (v := .int .i64 _) rfl) ?_)
                refine wl_yes rfl rfl rfl rfl rfl (ow_vr (vr_move (v := .int .i64 _) rfl) ?_)
                refine wl_yes rfl rfl rfl rfl rfl (ow_vr (vr_eql rfl rfl) ?_)
                refine wl_yes rfl rfl rfl rfl rfl (ow_vr (vr_eqlb Try.underlying4 rfl rfl) ?_)
                refine wl_op rfl rfl (ow_vr (vr_pick (b := true) rfl rfl) ?_)
                refine wl_op rfl rfl (ow_vr (vr_assign (v := .bool _) rfl) ?_)
                refine wl_nil ?_
                refine hK11 _ _ ?_
                refine cw_ret ?_
                refine ret_one (fn := Try.f11) (n := 70) (t := 8) (.inl rfl) rfl rfl ?_
                first | exact ⟨rfl, hS⟩ | exact ⟨congrArg Value.bool (by simp [e2]), hS⟩
theorem set_same {l : List UInt8} {k : Nat} {x : UInt8} (h : l[k]? = some x) : l.set k x = l := by
  apply List.ext_getElem?
  intro i
  rw [List.getElem?_set]
  split
  · rename_i e; subst e; rw [h, if_pos (lt_get h)]
  · rfl
theorem xor_ne {x b : UInt8} (h : x = x ^^^ b) : b.toNat = 0 := by
  have h1 : x ^^^ x = x ^^^ (x ^^^ b) := congrArg (x ^^^ ·) h
  rw [← UInt8.xor_assoc, UInt8.xor_self, UInt8.zero_xor] at h1
  rw [← h1]; rfl
theorem seal_turned (b : List UInt8) (n at_ : Int) (by_ : UInt8) (hb : b.length ≤ 9223372036854775807) (hn : inI64 n) (ha : inI64 at_) : FnV Try.prog 8 [str b, .int .i64 n, .int .i64 at_, .int .u8 (by_.toNat : Int)] (.bool true) := by
  refine FnV.mk fun E F w hS => ?_
  refine returns_enter Try.func8 rfl Try.ntmps8 rfl ?_
  refine cw_seq fun K1 hK1 => ?_
  refine cw_region ?_
  refine wl_op rfl rfl (ow_vr (vr_assign rfl) ?_)
  refine wl_nil ?_
  refine hK1 _ _ ?_
  refine cw_seq fun K2 hK2 => ?_
  refine cw_seq fun K3 hK3 => ?_
  refine cw_region ?_
  refine wl_op rfl rfl (ow_vr (vr_move (v := str _) rfl) ?_)
  refine wl_op rfl rfl (ow_vr (vr_len_s Try.underlying9 rfl) ?_)
  refine wl_op rfl rfl (ow_vr (vr_gtr rfl rfl) ?_)
  refine wl_op rfl rfl (ow_vr (vr_move (v := .bool _) rfl) ?_)
  refine wl_split 18 rfl (fun hc => ?_) (fun hc => ?_)
  · (try simp only [decide_eq_true_eq, decide_eq_false_iff_not, Bool.not_eq_true, Bool.not_eq_false, Bool.not_eq_true', Bool.not_eq_false', Bool.and_eq_true, Bool.or_eq_true, Bool.and_eq_false_iff, Bool.or_eq_false_iff, Int.not_lt, Int.not_le, gt_iff_lt, ge_iff_le, ne_eq, Decidable.not_not, beq_iff_eq] at hc)
    have hg18 := hc; clear hc
    refine wl_no rfl rfl rfl rfl rfl rfl ?_
    refine wl_no rfl rfl rfl rfl rfl rfl ?_
    refine wl_no rfl rfl rfl rfl rfl rfl ?_
    refine wl_no rfl rfl rfl rfl rfl rfl ?_
    refine wl_no rfl rfl rfl rfl rfl rfl ?_
    refine wl_op rfl rfl (ow_vr (vr_pick (b := true) rfl rfl) ?_)
    refine wl_op rfl rfl (ow_vr (vr_move (v := .bool _) rfl) ?_)
    refine wl_no rfl rfl rfl rfl rfl rfl ?_
    refine wl_no rfl rfl rfl rfl rfl rfl ?_
    refine wl_op rfl rfl (ow_vr (vr_pick (b := true) rfl rfl) ?_)
    refine wl_op rfl rfl (ow_vr (vr_move (v := .bool _) rfl) ?_)
    refine wl_no rfl rfl rfl rfl rfl rfl ?_
    refine wl_no rfl rfl rfl rfl rfl rfl ?_
    refine wl_op rfl rfl (ow_vr (vr_pick (b := true) rfl rfl) ?_)
    refine wl_op rfl rfl (ow_vr (vr_move (v := .bool _) rfl) ?_)
    refine wl_no rfl rfl rfl rfl rfl rfl ?_
    refine wl_no rfl rfl rfl rfl rfl rfl ?_
    refine wl_op rfl rfl (ow_vr (vr_pick (b := true) rfl rfl) ?_)
    refine wl_nil ?_
    refine hK3 _ _ ?_
    refine cw_cond_t rfl rfl (rfl) ?_
    refine cw_seq fun K4 hK4 => ?_
    refine cw_region ?_
    refine wl_op rfl rfl (ow_fn (vs := []) en_35 rfl hS (alive3) ?_)
    clear hS; rintro _ _ w ⟨rfl, rfl⟩ hS; (try simp only [List.cons_append, List.nil_append] at hS)
    refine wl_op rfl rfl (ow_vr (vr_assign (v := .bool _) rfl) ?_)
    refine wl_nil ?_
    refine hK4 _ _ ?_
    refine cw_ret ?_
    refine thenF_ret (?_)
    refine ret_one (fn := Try.f8) (n := 84) (t := 8) (.inl rfl) rfl rfl ?_
    first | exact ⟨congrArg Value.bool hok, hS.tail1⟩ | exact ⟨rfl, hS⟩
  · (try simp only [decide_eq_true_eq, decide_eq_false_iff_not, Bool.not_eq_true, Bool.not_eq_false, Bool.not_eq_true', Bool.not_eq_false', Bool.and_eq_true, Bool.or_eq_true, Bool.and_eq_false_iff, Bool.or_eq_false_iff, Int.not_lt, Int.not_le, gt_iff_lt, ge_iff_le, ne_eq, Decidable.not_not, beq_iff_eq] at hc)
    have hg18 := hc; clear hc
    refine wl_yes rfl rfl rfl rfl rfl (ow_vr (vr_move (v := .int .i64 _) rfl) ?_)
    refine wl_yes rfl rfl rfl rfl rfl (ow_vr (vr_move (v := str _) rfl) ?_)
    refine wl_yes rfl rfl rfl rfl rfl (ow_vr (vr_len_s Try.underlying9 rfl) ?_)
    refine wl_yes rfl rfl rfl rfl rfl (ow_vr (vr_addi rfl rfl (by unfold inI64; omega)) ?_)
    refine wl_yes rfl rfl rfl rfl rfl (ow_vr (vr_lss rfl rfl) ?_)
    refine wl_op rfl rfl (ow_vr (vr_pick (b := false) rfl rfl) ?_)
    refine wl_op rfl rfl (ow_vr (vr_move (v := .bool _) rfl) ?_)
    refine wl_split 25 rfl (fun hc => ?_) (fun hc => ?_)
    · (try simp only [decide_eq_true_eq, decide_eq_false_iff_not, Bool.not_eq_true, Bool.not_eq_false, Bool.not_eq_true', Bool.not_eq_false', Bool.and_eq_true, Bool.or_eq_true, Bool.and_eq_false_iff, Bool.or_eq_false_iff, Int.not_lt, Int.not_le, gt_iff_lt, ge_iff_le, ne_eq, Decidable.not_not, beq_iff_eq] at hc)
      have hg25 := hc; clear hc
      refine wl_no rfl rfl rfl rfl rfl rfl ?_
      refine wl_no rfl rfl rfl rfl rfl rfl ?_
      refine wl_op rfl rfl (ow_vr (vr_pick (b := true) rfl rfl) ?_)
      refine wl_op rfl rfl (ow_vr (vr_move (v := .bool _) rfl) ?_)
      refine wl_no rfl rfl rfl rfl rfl rfl ?_
      refine wl_no rfl rfl rfl rfl rfl rfl ?_
      refine wl_op rfl rfl (ow_vr (vr_pick (b := true) rfl rfl) ?_)
      refine wl_op rfl rfl (ow_vr (vr_move (v := .bool _) rfl) ?_)
      refine wl_no rfl rfl rfl rfl rfl rfl ?_
      refine wl_no rfl rfl rfl rfl rfl rfl ?_
      refine wl_op rfl rfl (ow_vr (vr_pick (b := true) rfl rfl) ?_)
      refine wl_nil ?_
      refine hK3 _ _ ?_
      refine cw_cond_t rfl rfl (rfl) ?_
      refine cw_seq fun K5 hK5 => ?_
      refine cw_region ?_
      refine wl_op rfl rfl (ow_fn (vs := []) en_35 rfl hS (alive3) ?_)
      clear hS; rintro _ _ w ⟨rfl, rfl⟩ hS; (try simp only [List.cons_append, List.nil_append] at hS)
      refine wl_op rfl rfl (ow_vr (vr_assign (v := .bool _) rfl) ?_)
      refine wl_nil ?_
      refine hK5 _ _ ?_
      refine cw_ret ?_
      refine thenF_ret (?_)
      refine ret_one (fn := Try.f8) (n := 84) (t := 8) (.inl rfl) rfl rfl ?_
      first | exact ⟨congrArg Value.bool hok, hS.tail1⟩ | exact ⟨rfl, hS⟩
    · (try simp only [decide_eq_true_eq, decide_eq_false_iff_not, Bool.not_eq_true, Bool.not_eq_false, Bool.not_eq_true', Bool.not_eq_false', Bool.and_eq_true, Bool.or_eq_true, Bool.and_eq_false_iff, Bool.or_eq_false_iff, Int.not_lt, Int.not_le, gt_iff_lt, ge_iff_le, ne_eq, Decidable.not_not, beq_iff_eq] at hc)
      have hg25 := hc; clear hc
      refine wl_yes rfl rfl rfl rfl rfl (ow_vr (vr_move (v := .int .i64 _) rfl) ?_)
      refine wl_yes rfl rfl rfl rfl rfl (ow_vr (vr_gtr rfl rfl) ?_)
      refine wl_op rfl rfl (ow_vr (vr_pick (b := false) rfl rfl) ?_)
      refine wl_op rfl rfl (ow_vr (vr_move (v := .bool _) rfl) ?_)
      refine wl_split 29 rfl (fun hc => ?_) (fun hc => ?_)
      · (try simp only [decide_eq_true_eq, decide_eq_false_iff_not, Bool.not_eq_true, Bool.not_eq_false, Bool.not_eq_true', Bool.not_eq_false', Bool.and_eq_true, Bool.or_eq_true, Bool.and_eq_false_iff, Bool.or_eq_false_iff, Int.not_lt, Int.not_le, gt_iff_lt, ge_iff_le, ne_eq, Decidable.not_not, beq_iff_eq] at hc)
        have hg29 := hc; clear hc
        refine wl_no rfl rfl rfl rfl rfl rfl ?_
        refine wl_no rfl rfl rfl rfl rfl rfl ?_
        refine wl_op rfl rfl (ow_vr (vr_pick (b := true) rfl rfl) ?_)
        refine wl_op rfl rfl (ow_vr (vr_move (v := .bool _) rfl) ?_)
        refine wl_no rfl rfl rfl rfl rfl rfl ?_
        refine wl_no rfl rfl rfl rfl rfl rfl ?_
        refine wl_op rfl rfl (ow_vr (vr_pick (b := true) rfl rfl) ?_)
        refine wl_nil ?_
        refine hK3 _ _ ?_
        refine cw_cond_t rfl rfl (rfl) ?_
        refine cw_seq fun K6 hK6 => ?_
        refine cw_region ?_
        refine wl_op rfl rfl (ow_fn (vs := []) en_35 rfl hS (alive3) ?_)
        clear hS; rintro _ _ w ⟨rfl, rfl⟩ hS; (try simp only [List.cons_append, List.nil_append] at hS)
        refine wl_op rfl rfl (ow_vr (vr_assign (v := .bool _) rfl) ?_)
        refine wl_nil ?_
        refine hK6 _ _ ?_
        refine cw_ret ?_
        refine thenF_ret (?_)
        refine ret_one (fn := Try.f8) (n := 84) (t := 8) (.inl rfl) rfl rfl ?_
        first | exact ⟨congrArg Value.bool hok, hS.tail1⟩ | exact ⟨rfl, hS⟩
      · (try simp only [decide_eq_true_eq, decide_eq_false_iff_not, Bool.not_eq_true, Bool.not_eq_false, Bool.not_eq_true', Bool.not_eq_false', Bool.and_eq_true, Bool.or_eq_true, Bool.and_eq_false_iff, Bool.or_eq_false_iff, Int.not_lt, Int.not_le, gt_iff_lt, ge_iff_le, ne_eq, Decidable.not_not, beq_iff_eq] at hc)
        have hg29 := hc; clear hc
        refine wl_yes rfl rfl rfl rfl rfl (ow_vr (vr_move (v := .int .u8 _) rfl) ?_)
        refine wl_yes rfl rfl rfl rfl rfl (ow_vr (vr_eql rfl rfl) ?_)
        refine wl_op rfl rfl (ow_vr (vr_pick (b := false) rfl rfl) ?_)
        refine wl_op rfl rfl (ow_vr (vr_move (v := .bool _) rfl) ?_)
        refine wl_split 33 rfl (fun hc => ?_) (fun hc => ?_)
        · (try simp only [decide_eq_true_eq, decide_eq_false_iff_not, Bool.not_eq_true, Bool.not_eq_false, Bool.not_eq_true', Bool.not_eq_false', Bool.and_eq_true, Bool.or_eq_true, Bool.and_eq_false_iff, Bool.or_eq_false_iff, Int.not_lt, Int.not_le, gt_iff_lt, ge_iff_le, ne_eq, Decidable.not_not, beq_iff_eq] at hc)
          have hg33 := hc; clear hc
          refine wl_no rfl rfl rfl rfl rfl rfl ?_
          refine wl_no rfl rfl rfl rfl rfl rfl ?_
          refine wl_op rfl rfl (ow_vr (vr_pick (b := true) rfl rfl) ?_)
          refine wl_nil ?_
          refine hK3 _ _ ?_
          refine cw_cond_t rfl rfl (rfl) ?_
          refine cw_seq fun K7 hK7 => ?_
          refine cw_region ?_
          refine wl_op rfl rfl (ow_fn (vs := []) en_35 rfl hS (alive3) ?_)
          clear hS; rintro _ _ w ⟨rfl, rfl⟩ hS; (try simp only [List.cons_append, List.nil_append] at hS)
          refine wl_op rfl rfl (ow_vr (vr_assign (v := .bool _) rfl) ?_)
          refine wl_nil ?_
          refine hK7 _ _ ?_
          refine cw_ret ?_
          refine thenF_ret (?_)
          refine ret_one (fn := Try.f8) (n := 84) (t := 8) (.inl rfl) rfl rfl ?_
          first | exact ⟨congrArg Value.bool hok, hS.tail1⟩ | exact ⟨rfl, hS⟩
        · (try simp only [decide_eq_true_eq, decide_eq_false_iff_not, Bool.not_eq_true, Bool.not_eq_false, Bool.not_eq_true', Bool.not_eq_false', Bool.and_eq_true, Bool.or_eq_true, Bool.and_eq_false_iff, Bool.or_eq_false_iff, Int.not_lt, Int.not_le, gt_iff_lt, ge_iff_le, ne_eq, Decidable.not_not, beq_iff_eq] at hc)
          have hg33 := hc; clear hc
          refine wl_yes rfl rfl rfl rfl rfl (ow_fn (vs := []) en_35 rfl hS (alive3) ?_)
          clear hS; rintro _ _ w ⟨rfl, rfl⟩ hS; (try simp only [List.cons_append, List.nil_append] at hS)
          refine wl_yes rfl rfl rfl rfl rfl (ow_vr (vr_not rfl) ?_)
          refine wl_op rfl rfl (ow_vr (vr_pick (b := false) rfl rfl) ?_)
          refine wl_nil ?_
          refine hK3 _ _ ?_
          refine cw_cond rfl rfl (fun hc => ?_) (fun hc => ?_)
          · (try simp only [decide_eq_true_eq, decide_eq_false_iff_not, Bool.not_eq_true, Bool.not_eq_false, Bool.not_eq_true', Bool.not_eq_false', Bool.and_eq_true, Bool.or_eq_true, Bool.and_eq_false_iff, Bool.or_eq_false_iff, Int.not_lt, Int.not_le, gt_iff_lt, ge_iff_le, ne_eq, Decidable.not_not, beq_iff_eq] at hc)
            have hc0 := hc; clear hc
            refine cw_seq fun K8 hK8 => ?_
            refine cw_region ?_
            refine wl_op rfl rfl (ow_fn (vs := []) en_35 rfl hS (alive3) ?_)
            clear hS; rintro _ _ w ⟨rfl, rfl⟩ hS; (try simp only [List.cons_append, List.nil_append] at hS)
            refine wl_op rfl rfl (ow_vr (vr_assign (v := .bool _) rfl) ?_)
            refine wl_nil ?_
            refine hK8 _ _ ?_
            refine cw_ret ?_
            refine thenF_ret (?_)
            refine ret_one (fn := Try.f8) (n := 84) (t := 8) (.inl rfl) rfl rfl ?_
            first | exact ⟨congrArg Value.bool hok, hS.tail1⟩ | exact ⟨rfl, hS⟩
          · (try simp only [decide_eq_true_eq, decide_eq_false_iff_not, Bool.not_eq_true, Bool.not_eq_false, Bool.not_eq_true', Bool.not_eq_false', Bool.and_eq_true, Bool.or_eq_true, Bool.and_eq_false_iff, Bool.or_eq_false_iff, Int.not_lt, Int.not_le, gt_iff_lt, ge_iff_le, ne_eq, Decidable.not_not, beq_iff_eq] at hc)
            have hc0 := hc; clear hc
            refine cw_skip ?_
            refine hK2 _ _ ?_
            refine cw_seq fun K9 hK9 => ?_
            have hbn : (b.length : Int) + 4 ≤ n := by omega
            have hn2 : n ≤ 200 := by omega
            have he := sealI_ok (l := b) (n := n) hbn hn2
            have hl := sealI_length (l := b) (n := n) hbn hn2
            have ht1 := Int.tmod_lt_of_pos at_ (show 0 < n by omega)
            have ht2 := Int.lt_tmod_of_pos at_ (show 0 < n by omega)
            have ht3 := Int.tmod_lt_of_pos (at_.tmod n + n) (show 0 < n by omega)
            have ht4 := Int.tmod_nonneg n (show 0 ≤ at_.tmod n + n by omega)
            obtain ⟨k, hk⟩ : ∃ k : Nat, (at_.tmod n + n).tmod n = (k : Int) := ⟨((at_.tmod n + n).tmod n).toNat, by omega⟩
            obtain ⟨x, hx⟩ := get_lt (xs := sealI b n) (k := k) (by omega)
            have hx0 : by_.toNat ≠ 0 := by omega
            have hbl := padB_length b (n - 4 - (b.length : Int)).toNat
            refine cw_region ?_
            refine wl_op rfl rfl (ow_vr (vr_move (v := str _) rfl) ?_)
            refine wl_op rfl rfl (ow_vr (vr_move (v := .int .i64 _) rfl) ?_)
            refine wl_op rfl rfl (ow_fn (vs := [str _, .int .i64 _]) en_38 rfl hS (seal_Seal b n (by omega)) ?_)
            clear hS; rintro _ _ w ⟨rfl, rfl⟩ hS; (try simp only [List.cons_append, List.nil_append] at hS)
            refine wl_op rfl rfl (ow_strBytes (xs := _) hS Try.underlying9 Try.underlying50 Try.underlying5 rfl ?_)
            clear hS; intro v41 D41 w ho41 hS
            refine wl_op rfl rfl (ow_vr (vr_assign (v := v41) rfl) ?_)
            refine wl_nil ?_
            refine hK9 _ _ ?_
            refine cw_seq fun K10 hK10 => ?_
            refine cw_seq fun K11 hK11 => ?_
            refine cw_region ?_
            refine wl_op rfl rfl (ow_vr (vr_move (v := v41) rfl) ?_)
            first | (refine wl_op rfl rfl (ow_vr (vr_len_sl Try.underlying50 rfl) ?_)) | (refine wl_op rfl rfl (ow_vr (vr_len_v (v := v41) Try.underlying50 rfl (by first | assumption | (refine Own.view ?_ (by assumption); exact fun _ => rfl) | exact OwnB.view (by assumption))) ?_))
            refine wl_op rfl rfl (ow_vr (vr_move (v := .int .i64 _) rfl) ?_)
            refine wl_op rfl rfl (ow_vr (vr_neq rfl rfl) ?_)
            refine wl_nil ?_
            refine hK11 _ _ ?_
            refine cw_cond_f rfl rfl (by simp; omega) ?_
            refine cw_skip ?_
            refine hK10 _ _ ?_
            refine cw_seq fun K12 hK12 => ?_
            refine cw_region ?_
            refine wl_op rfl rfl (ow_vr (vr_move (v := .int .i64 _) rfl) ?_)
            refine wl_op rfl rfl (ow_vr (vr_move (v := .int .i64 _) rfl) ?_)
            refine wl_op rfl rfl (ow_vr (vr_remt rfl rfl (by omega)) ?_)
            refine wl_op rfl rfl (ow_vr (vr_move (v := .int .i64 _) rfl) ?_)
            first | (refine wl_op rfl rfl (ow_vr (vr_addi rfl rfl (by unfold inI64; omega)) ?_)) | (refine wl_op rfl rfl (ow_vr (vr_add rfl rfl) ?_))
            refine wl_op rfl rfl (ow_vr (vr_move (v := .int .i64 _) rfl) ?_)
            refine wl_op rfl rfl (ow_vr (vr_as (vr_remt rfl rfl (by omega)) (congrArg (Value.int .i64) hk)) ?_)
            refine wl_op rfl rfl (ow_vr (vr_assign (v := .int .i64 _) rfl) ?_)
            refine wl_nil ?_
            refine hK12 _ _ ?_
            refine cw_seq fun K13 hK13 => ?_
            refine cw_region ?_
            refine wl_op rfl rfl (ow_vr (vr_move (v := v41) rfl) ?_)
            refine wl_op rfl rfl (ow_vr (vr_move (v := .int .i64 _) rfl) ?_)
            first | (refine wl_op rfl rfl (ow_vr (vr_indexAddr Try.underlying50 sz_5 rfl rfl (by omega) (by omega)) ?_)) | (refine wl_op rfl rfl (ow_vr (vr_indexV (v := v41) Try.underlying50 sz_5 rfl (by first | assumption | (refine Own.view ?_ (by assumption); exact fun _ => rfl) | exact OwnB.view (by assumption)) rfl (by omega) (by first | omega | (simp <;> omega))) ?_))
            refine wl_op rfl rfl (ow_lr (S := Sat _ _) (lr_loadV1 (u := .int .u8 _) Try.underlying5 rfl rfl (by first | assumption | (refine Own.view ?_ (by assumption); exact fun _ => rfl) | exact OwnB.view (by assumption)) (by first | exact List.Mem.head _ | exact List.Mem.tail _ (List.Mem.head _) | exact List.Mem.tail _ (List.Mem.tail _ (List.Mem.head _)) | exact List.Mem.tail _ (List.Mem.tail _ (List.Mem.tail _ (List.Mem.head _))) | exact List.Mem.tail _ (List.Mem.tail _ (List.Mem.tail _ (List.Mem.tail _ (List.Mem.head _)))) | exact List.Mem.tail _ (List.Mem.tail _ (List.Mem.tail _ (List.Mem.tail _ (List.Mem.tail _ (List.Mem.head _))))) | exact List.Mem.tail _ (List.Mem.tail _ (List.Mem.tail _ (List.Mem.tail _ (List.Mem.tail _ (List.Mem.tail _ (List.Mem.head _)))))) | exact List.Mem.tail _ (List.Mem.tail _ (List.Mem.tail _ (List.Mem.tail _ (List.Mem.tail _ (List.Mem.tail _ (List.Mem.tail _ (List.Mem.head _))))))) | exact List.Mem.tail _ (List.Mem.tail _ (List.Mem.tail _ (List.Mem.tail _ (List.Mem.tail _ (List.Mem.tail _ (List.Mem.tail _ (List.Mem.tail _ (List.Mem.head _)))))))) | exact (by assumption) | exact List.Mem.tail _ ((by assumption)) | exact List.Mem.tail _ (List.Mem.tail _ ((by assumption))) | exact List.Mem.tail _ (List.Mem.tail _ (List.Mem.tail _ ((by assumption)))) | exact List.Mem.tail _ (List.Mem.tail _ (List.Mem.tail _ (List.Mem.tail _ ((by assumption))))) | exact List.Mem.tail _ (List.Mem.tail _ (List.Mem.tail _ (List.Mem.tail _ (List.Mem.tail _ ((by assumption))))))) (hx) (by exact fun _ => rfl) (by rfl)) hS ?_)
            refine wl_op rfl rfl (ow_vr (vr_move (v := .int .u8 _) rfl) ?_)
            refine wl_op rfl rfl (ow_vr (vr_as (v' := .int .u8 ((x ^^^ by_).toNat : Int)) (vr_xor_u8 (a := x.toNat) (b := by_.toNat) rfl rfl (by have := x.toNat_lt; omega) (by have := by_.toNat_lt; omega)) (by rw [UInt8.toNat_xor])) ?_)
            first | (refine wl_op rfl rfl (ow_vr (vr_indexAddr Try.underlying50 sz_5 rfl rfl (by omega) (by omega)) ?_)) | (refine wl_op rfl rfl (ow_vr (vr_indexV (v := v41) Try.underlying50 sz_5 rfl (by first | assumption | (refine Own.view ?_ (by assumption); exact fun _ => rfl) | exact OwnB.view (by assumption)) rfl (by omega) (by first | omega | (simp <;> omega))) ?_))
            refine wl_op rfl rfl (ow_storeB (b' := x ^^^ by_) hS sz_5 rfl rfl (by assumption) (by first | exact HasC.here | exact HasC.there (HasC.here) | exact HasC.there (HasC.there (HasC.here)) | exact HasC.there (HasC.there (HasC.there (HasC.here))) | exact HasC.there (HasC.there (HasC.there (HasC.there (HasC.here)))) | exact HasC.there (HasC.there (HasC.there (HasC.there (HasC.there (HasC.here))))) | exact HasC.there (HasC.there (HasC.there (HasC.there (HasC.there (HasC.there (HasC.here)))))) | exact HasC.there (HasC.there (HasC.there (HasC.there (HasC.there (HasC.there (HasC.there (HasC.here))))))) | exact HasC.there (HasC.there (HasC.there (HasC.there (HasC.there (HasC.there (HasC.there (HasC.there (HasC.here))))))))) (by omega) ?_)
            clear hS; intro D7_7 w ho7_7 hS
            refine wl_nil ?_
            rw [Int.toNat_natCast] at ho7_7
            refine hK13 _ _ ?_
            refine cw_seq fun K14 hK14 => ?_
            refine cw_region ?_
            refine wl_op rfl rfl (ow_vr (vr_move (v := v41) rfl) ?_)
            refine wl_op rfl rfl (ow_lr (S := Sat _ _) (lr_bytes_str Try.underlying50 Try.underlying5 Try.underlying9 rfl (by first | assumption | (refine Own.view ?_ (by assumption); exact fun _ => rfl) | exact OwnB.view (by assumption)) (by first | exact List.Mem.head _ | exact List.Mem.tail _ (List.Mem.head _) | exact List.Mem.tail _ (List.Mem.tail _ (List.Mem.head _)) | exact List.Mem.tail _ (List.Mem.tail _ (List.Mem.tail _ (List.Mem.head _))) | exact List.Mem.tail _ (List.Mem.tail _ (List.Mem.tail _ (List.Mem.tail _ (List.Mem.head _)))) | exact List.Mem.tail _ (List.Mem.tail _ (List.Mem.tail _ (List.Mem.tail _ (List.Mem.tail _ (List.Mem.head _))))) | exact List.Mem.tail _ (List.Mem.tail _ (List.Mem.tail _ (List.Mem.tail _ (List.Mem.tail _ (List.Mem.tail _ (List.Mem.head _)))))) | exact List.Mem.tail _ (List.Mem.tail _ (List.Mem.tail _ (List.Mem.tail _ (List.Mem.tail _ (List.Mem.tail _ (List.Mem.tail _ (List.Mem.head _))))))) | exact List.Mem.tail _ (List.Mem.tail _ (List.Mem.tail _ (List.Mem.tail _ (List.Mem.tail _ (List.Mem.tail _ (List.Mem.tail _ (List.Mem.tail _ (List.Mem.head _)))))))) | exact (by assumption) | exact List.Mem.tail _ ((by assumption)) | exact List.Mem.tail _ (List.Mem.tail _ ((by assumption))) | exact List.Mem.tail _ (List.Mem.tail _ (List.Mem.tail _ ((by assumption)))) | exact List.Mem.tail _ (List.Mem.tail _ (List.Mem.tail _ (List.Mem.tail _ ((by assumption))))) | exact List.Mem.tail _ (List.Mem.tail _ (List.Mem.tail _ (List.Mem.tail _ (List.Mem.tail _ ((by assumption)))))))) hS ?_)
            refine wl_op rfl rfl (ow_fn (vs := [str _]) en_36 rfl hS (seal_Open ((sealI b n).set k (x ^^^ by_)) (by rw [List.length_set]; omega)) ?_)
            clear hS; rintro _ _ w ⟨rfl, rfl⟩ hS; (try simp only [List.cons_append, List.nil_append] at hS)
            refine wl_op rfl rfl (ow_vr (vr_move (v := .tuple _) rfl) ?_)
            refine wl_op rfl rfl (ow_vr (vr_extract rfl rfl) ?_)
            refine wl_op rfl rfl (ow_vr (vr_extract rfl rfl) ?_)
            refine wl_op rfl rfl (ow_vr (vr_assign (v := str _) rfl) ?_)
            refine wl_op rfl rfl (ow_vr (vr_assign (v := .bool _) rfl) ?_)
            refine wl_nil ?_
            refine hK14 _ _ ?_
            refine cw_seq fun K15 hK15 => ?_
            have hx2 : ((sealI b n).set k (x ^^^ by_))[k]? = some (x ^^^ by_) := List.getElem?_set_self (by omega)
            have hlen2 : ((sealI b n).set k (x ^^^ by_)).length = (sealI b n).length := List.length_set
            have hback : ((sealI b n).set k (x ^^^ by_)).set k ((x ^^^ by_) ^^^ by_) = sealI b n := by rw [List.set_set, UInt8.xor_assoc, UInt8.xor_self, UInt8.xor_zero]; exact set_same hx
            refine cw_region ?_
            refine wl_op rfl rfl (ow_vr (vr_move (v := v41) rfl) ?_)
            refine wl_op rfl rfl (ow_vr (vr_move (v := .int .i64 _) rfl) ?_)
            first | (refine wl_op rfl rfl (ow_vr (vr_indexAddr Try.underlying50 sz_5 rfl rfl (by omega) (by omega)) ?_)) | (refine wl_op rfl rfl (ow_vr (vr_indexV (v := v41) Try.underlying50 sz_5 rfl (by first | assumption | (refine Own.view ?_ (by assumption); exact fun _ => rfl) | exact OwnB.view (by assumption)) rfl (by omega) (by first | omega | (simp <;> omega))) ?_))
            refine wl_op rfl rfl (ow_lr (S := Sat _ _) (lr_loadV1 (u := .int .u8 _) Try.underlying5 rfl rfl (by first | assumption | (refine Own.view ?_ (by assumption); exact fun _ => rfl) | exact OwnB.view (by assumption)) (by first | exact List.Mem.head _ | exact List.Mem.tail _ (List.Mem.head _) | exact List.Mem.tail _ (List.Mem.tail _ (List.Mem.head _)) | exact List.Mem.tail _ (List.Mem.tail _ (List.Mem.tail _ (List.Mem.head _))) | exact List.Mem.tail _ (List.Mem.tail _ (List.Mem.tail _ (List.Mem.tail _ (List.Mem.head _)))) | exact List.Mem.tail _ (List.Mem.tail _ (List.Mem.tail _ (List.Mem.tail _ (List.Mem.tail _ (List.Mem.head _))))) | exact List.Mem.tail _ (List.Mem.tail _ (List.Mem.tail _ (List.Mem.tail _ (List.Mem.tail _ (List.Mem.tail _ (List.Mem.head _)))))) | exact List.Mem.tail _ (List.Mem.tail _ (List.Mem.tail _ (List.Mem.tail _ (List.Mem.tail _ (List.Mem.tail _ (List.Mem.tail _ (List.Mem.head _))))))) | exact List.Mem.tail _ (List.Mem.tail _ (List.Mem.tail _ (List.Mem.tail _ (List.Mem.tail _ (List.Mem.tail _ (List.Mem.tail _ (List.Mem.tail _ (List.Mem.head _)))))))) | exact (by assumption) | exact List.Mem.tail _ ((by assumption)) | exact List.Mem.tail _ (List.Mem.tail _ ((by assumption))) | exact List.Mem.tail _ (List.Mem.tail _ (List.Mem.tail _ ((by assumption)))) | exact List.Mem.tail _ (List.Mem.tail _ (List.Mem.tail _ (List.Mem.tail _ ((by assumption))))) | exact List.Mem.tail _ (List.Mem.tail _ (List.Mem.tail _ (List.Mem.tail _ (List.Mem.tail _ ((by assumption))))))) (hx2) (by exact fun _ => rfl) (by rfl)) hS ?_)
            refine wl_op rfl rfl (ow_vr (vr_move (v := .int .u8 _) rfl) ?_)
            refine wl_op rfl rfl (ow_vr (vr_as (v' := .int .u8 (((x ^^^ by_) ^^^ by_).toNat : Int)) (vr_xor_u8 (a := (x ^^^ by_).toNat) (b := by_.toNat) rfl rfl (by have := (x ^^^ by_).toNat_lt; omega) (by have := by_.toNat_lt; omega)) (by rw [UInt8.toNat_xor (x ^^^ by_) by_])) ?_)
            first | (refine wl_op rfl rfl (ow_vr (vr_indexAddr Try.underlying50 sz_5 rfl rfl (by omega) (by omega)) ?_)) | (refine wl_op rfl rfl (ow_vr (vr_indexV (v := v41) Try.underlying50 sz_5 rfl (by first | assumption | (refine Own.view ?_ (by assumption); exact fun _ => rfl) | exact OwnB.view (by assumption)) rfl (by omega) (by first | omega | (simp <;> omega))) ?_))
            refine wl_op rfl rfl (ow_storeB (b' := (x ^^^ by_) ^^^ by_) hS sz_5 rfl rfl (by assumption) (by first | exact HasC.here | exact HasC.there (HasC.here) | exact HasC.there (HasC.there (HasC.here)) | exact HasC.there (HasC.there (HasC.there (HasC.here))) | exact HasC.there (HasC.there (HasC.there (HasC.there (HasC.here)))) | exact HasC.there (HasC.there (HasC.there (HasC.there (HasC.there (HasC.here))))) | exact HasC.there (HasC.there (HasC.there (HasC.there (HasC.there (HasC.there (HasC.here)))))) | exact HasC.there (HasC.there (HasC.there (HasC.there (HasC.there (HasC.there (HasC.there (HasC.here))))))) | exact HasC.there (HasC.there (HasC.there (HasC.there (HasC.there (HasC.there (HasC.there (HasC.there (HasC.here))))))))) (by omega) ?_)
            clear hS; intro D9_7 w ho9_7 hS
            refine wl_nil ?_
            rw [Int.toNat_natCast, hback] at ho9_7
            refine hK15 _ _ ?_
            refine cw_seq fun K16 hK16 => ?_
            refine cw_region ?_
            refine wl_op rfl rfl (ow_vr (vr_move (v := v41) rfl) ?_)
            refine wl_op rfl rfl (ow_lr (S := Sat _ _) (lr_bytes_str Try.underlying50 Try.underlying5 Try.underlying9 rfl (by first | assumption | (refine Own.view ?_ (by assumption); exact fun _ => rfl) | exact OwnB.view (by assumption)) (by first | exact List.Mem.head _ | exact List.Mem.tail _ (List.Mem.head _) | exact List.Mem.tail _ (List.Mem.tail _ (List.Mem.head _)) | exact List.Mem.tail _ (List.Mem.tail _ (List.Mem.tail _ (List.Mem.head _))) | exact List.Mem.tail _ (List.Mem.tail _ (List.Mem.tail _ (List.Mem.tail _ (List.Mem.head _)))) | exact List.Mem.tail _ (List.Mem.tail _ (List.Mem.tail _ (List.Mem.tail _ (List.Mem.tail _ (List.Mem.head _))))) | exact List.Mem.tail _ (List.Mem.tail _ (List.Mem.tail _ (List.Mem.tail _ (List.Mem.tail _ (List.Mem.tail _ (List.Mem.head _)))))) | exact List.Mem.tail _ (List.Mem.tail _ (List.Mem.tail _ (List.Mem.tail _ (List.Mem.tail _ (List.Mem.tail _ (List.Mem.tail _ (List.Mem.head _))))))) | exact List.Mem.tail _ (List.Mem.tail _ (List.Mem.tail _ (List.Mem.tail _ (List.Mem.tail _ (List.Mem.tail _ (List.Mem.tail _ (List.Mem.tail _ (List.Mem.head _)))))))) | exact (by assumption) | exact List.Mem.tail _ ((by assumption)) | exact List.Mem.tail _ (List.Mem.tail _ ((by assumption))) | exact List.Mem.tail _ (List.Mem.tail _ (List.Mem.tail _ ((by assumption)))) | exact List.Mem.tail _ (List.Mem.tail _ (List.Mem.tail _ (List.Mem.tail _ ((by assumption))))) | exact List.Mem.tail _ (List.Mem.tail _ (List.Mem.tail _ (List.Mem.tail _ (List.Mem.tail _ ((by assumption)))))))) hS ?_)
            refine wl_op rfl rfl (ow_fn (vs := [str _]) en_36 rfl hS (seal_Open (sealI b n) (by omega)) ?_)
            clear hS; rintro _ _ w ⟨rfl, rfl⟩ hS; (try simp only [List.cons_append, List.nil_append] at hS)
            refine wl_op rfl rfl (ow_vr (vr_move (v := .tuple _) rfl) ?_)
            refine wl_op rfl rfl (ow_vr (vr_extract rfl rfl) ?_)
            refine wl_op rfl rfl (ow_vr (vr_extract rfl rfl) ?_)
            refine wl_op rfl rfl (ow_vr (vr_assign (v := str _) rfl) ?_)
            refine wl_op rfl rfl (ow_vr (vr_assign (v := .bool _) rfl) ?_)
            refine wl_nil ?_
            refine hK16 _ _ ?_
            refine cw_seq fun K17 hK17 => ?_
            have hok : openOk (sealI b n) = true := by rw [he, open_sealed]
            have hno : openOk ((sealI b n).set k (x ^^^ by_)) = false := by rw [he]; exact open_turned _ _ _ (by omega) (by rw [← he, hx]; intro e; exact hx0 (xor_ne (Option.some.inj e)))
            refine cw_region ?_
            refine wl_op rfl rfl (ow_vr (vr_move (v := .bool _) rfl) ?_)
            refine wl_op rfl rfl (ow_vr (vr_not rfl) ?_)
            refine wl_op rfl rfl (ow_vr (vr_move (v := .bool _) rfl) ?_)
            refine wl_known 81 rfl (c := true) (by simp [hno]) ?_
            refine wl_yes rfl rfl rfl rfl rfl (ow_vr (vr_move (v := .bool _) rfl) ?_)
            refine wl_op rfl rfl (ow_vr (vr_pick (b := true) rfl rfl) ?_)
            refine wl_op rfl rfl (ow_vr (vr_assign (v := .bool _) rfl) ?_)
            refine wl_nil ?_
            refine hK17 _ _ ?_
            refine cw_ret ?_
            refine ret_one (fn := Try.f8) (n := 84) (t := 8) (.inl rfl) rfl rfl ?_
            first | exact ⟨congrArg Value.bool hok, hS.tail1⟩ | exact ⟨rfl, hS⟩
end Go.Proofs.Ytfekgjdahckdhaa
