/- Plain laws on sums, numbers as bytes, what is sealed. -/
import Derived.Test.YtjcagoighpmdkaaGreatDoorSeal
namespace Go.Proofs.YtjcagoighpmdkaaGreatDoor
open Go Go.RowKit
set_option linter.unusedVariables false
set_option linter.unusedSimpArgs false
/-! sums -/
theorem xor_inj {s t b : Nat} (h : s ^^^ b = t ^^^ b) : s = t := by
  have := congrArg (· ^^^ b) h
  simpa [Nat.xor_assoc] using this
theorem mul_inj_gen {x y P Q M k : Nat} (h1 : P * Q = 1 + k * M) (h : x * P % M = y * P % M) : x % M = y % M := by
  have e : ∀ z, z * P * Q % M = z % M := fun z => by rw [Nat.mul_assoc, h1, Nat.mul_add, Nat.mul_one, ← Nat.mul_assoc, Nat.add_mul_mod_self_right]
  rw [← e x, ← e y, Nat.mul_mod (x * P), Nat.mul_mod (y * P), h]
theorem mul_inj {x y : Nat} (hx : x < 4294967296) (hy : y < 4294967296) (h : x * 16777619 % 4294967296 = y * 16777619 % 4294967296) : x = y := by
  have := mul_inj_gen (Q := 899433627) (k := 3513497) (by decide) h
  rwa [Nat.mod_eq_of_lt hx, Nat.mod_eq_of_lt hy] at this
theorem sumS_inj {s t : Nat} {b : UInt8} (hs : s < 4294967296) (ht : t < 4294967296) (h : sumS s b = sumS t b) : s = t := by
  have hb : b.toNat < 2 ^ 32 := by have := b.toNat_lt; omega
  refine xor_inj (mul_inj ?_ ?_ h)
  · exact Nat.xor_lt_two_pow (n := 32) (by omega) hb
  · exact Nat.xor_lt_two_pow (n := 32) (by omega) hb
theorem sumS_inj2 {s : Nat} {b c : UInt8} (hs : s < 4294967296) (h : sumS s b = sumS s c) : b = c := by
  have hb : b.toNat < 2 ^ 32 := by have := b.toNat_lt; omega
  have hc : c.toNat < 2 ^ 32 := by have := c.toNat_lt; omega
  have := mul_inj (Nat.xor_lt_two_pow (n := 32) (by omega) hb) (Nat.xor_lt_two_pow (n := 32) (by omega) hc) h
  rw [Nat.xor_comm s, Nat.xor_comm s] at this
  exact UInt8.toNat_inj.1 (xor_inj this)
theorem sumF_lt {s : Nat} (hs : s < 4294967296) (l : List UInt8) : sumF sumS s l < 4294967296 := by
  rcases List.eq_nil_or_concat l with rfl | ⟨t, b, rfl⟩
  · exact hs
  · rw [List.concat_eq_append, sumF_snoc]; exact sumS_lt _ _
theorem sumF_inj : ∀ (l : List UInt8) {s t : Nat}, s < 4294967296 → t < 4294967296 → sumF sumS s l = sumF sumS t l → s = t
  | [], _, _, _, _, h => h
  | b :: l, s, t, hs, ht, h => sumS_inj hs ht (sumF_inj l (sumS_lt _ _) (sumS_lt _ _) h)
theorem sumF_set : ∀ (l : List UInt8) (k : Nat) (b : UInt8) {s : Nat}, s < 4294967296 → k < l.length → sumF sumS s (l.set k b) = sumF sumS s l → l[k]? = some b
  | c :: l, 0, b, s, hs, _, h => by
    have := sumF_inj l (sumS_lt s b) (sumS_lt s c) h
    rw [sumS_inj2 hs this]; rfl
  | c :: l, k + 1, b, s, hs, hk, h => by
    rw [List.getElem?_cons_succ]
    exact sumF_set l k b (sumS_lt s c) (by simpa using hk) h
theorem sumB_set {l : List UInt8} {k : Nat} {b : UInt8} (hk : k < l.length) (h : sumB (l.set k b) = sumB l) : l[k]? = some b := sumF_set l k b (by omega) hk h
/-! numbers as bytes -/
theorem putB_succ (v n : Nat) : putB v (n + 1) = UInt8.ofNat v :: putB (v / 256) n := by
  unfold putB
  rw [List.range_succ_eq_map, List.map_cons, List.map_map, Nat.pow_zero, Nat.div_one]
  congr 1
  apply List.map_congr_left
  intro i _
  simp only [Function.comp]
  rw [Nat.div_div_eq_div_mul, Nat.pow_succ, Nat.mul_comm]
theorem num_put : ∀ (n v : Nat), v < 256 ^ n → num (putB v n) = v
  | 0, v, h => by
    have : v = 0 := by rw [Nat.pow_zero] at h; omega
    subst this; rfl
  | n + 1, v, h => by
    rw [putB_succ, num_cons, num_put n (v / 256) (by rw [Nat.pow_succ] at h; exact Nat.div_lt_of_lt_mul (by rw [Nat.mul_comm]; exact h)), UInt8.toNat_ofNat']
    omega
theorem num_inj : ∀ (l m : List UInt8), l.length = m.length → num l = num m → l = m
  | [], [], _, _ => rfl
  | b :: l, c :: m, h, e => by
    rw [num_cons, num_cons] at e
    have hb := b.toNat_lt
    have hc := c.toNat_lt
    rw [num_inj l m (by simpa using h) (by omega), UInt8.toNat_inj.1 (show b.toNat = c.toNat by omega)]
theorem putB_take (v : Nat) : ∀ (n m : Nat), m ≤ n → (putB v n).take m = putB v m := by
  intro n m h
  unfold putB
  rw [← List.map_take, List.take_range, Nat.min_eq_left h]
/-! sealed -/
theorem sealed_length (t : List UInt8) : (sealedB t).length = t.length + 4 := by rw [sealedB, List.length_append, putB_length]
theorem body_sealed (t : List UInt8) : bodyB (sealedB t) = t := by
  rw [bodyB, sealed_length, Nat.add_sub_cancel, sealedB, List.take_left]
theorem tail_sealed (t : List UInt8) : tailB (sealedB t) = putB (sumB t) 4 := by
  rw [tailB, sealed_length, Nat.add_sub_cancel, sealedB, List.drop_left]
theorem open_sealed (t : List UInt8) : openOk (sealedB t) = true := by
  rw [openOk, decide_eq_true_eq, sealed_length, body_sealed, tail_sealed, num_put 4 _ (sumB_lt t)]
  exact ⟨by omega, rfl⟩
theorem openL_sealed (t : List UInt8) : openL (sealedB t) = t := by rw [openL, open_sealed, if_pos rfl, body_sealed]
/-- One byte turned: it is not opened. -/
theorem open_turned (t : List UInt8) (k : Nat) (b : UInt8) (hk : k < t.length + 4) (hb : (sealedB t)[k]? ≠ some b) : openOk ((sealedB t).set k b) = false := by
  rw [openOk, decide_eq_false_iff_not]
  rintro ⟨-, h⟩
  have hl := sealed_length t
  apply hb
  rcases Nat.lt_or_ge k t.length with h1 | h1
  · have e1 : bodyB ((sealedB t).set k b) = t.set k b := by
      rw [bodyB, List.length_set, hl, Nat.add_sub_cancel, sealedB, List.set_append_left _ _ h1, List.take_left' (by rw [List.length_set])]
    have e2 : tailB ((sealedB t).set k b) = putB (sumB t) 4 := by
      rw [tailB, List.length_set, hl, Nat.add_sub_cancel, sealedB, List.set_append_left _ _ h1, List.drop_left' (by rw [List.length_set])]
    rw [e1, e2, num_put 4 _ (sumB_lt t)] at h
    rw [sealedB, List.getElem?_append_left h1]
    exact sumB_set h1 h.symm
  · have e1 : bodyB ((sealedB t).set k b) = t := by
      rw [bodyB, List.length_set, hl, Nat.add_sub_cancel, sealedB, List.set_append_right _ _ h1, List.take_left]
    have e2 : tailB ((sealedB t).set k b) = (putB (sumB t) 4).set (k - t.length) b := by
      rw [tailB, List.length_set, hl, Nat.add_sub_cancel, sealedB, List.set_append_right _ _ h1, List.drop_left]
    rw [e1, e2] at h
    have := num_inj _ _ (by rw [List.length_set]) (h.trans (num_put 4 _ (sumB_lt t)).symm)
    rw [sealedB, List.getElem?_append_right h1]
    rw [← this] 
    rw [List.getElem?_set_self (by rw [putB_length]; omega)]
theorem sealI_ok {l : List UInt8} {n : Int} (h1 : (l.length : Int) + 4 ≤ n) (h2 : n ≤ 200) : sealI l n = sealedB (padB l (n - 4 - (l.length : Int)).toNat) := by
  rw [sealI, if_neg (by omega)]
theorem sealI_length {l : List UInt8} {n : Int} (h1 : (l.length : Int) + 4 ≤ n) (h2 : n ≤ 200) : ((sealI l n).length : Int) = n := by
  rw [sealI_ok h1 h2, sealed_length, padB_length]; omega
theorem sealI_eq {a b : List UInt8} {n : Int} (h : a.length = b.length) (h1 : (a.length : Int) + 4 ≤ n) (h2 : n ≤ 200) : sealI a n = sealI b n ↔ a = b := by
  constructor
  · intro he
    rw [sealI_ok h1 h2, sealI_ok (by omega) h2] at he
    have h3 := congrArg bodyB he
    rw [body_sealed, body_sealed, padB, padB] at h3
    exact List.append_inj_left h3 h
  · intro e; rw [e]
theorem sealI_eq2 {a : List UInt8} {n m : Int} (h1 : (a.length : Int) + 4 ≤ n) (h2 : n ≤ 200) (h3 : (a.length : Int) + 4 ≤ m) (h4 : m ≤ 200) : sealI a n = sealI a m ↔ n = m := by
  constructor
  · intro he
    have h5 := sealI_length h1 h2
    have h6 := sealI_length h3 h4
    rw [he] at h5; omega
  · intro e; rw [e]
theorem set_same {l : List UInt8} {k : Nat} {x : UInt8} (h : l[k]? = some x) : l.set k x = l := by
  apply List.ext_getElem?
  intro i
  rw [List.getElem?_set]
  split
  · rename_i e; subst e; rw [h, if_pos (lt_get h)]
  · rfl
theorem xor_ne {x b : UInt8} (h : x = x ^^^ b) : b.toNat = 0 := by
  have h1 : x ^^^ x = x ^^^ (x ^^^ b) := congrArg (x ^^^ ·) h
  rw [← UInt8.xor_assoc, UInt8.xor_self, UInt8.zero_xor] at h1
  rw [← h1]; rfl
theorem putI_length (v n : Int) : (putI v n).length ≤ 8 := by
  rw [putI]; split
  · simp
  · rw [putB_length]; omega
def cutB (l : List UInt8) (a h : Nat) : List UInt8 := (l.take h).drop a
theorem cut_body {b : List UInt8} (hb : b.length = 32) {a h : Nat} (hh : h ≤ 28) : cutB (bodyB b) a h = cutB b a h := by
  rw [cutB, cutB, bodyB, List.take_take, hb, Nat.min_eq_left (by omega)]
theorem cutB_mid {l a b c : List UInt8} {i h : Nat} (hl : l = a ++ (b ++ c)) (hi : a.length = i) (hh : a.length + b.length = h) : cutB l i h = b := by
  subst hl hi hh
  rw [cutB, ← List.append_assoc, List.take_left' (by rw [List.length_append]), List.drop_left]
theorem get_put {v : Int} {n : Nat} (h0 : 0 ≤ v) (h1 : v.toNat < 256 ^ n) (hn : n ≤ 7) : (getB (putB v.toNat n) : Int) = v := by
  rw [getB, List.take_of_length_le (by rw [putB_length]; omega), num_put n _ h1]; omega
def foldP (c : List UInt8) (l : List Int) : List UInt8 := l.foldl (fun b v => b ++ putI v 4) c
theorem foldP_snoc (c : List UInt8) (l : List Int) (x : Int) : foldP c (l ++ [x]) = foldP c l ++ putI x 4 := by simp only [foldP, List.foldl_append, List.foldl_cons, List.foldl_nil]
theorem foldP_length (c : List UInt8) : ∀ l : List Int, (foldP c l).length ≤ c.length + 8 * l.length := by
  intro l
  induction l generalizing c with
  | nil => simp [foldP]
  | cons x l ih =>
    have h1 := putI_length x 4
    have h2 := ih (c ++ putI x 4)
    rw [List.length_append] at h2
    rw [List.length_cons]
    show (foldP (c ++ putI x 4) l).length ≤ _
    omega
end Go.Proofs.YtjcagoighpmdkaaGreatDoor
