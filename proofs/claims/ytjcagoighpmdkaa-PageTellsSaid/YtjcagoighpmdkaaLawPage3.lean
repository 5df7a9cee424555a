/- PageTorn. -/
import Derived.Test.YtjcagoighpmdkaaLawPage
namespace Go.Proofs.Ytjcagoighpmdkaa
open Go Go.RowKit
set_option linter.unusedVariables false
set_option linter.unusedSimpArgs false
attribute [local irreducible] actF WL CW OW PL SW VR LR yes Returns Fn
/-- Is the k-th one taken? -/
def bitI (mix : Int) (k : Nat) : Bool := decide (andI (mix / 2 ^ k) 1 = 1)
def mixL (mix : Int) (pa pb : List (List UInt8)) : Nat → List (List UInt8)
  | 0 => pa
  | k + 1 => if bitI mix k then (mixL mix pa pb k).set k ((pb[k]?).getD []) else mixL mix pa pb k
def alikeL (mix : Int) (pa pb : List (List UInt8)) : Nat → Bool
  | 0 => true
  | k + 1 => alikeL mix pa pb k && (!bitI mix k || decide (pa[k]? = pb[k]?))
theorem mix_length (mix : Int) (pa pb : List (List UInt8)) : ∀ k, (mixL mix pa pb k).length = pa.length
  | 0 => rfl
  | k + 1 => by rw [mixL]; split <;> simp [mix_length mix pa pb k]
theorem mix_rest (mix : Int) (pa pb : List (List UInt8)) : ∀ k j, k ≤ j → (mixL mix pa pb k)[j]? = pa[j]?
  | 0, _, _ => rfl
  | k + 1, j, h => by
    rw [mixL]; split
    · rw [List.getElem?_set, if_neg (by omega)]; exact mix_rest mix pa pb k j (by omega)
    · exact mix_rest mix pa pb k j (by omega)
theorem mix_alike (mix : Int) (pa pb : List (List UInt8)) (h : pa.length = pb.length) : ∀ k, k ≤ pa.length → alikeL mix pa pb k = true → mixL mix pa pb k = pa
  | 0, _, _ => rfl
  | k + 1, hk, ha => by
    rw [alikeL, Bool.and_eq_true] at ha
    have ih := mix_alike mix pa pb h k (by omega) ha.1
    rw [mixL, ih]
    split
    · rename_i hb
      have h2 : pa[k]? = pb[k]? := by have := ha.2; rw [hb] at this; simpa using this
      obtain ⟨x, hx⟩ := get_lt (xs := pa) (k := k) (by omega)
      rw [← h2, hx]
      apply List.ext_getElem?
      intro i
      rw [List.getElem?_set]
      split
      · rename_i e; subst e; rw [hx, if_pos (by omega)]; rfl
      · rfl
    · rfl
theorem mix_mem (mix : Int) (pa pb : List (List UInt8)) (P : List UInt8 → Prop) (ha : ∀ x ∈ pa, P x) (hb : ∀ x ∈ pb, P x) (hl : pa.length = pb.length) : ∀ k, k ≤ pa.length → ∀ x ∈ mixL mix pa pb k, P x
  | 0, _ => ha
  | k + 1, hk => by
    rw [mixL]; split
    · intro x hx
      rcases List.mem_or_eq_of_mem_set hx with h | h
      · exact mix_mem mix pa pb P ha hb hl k (by omega) x h
      · obtain ⟨y, hy⟩ := get_lt (xs := pb) (k := k) (by omega)
        rw [h, hy]; exact hb y (List.mem_of_getElem? hy)
    · exact mix_mem mix pa pb P ha hb hl k (by omega)
theorem flat_le (l : List (List UInt8)) (h : ∀ x ∈ l, x.length = 32) : l.flatten.length = 32 * l.length := by
  induction l with
  | nil => rfl
  | cons x t ih => rw [List.flatten_cons, List.length_append, h x (by simp), ih (fun y hy => h y (by simp [hy])), List.length_cons]; omega
theorem pages_len {s : List UInt8} (h : s.length = 96) : ∀ x ∈ pagesB s, x.length = 32 := by
  intro x hx
  simp only [pagesB, List.mem_map, List.mem_range] at hx
  obtain ⟨k, hk, rfl⟩ := hx
  exact chunk_length h hk

end Go.Proofs.Ytjcagoighpmdkaa
