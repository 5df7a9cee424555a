/- LoopCuts, LoopAround, LoopElder. -/
import Derived.Test.YtjcagoighpmdkaaGreatDoorLawLoop1
namespace Go.Proofs.YtjcagoighpmdkaaGreatDoor
open Go Go.RowKit
set_option linter.unusedVariables false
set_option linter.unusedSimpArgs false
theorem wfL {f n h x e : Int} (hh : 0 ≤ f ∧ f ≤ 3000 ∧ 1 ≤ n ∧ n ≤ 3000 ∧ 0 ≤ h ∧ h ≤ x ∧ x - h ≤ n ∧ x ≤ 1000000000000) : WfL ⟨f, n, h, x, e⟩ := ⟨hh.1, hh.2.1, hh.2.2.1, hh.2.2.2.1, hh.2.2.2.2.1, hh.2.2.2.2.2.1, hh.2.2.2.2.2.2.1, hh.2.2.2.2.2.2.2⟩
/-- Which groups may be. -/
theorem group_right {lsn ep : Int} {c : List (Int × Int)} (h0 : 0 ≤ lsn) (h1 : lsn + c.length < 4294967296) (h2 : 0 ≤ ep) (h3 : ep < 4294967296) : (groupL lsn ep c).all rightE = true ↔ ∀ x ∈ c, okN x.1 = true ∧ okN x.2 = true := by
  constructor
  · intro h x hx
    obtain ⟨j, hj⟩ := List.getElem?_of_mem hx
    have := List.all_eq_true.1 h _ (List.mem_of_getElem? (groupL_get lsn ep c hj))
    simp [rightE] at this
    exact ⟨this.2.2.1, this.2.2.2⟩
  · intro h
    rw [List.all_eq_true]
    intro e he
    obtain ⟨j, hj⟩ := List.getElem?_of_mem he
    have hl := lt_get hj
    rw [groupL_length] at hl
    rcases Nat.lt_or_ge j c.length with h4 | h4
    · obtain ⟨x, hx⟩ := get_lt h4
      rw [groupL_get lsn ep c hx] at hj
      cases hj
      have := h x (List.mem_of_getElem? hx)
      simp only [rightE, List.all_cons, List.all_nil, this.1, this.2, Bool.and_true]
      simp [okN]; omega
    · obtain rfl : j = c.length := by omega
      rw [groupL_end] at hj
      cases hj
      simp [rightE, okN]; omega
attribute [local irreducible] actF WL CW OW PL SW VR LR yes Returns Fn
theorem cut_to {L : Lp} {e : Int} (h : L.epoch < e) (h2 : e < 1000000000) : cutL L e = (0, { L with head := L.next, epoch := e }) := by rw [cutL, if_neg (by omega)]
def sqL (k : Nat) : List (Int × Int) := (List.range k).map fun (i : Nat) => ((i : Int), (i : Int) * (i : Int))
theorem sqL_length (k : Nat) : (sqL k).length = k := by simp [sqL]
theorem sqL_succ (k : Nat) : sqL (k + 1) = sqL k ++ [((k : Int), (k : Int) * (k : Int))] := by simp [sqL, List.range_succ]
theorem sqL_ok {k : Nat} (hk : k ≤ 30) : ∀ x ∈ sqL k, okN x.1 = true ∧ okN x.2 = true := by
  intro x hx
  simp only [sqL, List.mem_map, List.mem_range] at hx
  obtain ⟨i, hi, rfl⟩ := hx
  have h1 : (i : Int) * (i : Int) ≤ 30 * 30 := Int.mul_le_mul (by omega) (by omega) (by omega) (by omega)
  have h2 : 0 ≤ (i : Int) * (i : Int) := Int.mul_nonneg (by omega) (by omega)
  simp [okN]; omega
end Go.Proofs.YtjcagoighpmdkaaGreatDoor
