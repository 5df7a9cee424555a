/- The laws of chapter 6: groups cut anywhere. -/
import Derived.Test.YtjcagoighpmdkaaGreatDoorBook
import Derived.Test.YtjcagoighpmdkaaGreatDoorAlive6
import Derived.Test.YtjcagoighpmdkaaGreatDoorArgsC
namespace Go.Proofs.YtjcagoighpmdkaaGreatDoor
open Go Go.RowKit
set_option linter.unusedVariables false
set_option linter.unusedSimpArgs false
attribute [local irreducible] actF WL CW OW PL SW VR LR yes Returns Fn
/-! groups one behind the other -/
abbrev Ch := Int × Int
abbrev VL := Value × List Ch
def sumL (ls : List VL) : Nat := (ls.map fun x => x.2.length + 1).sum
theorem sumL_snoc (ls : List VL) (x : VL) : sumL (ls ++ [x]) = sumL ls + (x.2.length + 1) := by simp [sumL]
def allE : Nat → List VL → List Entr
  | _, [] => []
  | s, x :: ls => groupL (s : Int) 1 x.2 ++ allE (s + (x.2.length + 1)) ls
theorem allE_length : ∀ (ls : List VL) (s : Nat), (allE s ls).length = sumL ls
  | [], _ => rfl
  | x :: ls, s => by rw [allE, List.length_append, groupL_length, allE_length ls]; simp [sumL]
theorem allE_snoc (x : VL) : ∀ (ls : List VL) (s : Nat), allE s (ls ++ [x]) = allE s ls ++ groupL ((s + sumL ls : Nat) : Int) 1 x.2
  | [], s => by simp [allE, sumL]
  | y :: ls, s => by
    rw [List.cons_append, allE, allE_snoc x ls, allE, List.append_assoc]
    congr 3
    simp [sumL]; omega
def endsE (ls : List VL) : List Int := (List.range ls.length).map fun i => (sumL (ls.take (i + 1)) : Int)
theorem endsE_snoc (ls : List VL) (x : VL) : endsE (ls ++ [x]) = endsE ls ++ [(sumL (ls ++ [x]) : Int)] := by
  unfold endsE
  rw [List.length_append, List.length_singleton, List.range_succ, List.map_append, List.map_singleton]
  congr 1
  · apply List.map_congr_left
    intro i hi
    have : i < ls.length := by simpa using hi
    rw [List.take_append_of_le_length (by omega)]
  · rw [show ls.length + 1 = (ls ++ [x]).length by simp, List.take_length]
theorem endsE_get (ls : List VL) {i : Nat} (h : i < ls.length) : (endsE ls)[i]? = some (sumL (ls.take (i + 1)) : Int) := by simp [endsE, h]
def wantE (K : Nat) : Nat → List VL → List Ch
  | _, [] => []
  | s, x :: ls => (if s + (x.2.length + 1) ≤ K then x.2 else []) ++ wantE K (s + (x.2.length + 1)) ls
def endE (K : Nat) : Nat → Int → List VL → Int
  | _, e, [] => e
  | s, e, x :: ls => endE K (s + (x.2.length + 1)) (if s + (x.2.length + 1) ≤ K then ((s + (x.2.length + 1) : Nat) : Int) else e) ls
theorem wantE_past {K : Nat} : ∀ (ls : List VL) (s : Nat), K < s → wantE K s ls = []
  | [], _, _ => rfl
  | x :: ls, s, h => by rw [wantE, if_neg (by omega), wantE_past ls _ (by omega)]; rfl
theorem endE_past {K : Nat} : ∀ (ls : List VL) (s : Nat) (e : Int), K < s → endE K s e ls = e
  | [], _, _, _ => rfl
  | x :: ls, s, e, h => by rw [endE, if_neg (by omega), endE_past ls _ _ (by omega)]
/-- Changes alone are put by. -/
theorem go_chE (ep : Int) : ∀ (l : List Ch) (lsn : Int) (i : Nat) (out grp : List Ch) (n : Int) (rest : List Entr), changesGo (chE ep lsn l ++ rest) i out grp n = changesGo rest (i + l.length) out (grp ++ l) n
  | [], lsn, i, out, grp, n, rest => by simp [chE]
  | c :: l, lsn, i, out, grp, n, rest => by
    rw [chE, List.cons_append, changesGo, if_pos rfl, go_chE ep l]
    simp only [List.length_cons, List.append_assoc, List.singleton_append]
    rw [show i + 1 + l.length = i + (l.length + 1) by omega]
theorem go_chE_take (ep : Int) : ∀ (l : List Ch) (lsn : Int) (j i : Nat) (out grp : List Ch) (n : Int), changesGo ((chE ep lsn l).take j) i out grp n = (out, n)
  | [], lsn, j, i, out, grp, n => by simp [chE, changesGo]
  | c :: l, lsn, 0, i, out, grp, n => by simp [changesGo]
  | c :: l, lsn, j + 1, i, out, grp, n => by rw [chE, List.take_succ_cons, changesGo, if_pos rfl, go_chE_take ep l]
/-- The law: groups cut anywhere. -/
theorem groups_cut (K : Nat) : ∀ (ls : List VL) (s : Nat) (out : List Ch) (n : Int), changesGo ((allE s ls).take (K - s)) s out [] n = (out ++ wantE K s ls, endE K s n ls)
  | [], s, out, n => by simp [allE, changesGo, wantE, endE]
  | x :: ls, s, out, n => by
    have hl := groupL_length (s : Int) 1 x.2
    rw [allE, wantE, endE]
    by_cases h : s + (x.2.length + 1) ≤ K
    · rw [if_pos h, if_pos h, List.take_append, hl, List.take_of_length_le (by rw [hl]; omega), groupL, List.append_assoc, go_chE, List.singleton_append, changesGo, if_neg (show ¬ (2 : Int) = 1 by decide), if_pos ⟨rfl, by simp⟩,
        show K - s - (x.2.length + 1) = K - (s + (x.2.length + 1)) by omega, show s + x.2.length + 1 = s + (x.2.length + 1) by omega, groups_cut K ls]
      simp [Nat.add_assoc, Int.add_assoc]
    · rw [if_neg h, if_neg h, wantE_past _ _ (by omega), endE_past _ _ _ (by omega), List.take_append_of_le_length (by rw [hl]; omega), groupL, List.take_append_of_le_length (by rw [chE_length]; omega), go_chE_take]
      simp
theorem tmod_bd (a : Int) {n : Int} (h : 0 < n) : -n < a.tmod n ∧ a.tmod n < n := by
  have h1 := Int.tmod_lt_of_pos a h
  have h2 := Int.lt_tmod_of_pos a h
  omega
end Go.Proofs.YtjcagoighpmdkaaGreatDoor
