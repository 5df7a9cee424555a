/- Pairs of ints. -/
import Derived.Test.YtjcagoighpmdkaaGreatDoorArgs
import Derived.Test.YtjcagoighpmdkaaGreatDoorEntry
namespace Go.Proofs.YtjcagoighpmdkaaGreatDoor
open Go Go.RowKit Go.ChangeShapes Go.WideShapes Go.ChangeAt Go.Deep
set_option linter.unusedVariables false
section
variable {P : Program} {W : World} {base : Nat} {H : Type} {enc' : TypeId × Value → H} {spare : Nat → Bool} {held : Bool}
/-- Pairs of ints. -/
theorem el_pair {e : TypeId} {fs : Array Field} {fuel : Nat} {cs : List Value} {x : DataW H × List MemPlace} (hs : P.underlying e = some (.struct fs)) (hi : intFields P fs = true) (hc : P.cellsOf e = fs.size) (h2 : fs.size = 2)
    (h : DataW.trod enc' P W base spare held fuel e cs = some x) : ∃ y : Int × Int, cs = encC y ∧ inI64 y.1 ∧ inI64 y.2 := by
  obtain ⟨ns, rfl, hl, hb⟩ := trod_ints hs hi hc h
  obtain ⟨a, b, rfl⟩ := list2 (hl.trans h2)
  exact ⟨(a, b), rfl, hb a (by simp), hb b (by simp)⟩
end
end Go.Proofs.YtjcagoighpmdkaaGreatDoor
