/- What the condition on the listed variable gives a walk; a world that meets it. -/
import Derived.Test.YtjcagoighpmdkaaGreatDoorRow
import Derived.Test.YtjcagoighpmdkaaGreatDoorTie
import Derived.Test.YtjcagoighpmdkaaGreatDoorCards
import Derived.Test.YtjcagoighpmdkaaGreatDoorErrAs
import Derived.LaidLaws
import Derived.LaidHandle
import Derived.Stop.Joined
import Derived.ChangeSame
import Derived.ChangeVars
import Derived.JoinedOf
import Derived.SevenTiedAt
namespace Go.Proofs.YtjcagoighpmdkaaGreatDoor
open Go Go.ChangeShapes Go.WideShapes Go.RowKit
set_option linter.unusedVariables false
abbrev laidL {H : Type} : List (String × DataW H) := [("errors.errorType", Rows.laid_errors_errorType)]
theorem laidEt : Tryz.prog.globalNamed "errors.errorType" = some 0 := by kernel_rfl
theorem laidRt : (Tryz.prog.cutTypes.find? (·.1 == "internal/reflectlite.rtype")).map (·.2) = some 168 := by kernel_rfl
theorem laidRow : ((List.range 209).filter fun t => Tryz.prog.rowNamed t [101, 114, 114, 111, 114]) = [67] := by kernel_rfl
theorem laidSize : Tryz.prog.types.size = 209 := by kernel_rfl
theorem handle_of_laid {W : World} (h : laidMetH Tryz.prog laidL W) : W.cell? ⟨0, 0, none⟩ = some handleE := by
  have h' : laidMet Tryz.prog [] W ∧ handlesMet Tryz.prog laidL W := h
  obtain ⟨name, u, ty, e1, e2, e3, e4, e5⟩ := h'.2 _ (List.mem_singleton.2 rfl)
  have en : name = [101, 114, 114, 111, 114] := (Option.some.inj e1).symm
  subst en
  obtain rfl := Option.some.inj (laidRt.symm.trans e2)
  have hm : ty ∈ (List.range 209).filter fun t => Tryz.prog.rowNamed t [101, 114, 114, 111, 114] := List.mem_filter.2 ⟨List.mem_range.2 (by rw [← laidSize]; exact e3), e4⟩
  rw [laidRow] at hm
  obtain rfl := List.mem_singleton.1 hm
  have hh : typeHandle Tryz.prog 67 = .pointer (some ⟨2, 67, none⟩) := by kernel_rfl
  rw [hh] at e5
  simpa using World.var?_cell laidEt e5 0
theorem glob_of_laid {W : World} (h : laidMetH Tryz.prog laidL W) : Glob (Sat.all W) := by
  have hc := handle_of_laid h
  unfold World.cell? at hc
  split at hc
  · rename_i cs T fr hg
    split at hc
    · cases hc
    · exact ⟨cs.toList, T, fr, Sat.mem_all.2 (by simpa using hg), by simpa using hc⟩
  · cases hc
noncomputable def laidWorld (os : Os) : World :=
  let w0 := World.holding Tryz.prog os ⟨#[], #[], []⟩
  { w0 with heap := w0.heap.modify 0 fun
      | .cells _ t frozen => .cells #[handleE] t frozen
      | o => o }
theorem laidWorld_met (os : Os) (args : Array Value) : laidMetH Tryz.prog laidL ((laidWorld os).forCall (fun _ _ => 0) ⟨#[], args, []⟩).memory :=
  laidMetH_of_parts (laidMet_nil _ _) (by kernel_rfl)
end Go.Proofs.YtjcagoighpmdkaaGreatDoor
