/- Chapter 6's first call. -/
import Derived.Test.YtjcagoighpmdkaaGreatDoorEntry
namespace Go.Proofs.YtjcagoighpmdkaaGreatDoor
open Go Go.RowKit
set_option linter.unusedVariables false
set_option linter.unusedSimpArgs false
attribute [local irreducible] actF WL CW OW PL SW VR LR yes Returns Fn
theorem alive6_group (v : Value) (Δ : Chunk) (hv : View 2 encC v [(1, 7), (2, 8)] Δ) :
    FnG Tryz.prog 25 [.int .i64 5, .int .i64 2, v] [Δ] (fun u Δs => ∃ v' D, u = .tuple #[v', .bool true] ∧ Δs = [D] ∧ Own 74 5 encE v' [⟨1, 5, 2, 1, 7⟩, ⟨1, 6, 2, 2, 8⟩, ⟨2, 7, 2, 2, 0⟩] D) := by
  have h := entry_Group 5 2 [(1, 7), (2, 8)] v Δ hv (by simp) (by omega) (by omega)
  rw [show groupL 5 2 [(1, 7), (2, 8)] = [⟨1, 5, 2, 1, 7⟩, ⟨1, 6, 2, 2, 8⟩, ⟨2, 7, 2, 2, 0⟩] from rfl, show List.all _ rightE = true from by decide] at h
  exact h
end Go.Proofs.YtjcagoighpmdkaaGreatDoor
