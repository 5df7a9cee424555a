/-
  NARROWER THAN 'FOR EVERY INPUT', by the rows' own cells (each row's printed sentence says how): LoopMay: laid · LoopElder: laid · LoopAround: laid · LoopCuts: laid.
  DERIVED. THE GIVEN ROWS OF THIS SEAT. 4 by the template 'for every input the law returns true; each argument reads behind the call as it read before'; 0 by the template 'total and deterministic' (their statements: YtjcagoighpmdkaaDoorTotals.lean).
  GIVEN WITH THE SEED: the statements are not yours to turn. If you find one false, say at which input.
  Laid BY PROGRAM, IN A SANDBOX (cutbox-rows.mjs): the forced cells as the released guide's own fill.sh prints them over the translation de31d5cb1862d28b… (all of the seat's roots in one cut). By AI agents, Wed Nov 11 2026. No macro, syntax, notation, axiom, sorry.
-/
import Derived.Test.YtjcagoighpmdkaaDoorChecked
import GoSem.Claim
import GoSem.ClaimJoined
import GoSem.ClaimMapViews
import Derived.JoinedTies
import Derived.KernelRfl
namespace Go.Proofs.YtjcagoighpmdkaaDoor
/- THE CELL 'sum', in the pinned program and in every row, IS THE sha256 OF THE DUMP (.gsa) THAT YtjcagoighpmdkaaDoorProg.lean LOADS. Nothing in Lean hashes anything: it is a label: what it is worth is what the hold of that sum in a sandbox is worth. -/
noncomputable def Tryd.pinned : Pinned := { name := "ytjcagoighpmdkaadoor", sum := "de31d5cb1862d28bac46dacbd92c1232c2434c3b465bffada5030fe882ef1a50", checked := Tryd.checked }
namespace Rows
def none {H : Type} : Left H := { results := [], args := [] }

/- WHAT THE LISTED PACKAGE-LEVEL VARIABLES READ AS WHEN THE CALL BEGINS. Each datum BY PROGRAM (the guide's laid-datum.mjs) off the statement by which the dump's own 'gosem.cut.vars' lays the variable. In a bare row this is a premise. The card (YtjcagoighpmdkaaDoorCards.lean) ties it to the program's text. -/
def laid_errors_errorType {H : Type} : DataW H := .iface "internal/reflectlite.rtype" (.agg [.ptr (.lit (.string [101, 114, 114, 111, 114]))])

/-- 'flittinglaw7.LoopMay': WHATEVER THE INPUT: true; the input reads as it did. -/
def loopMaySpec : ChangeSpec := { name := "loopMay", fn := fun _ => fun
  | [d1, d2, d3, d4, d5, d6] => { results := [.lit (.bool true)], args := [d1, d2, d3, d4, d5, d6] }
  | _ => none }
def loopMayRow : OpenClaim := { program := "ytjcagoighpmdkaadoor", sum := "de31d5cb1862d28bac46dacbd92c1232c2434c3b465bffada5030fe882ef1a50", func := "flitting/flittinglaw7.LoopMay", spec := "loopMay", inPlace := ["internal/abi.NoEscape", "internal/bytealg.MakeNoZero", "internal/reflectlite.ValueOf", "(internal/reflectlite.Value).Type", "(internal/reflectlite.Value).IsNil", "internal/reflectlite.TypeOf", "(internal/reflectlite.Value).Elem", "(internal/reflectlite.Value).Set"], unfollowed := true, recurses := true, named := ["errors.errorType"], apart := false, laid := [("errors.errorType", laid_errors_errorType)] }
def LoopMaySaid : Prop := loopMayRow.holds Tryd.pinned (OpenSpec.ofChange loopMaySpec)

/-- ITS FALSE NEIGHBOUR: 'it returns false'. Refute it at one input. -/
def loopMayWrong : ChangeSpec := { name := "loopMay", fn := fun _ => fun
  | [d1, d2, d3, d4, d5, d6] => { results := [.lit (.bool false)], args := [d1, d2, d3, d4, d5, d6] }
  | _ => none }
def LoopMayWrongFalsely : Prop := loopMayRow.holds Tryd.pinned (OpenSpec.ofChange loopMayWrong)

/-- 'flittinglaw7.LoopElder': WHATEVER THE INPUT: true; the input reads as it did. -/
def loopElderSpec : ChangeSpec := { name := "loopElder", fn := fun _ => fun
  | [d1, d2, d3] => { results := [.lit (.bool true)], args := [d1, d2, d3] }
  | _ => none }
def loopElderRow : OpenClaim := { program := "ytjcagoighpmdkaadoor", sum := "de31d5cb1862d28bac46dacbd92c1232c2434c3b465bffada5030fe882ef1a50", func := "flitting/flittinglaw7.LoopElder", spec := "loopElder", inPlace := ["internal/abi.NoEscape", "internal/bytealg.MakeNoZero", "internal/reflectlite.ValueOf", "(internal/reflectlite.Value).Type", "(internal/reflectlite.Value).IsNil", "internal/reflectlite.TypeOf", "(internal/reflectlite.Value).Elem", "(internal/reflectlite.Value).Set"], unfollowed := true, recurses := true, named := ["errors.errorType"], apart := false, laid := [("errors.errorType", laid_errors_errorType)] }
def LoopElderSaid : Prop := loopElderRow.holds Tryd.pinned (OpenSpec.ofChange loopElderSpec)

/-- ITS FALSE NEIGHBOUR: 'it returns false'. Refute it at one input. -/
def loopElderWrong : ChangeSpec := { name := "loopElder", fn := fun _ => fun
  | [d1, d2, d3] => { results := [.lit (.bool false)], args := [d1, d2, d3] }
  | _ => none }
def LoopElderWrongFalsely : Prop := loopElderRow.holds Tryd.pinned (OpenSpec.ofChange loopElderWrong)

/-- 'flittinglaw7.LoopAround': WHATEVER THE INPUT: true; the input reads as it did. -/
def loopAroundSpec : ChangeSpec := { name := "loopAround", fn := fun _ => fun
  | [d1, d2, d3] => { results := [.lit (.bool true)], args := [d1, d2, d3] }
  | _ => none }
def loopAroundRow : OpenClaim := { program := "ytjcagoighpmdkaadoor", sum := "de31d5cb1862d28bac46dacbd92c1232c2434c3b465bffada5030fe882ef1a50", func := "flitting/flittinglaw7.LoopAround", spec := "loopAround", inPlace := ["internal/abi.NoEscape", "internal/bytealg.MakeNoZero", "internal/reflectlite.ValueOf", "(internal/reflectlite.Value).Type", "(internal/reflectlite.Value).IsNil", "internal/reflectlite.TypeOf", "(internal/reflectlite.Value).Elem", "(internal/reflectlite.Value).Set"], unfollowed := true, recurses := true, named := ["errors.errorType"], apart := false, laid := [("errors.errorType", laid_errors_errorType)] }
def LoopAroundSaid : Prop := loopAroundRow.holds Tryd.pinned (OpenSpec.ofChange loopAroundSpec)

/-- ITS FALSE NEIGHBOUR: 'it returns false'. Refute it at one input. -/
def loopAroundWrong : ChangeSpec := { name := "loopAround", fn := fun _ => fun
  | [d1, d2, d3] => { results := [.lit (.bool false)], args := [d1, d2, d3] }
  | _ => none }
def LoopAroundWrongFalsely : Prop := loopAroundRow.holds Tryd.pinned (OpenSpec.ofChange loopAroundWrong)

/-- 'flittinglaw7.LoopCuts': WHATEVER THE INPUT: true; the input reads as it did. -/
def loopCutsSpec : ChangeSpec := { name := "loopCuts", fn := fun _ => fun
  | [d1, d2, d3] => { results := [.lit (.bool true)], args := [d1, d2, d3] }
  | _ => none }
def loopCutsRow : OpenClaim := { program := "ytjcagoighpmdkaadoor", sum := "de31d5cb1862d28bac46dacbd92c1232c2434c3b465bffada5030fe882ef1a50", func := "flitting/flittinglaw7.LoopCuts", spec := "loopCuts", inPlace := ["internal/abi.NoEscape", "internal/bytealg.MakeNoZero", "internal/reflectlite.ValueOf", "(internal/reflectlite.Value).Type", "(internal/reflectlite.Value).IsNil", "internal/reflectlite.TypeOf", "(internal/reflectlite.Value).Elem", "(internal/reflectlite.Value).Set"], unfollowed := true, recurses := true, named := ["errors.errorType"], apart := false, laid := [("errors.errorType", laid_errors_errorType)] }
def LoopCutsSaid : Prop := loopCutsRow.holds Tryd.pinned (OpenSpec.ofChange loopCutsSpec)

/-- ITS FALSE NEIGHBOUR: 'it returns false'. Refute it at one input. -/
def loopCutsWrong : ChangeSpec := { name := "loopCuts", fn := fun _ => fun
  | [d1, d2, d3] => { results := [.lit (.bool false)], args := [d1, d2, d3] }
  | _ => none }
def LoopCutsWrongFalsely : Prop := loopCutsRow.holds Tryd.pinned (OpenSpec.ofChange loopCutsWrong)

/- THE SECOND FORM. 'bulk': how many values and letters a reading holds, each counted each time it is reached (what is shared counts as often as it is met; a slice's spare places count too). A statement '..UptoSaid' is the law's where the arguments, and the package variables that the reading takes, are together of bulk at most 1048576: NARROWER than '..Said'. Prove '..Said' where nothing that the law and all that it calls make is longer than what came in: it says more and counts as full. Else prove '..UptoSaid'. A law counts once. -/
mutual
def uptoBulk {H : Type} : DataW H → Nat
  | .lit (.string bytes) => bytes.length + 1
  | .lit _ => 1
  | .nil => 1
  | .ptr d => uptoBulk d + 1
  | .slice elems spare => uptoBulkAll elems + uptoBulkAll spare + 1
  | .agg parts => uptoBulkAll parts + 1
  | .iface _ d => uptoBulk d + 1
  | .map entries => uptoBulkEntries entries + 1
  | .held _ => 1
def uptoBulkAll {H : Type} : List (DataW H) → Nat
  | [] => 0
  | d :: r => uptoBulk d + uptoBulkAll r
def uptoBulkEntries {H : Type} : List (Lit × DataW H) → Nat
  | [] => 0
  | x :: r => uptoBulkEntry x + uptoBulkEntries r
def uptoBulkEntry {H : Type} : Lit × DataW H → Nat
  | (.string bytes, d) => bytes.length + uptoBulk d + 1
  | (_, d) => uptoBulk d + 1
 end
def uptoSmall : (H : Type) → List (DataW H) → Bool := fun _ ds => decide (uptoBulkAll ds ≤ 1048576)
def OpenSpec.upto (s : _root_.Go.ChangeSpec) : _root_.Go.OpenSpec := { _root_.Go.OpenSpec.ofChange s with cond := some uptoSmall }

/-- 'flittinglaw7.LoopMay', WHERE WHAT IT READS IS OF BULK AT MOST 1048576: true; the input reads as it did. -/
def loopMayUptoRow : OpenClaim := { program := "ytjcagoighpmdkaadoor", sum := "de31d5cb1862d28bac46dacbd92c1232c2434c3b465bffada5030fe882ef1a50", func := "flitting/flittinglaw7.LoopMay", spec := "loopMay", inPlace := ["internal/abi.NoEscape", "internal/bytealg.MakeNoZero", "internal/reflectlite.ValueOf", "(internal/reflectlite.Value).Type", "(internal/reflectlite.Value).IsNil", "internal/reflectlite.TypeOf", "(internal/reflectlite.Value).Elem", "(internal/reflectlite.Value).Set"], unfollowed := true, recurses := true, named := ["errors.errorType"], apart := false, laid := [("errors.errorType", laid_errors_errorType)], narrowed := true }
def LoopMayUptoSaid : Prop := loopMayUptoRow.holds Tryd.pinned (OpenSpec.upto loopMaySpec)

/-- 'flittinglaw7.LoopElder', WHERE WHAT IT READS IS OF BULK AT MOST 1048576: true; the input reads as it did. -/
def loopElderUptoRow : OpenClaim := { program := "ytjcagoighpmdkaadoor", sum := "de31d5cb1862d28bac46dacbd92c1232c2434c3b465bffada5030fe882ef1a50", func := "flitting/flittinglaw7.LoopElder", spec := "loopElder", inPlace := ["internal/abi.NoEscape", "internal/bytealg.MakeNoZero", "internal/reflectlite.ValueOf", "(internal/reflectlite.Value).Type", "(internal/reflectlite.Value).IsNil", "internal/reflectlite.TypeOf", "(internal/reflectlite.Value).Elem", "(internal/reflectlite.Value).Set"], unfollowed := true, recurses := true, named := ["errors.errorType"], apart := false, laid := [("errors.errorType", laid_errors_errorType)], narrowed := true }
def LoopElderUptoSaid : Prop := loopElderUptoRow.holds Tryd.pinned (OpenSpec.upto loopElderSpec)

/-- 'flittinglaw7.LoopAround', WHERE WHAT IT READS IS OF BULK AT MOST 1048576: true; the input reads as it did. -/
def loopAroundUptoRow : OpenClaim := { program := "ytjcagoighpmdkaadoor", sum := "de31d5cb1862d28bac46dacbd92c1232c2434c3b465bffada5030fe882ef1a50", func := "flitting/flittinglaw7.LoopAround", spec := "loopAround", inPlace := ["internal/abi.NoEscape", "internal/bytealg.MakeNoZero", "internal/reflectlite.ValueOf", "(internal/reflectlite.Value).Type", "(internal/reflectlite.Value).IsNil", "internal/reflectlite.TypeOf", "(internal/reflectlite.Value).Elem", "(internal/reflectlite.Value).Set"], unfollowed := true, recurses := true, named := ["errors.errorType"], apart := false, laid := [("errors.errorType", laid_errors_errorType)], narrowed := true }
def LoopAroundUptoSaid : Prop := loopAroundUptoRow.holds Tryd.pinned (OpenSpec.upto loopAroundSpec)

/-- 'flittinglaw7.LoopCuts', WHERE WHAT IT READS IS OF BULK AT MOST 1048576: true; the input reads as it did. -/
def loopCutsUptoRow : OpenClaim := { program := "ytjcagoighpmdkaadoor", sum := "de31d5cb1862d28bac46dacbd92c1232c2434c3b465bffada5030fe882ef1a50", func := "flitting/flittinglaw7.LoopCuts", spec := "loopCuts", inPlace := ["internal/abi.NoEscape", "internal/bytealg.MakeNoZero", "internal/reflectlite.ValueOf", "(internal/reflectlite.Value).Type", "(internal/reflectlite.Value).IsNil", "internal/reflectlite.TypeOf", "(internal/reflectlite.Value).Elem", "(internal/reflectlite.Value).Set"], unfollowed := true, recurses := true, named := ["errors.errorType"], apart := false, laid := [("errors.errorType", laid_errors_errorType)], narrowed := true }
def LoopCutsUptoSaid : Prop := loopCutsUptoRow.holds Tryd.pinned (OpenSpec.upto loopCutsSpec)

end Rows
end Go.Proofs.YtjcagoighpmdkaaDoor
