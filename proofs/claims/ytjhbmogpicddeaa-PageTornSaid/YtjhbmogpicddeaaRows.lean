/-
  No cell of these rows narrows 'for every input' (looked for: loops, veiled, ifaces, maps, wideKeys, modest, calm, conditions, laid).
  DERIVED. THE GIVEN ROWS OF THIS SEAT. 9 by the template 'for every input the law returns true; each argument reads behind the call as it read before'; 0 by the template 'total and deterministic' (their statements: YtjhbmogpicddeaaTotals.lean).
  GIVEN WITH THE SEED: the statements are not yours to turn. If you find one false, say at which input.
  Laid BY PROGRAM, IN A SANDBOX (cutbox-rows.mjs): the forced cells as the released guide's own fill.sh prints them over the translation 87307d6545dc990a… (all of the seat's roots in one cut). By AI agents, Wed Nov 11 2026. No macro, syntax, notation, axiom, sorry.
-/
import Derived.Test.YtjhbmogpicddeaaChecked
import GoSem.Claim
import GoSem.ClaimJoined
import GoSem.ClaimMapViews
import Derived.JoinedTies
import Derived.KernelRfl
namespace Go.Proofs.Ytjhbmogpicddeaa
/- THE CELL 'sum', in the pinned program and in every row, IS THE sha256 OF THE DUMP (.gsa) THAT YtjhbmogpicddeaaProg.lean LOADS. Nothing in Lean hashes anything: it is a label: what it is worth is what the hold of that sum in a sandbox is worth. -/
noncomputable def Try.pinned : Pinned := { name := "ytjhbmogpicddeaa", sum := "87307d6545dc990af9ce671782556e6b0af380c035f33b501cb373fcd7a34015", checked := Try.checked }
namespace Rows
def none {H : Type} : Left H := { results := [], args := [] }

/-- 'flittinglaw2.SectorOrder': WHATEVER THE INPUT: true; the input reads as it did. -/
def sectorOrderSpec : ChangeSpec := { name := "sectorOrder", fn := fun _ => fun
  | [d1, d2] => { results := [.lit (.bool true)], args := [d1, d2] }
  | _ => none }
def sectorOrderRow : OpenClaim := { program := "ytjhbmogpicddeaa", sum := "87307d6545dc990af9ce671782556e6b0af380c035f33b501cb373fcd7a34015", func := "flitting/flittinglaw2.SectorOrder", spec := "sectorOrder", inPlace := ["internal/abi.NoEscape", "internal/bytealg.MakeNoZero"], apart := false }
def SectorOrderSaid : Prop := sectorOrderRow.holds Try.pinned (OpenSpec.ofChange sectorOrderSpec)

/-- ITS FALSE NEIGHBOUR: 'it returns false'. Refute it at one input. -/
def sectorOrderWrong : ChangeSpec := { name := "sectorOrder", fn := fun _ => fun
  | [d1, d2] => { results := [.lit (.bool false)], args := [d1, d2] }
  | _ => none }
def SectorOrderWrongFalsely : Prop := sectorOrderRow.holds Try.pinned (OpenSpec.ofChange sectorOrderWrong)

/-- 'flittinglaw2.SectorArms': WHATEVER THE INPUT: true; the input reads as it did. -/
def sectorArmsSpec : ChangeSpec := { name := "sectorArms", fn := fun _ => fun
  | [d1, d2, d3] => { results := [.lit (.bool true)], args := [d1, d2, d3] }
  | _ => none }
def sectorArmsRow : OpenClaim := { program := "ytjhbmogpicddeaa", sum := "87307d6545dc990af9ce671782556e6b0af380c035f33b501cb373fcd7a34015", func := "flitting/flittinglaw2.SectorArms", spec := "sectorArms", inPlace := ["internal/abi.NoEscape", "internal/bytealg.MakeNoZero"], apart := false }
def SectorArmsSaid : Prop := sectorArmsRow.holds Try.pinned (OpenSpec.ofChange sectorArmsSpec)

/-- ITS FALSE NEIGHBOUR: 'it returns false'. Refute it at one input. -/
def sectorArmsWrong : ChangeSpec := { name := "sectorArms", fn := fun _ => fun
  | [d1, d2, d3] => { results := [.lit (.bool false)], args := [d1, d2, d3] }
  | _ => none }
def SectorArmsWrongFalsely : Prop := sectorArmsRow.holds Try.pinned (OpenSpec.ofChange sectorArmsWrong)

/-- 'flittinglaw6.EntryTells': WHATEVER THE INPUT: true; the input reads as it did. -/
def entryTellsSpec : ChangeSpec := { name := "entryTells", fn := fun _ => fun
  | [d1, d2, d3, d4, d5, d6] => { results := [.lit (.bool true)], args := [d1, d2, d3, d4, d5, d6] }
  | _ => none }
def entryTellsRow : OpenClaim := { program := "ytjhbmogpicddeaa", sum := "87307d6545dc990af9ce671782556e6b0af380c035f33b501cb373fcd7a34015", func := "flitting/flittinglaw6.EntryTells", spec := "entryTells", inPlace := ["internal/abi.NoEscape", "internal/bytealg.MakeNoZero"], unfollowed := true, recurses := true, apart := false }
def EntryTellsSaid : Prop := entryTellsRow.holds Try.pinned (OpenSpec.ofChange entryTellsSpec)

/-- ITS FALSE NEIGHBOUR: 'it returns false'. Refute it at one input. -/
def entryTellsWrong : ChangeSpec := { name := "entryTells", fn := fun _ => fun
  | [d1, d2, d3, d4, d5, d6] => { results := [.lit (.bool false)], args := [d1, d2, d3, d4, d5, d6] }
  | _ => none }
def EntryTellsWrongFalsely : Prop := entryTellsRow.holds Try.pinned (OpenSpec.ofChange entryTellsWrong)

/-- 'flittinglaw6.EntryTwo': WHATEVER THE INPUT: true; the input reads as it did. -/
def entryTwoSpec : ChangeSpec := { name := "entryTwo", fn := fun _ => fun
  | [d1, d2, d3, d4] => { results := [.lit (.bool true)], args := [d1, d2, d3, d4] }
  | _ => none }
def entryTwoRow : OpenClaim := { program := "ytjhbmogpicddeaa", sum := "87307d6545dc990af9ce671782556e6b0af380c035f33b501cb373fcd7a34015", func := "flitting/flittinglaw6.EntryTwo", spec := "entryTwo", inPlace := ["internal/abi.NoEscape", "internal/bytealg.MakeNoZero"], unfollowed := true, recurses := true, apart := false }
def EntryTwoSaid : Prop := entryTwoRow.holds Try.pinned (OpenSpec.ofChange entryTwoSpec)

/-- ITS FALSE NEIGHBOUR: 'it returns false'. Refute it at one input. -/
def entryTwoWrong : ChangeSpec := { name := "entryTwo", fn := fun _ => fun
  | [d1, d2, d3, d4] => { results := [.lit (.bool false)], args := [d1, d2, d3, d4] }
  | _ => none }
def EntryTwoWrongFalsely : Prop := entryTwoRow.holds Try.pinned (OpenSpec.ofChange entryTwoWrong)

/-- 'flittinglaw4.PageTells': WHATEVER THE INPUT: true; the input reads as it did. -/
def pageTellsSpec : ChangeSpec := { name := "pageTells", fn := fun _ => fun
  | [d1, d2, d3, d4, d5, d6, d7, d8, d9, d10] => { results := [.lit (.bool true)], args := [d1, d2, d3, d4, d5, d6, d7, d8, d9, d10] }
  | _ => none }
def pageTellsRow : OpenClaim := { program := "ytjhbmogpicddeaa", sum := "87307d6545dc990af9ce671782556e6b0af380c035f33b501cb373fcd7a34015", func := "flitting/flittinglaw4.PageTells", spec := "pageTells", inPlace := ["internal/abi.NoEscape", "internal/bytealg.MakeNoZero"], unfollowed := true, recurses := true, apart := false }
def PageTellsSaid : Prop := pageTellsRow.holds Try.pinned (OpenSpec.ofChange pageTellsSpec)

/-- ITS FALSE NEIGHBOUR: 'it returns false'. Refute it at one input. -/
def pageTellsWrong : ChangeSpec := { name := "pageTells", fn := fun _ => fun
  | [d1, d2, d3, d4, d5, d6, d7, d8, d9, d10] => { results := [.lit (.bool false)], args := [d1, d2, d3, d4, d5, d6, d7, d8, d9, d10] }
  | _ => none }
def PageTellsWrongFalsely : Prop := pageTellsRow.holds Try.pinned (OpenSpec.ofChange pageTellsWrong)

/-- 'flittinglaw4.PageTorn': WHATEVER THE INPUT: true; the input reads as it did. -/
def pageTornSpec : ChangeSpec := { name := "pageTorn", fn := fun _ => fun
  | [d1, d2, d3, d4, d5, d6] => { results := [.lit (.bool true)], args := [d1, d2, d3, d4, d5, d6] }
  | _ => none }
def pageTornRow : OpenClaim := { program := "ytjhbmogpicddeaa", sum := "87307d6545dc990af9ce671782556e6b0af380c035f33b501cb373fcd7a34015", func := "flitting/flittinglaw4.PageTorn", spec := "pageTorn", inPlace := ["internal/abi.NoEscape", "internal/bytealg.MakeNoZero"], unfollowed := true, recurses := true, apart := false }
def PageTornSaid : Prop := pageTornRow.holds Try.pinned (OpenSpec.ofChange pageTornSpec)

/-- ITS FALSE NEIGHBOUR: 'it returns false'. Refute it at one input. -/
def pageTornWrong : ChangeSpec := { name := "pageTorn", fn := fun _ => fun
  | [d1, d2, d3, d4, d5, d6] => { results := [.lit (.bool false)], args := [d1, d2, d3, d4, d5, d6] }
  | _ => none }
def PageTornWrongFalsely : Prop := pageTornRow.holds Try.pinned (OpenSpec.ofChange pageTornWrong)

/-- 'flittinglaw4.PageTwo': WHATEVER THE INPUT: true; the input reads as it did. -/
def pageTwoSpec : ChangeSpec := { name := "pageTwo", fn := fun _ => fun
  | [d1, d2, d3, d4, d5, d6] => { results := [.lit (.bool true)], args := [d1, d2, d3, d4, d5, d6] }
  | _ => none }
def pageTwoRow : OpenClaim := { program := "ytjhbmogpicddeaa", sum := "87307d6545dc990af9ce671782556e6b0af380c035f33b501cb373fcd7a34015", func := "flitting/flittinglaw4.PageTwo", spec := "pageTwo", inPlace := ["internal/abi.NoEscape", "internal/bytealg.MakeNoZero"], unfollowed := true, recurses := true, apart := false }
def PageTwoSaid : Prop := pageTwoRow.holds Try.pinned (OpenSpec.ofChange pageTwoSpec)

/-- ITS FALSE NEIGHBOUR: 'it returns false'. Refute it at one input. -/
def pageTwoWrong : ChangeSpec := { name := "pageTwo", fn := fun _ => fun
  | [d1, d2, d3, d4, d5, d6] => { results := [.lit (.bool false)], args := [d1, d2, d3, d4, d5, d6] }
  | _ => none }
def PageTwoWrongFalsely : Prop := pageTwoRow.holds Try.pinned (OpenSpec.ofChange pageTwoWrong)

/-- 'flittinglaw2.SectorLasts': WHATEVER THE INPUT: true; the input reads as it did. -/
def sectorLastsSpec : ChangeSpec := { name := "sectorLasts", fn := fun _ => fun
  | [d1, d2, d3] => { results := [.lit (.bool true)], args := [d1, d2, d3] }
  | _ => none }
def sectorLastsRow : OpenClaim := { program := "ytjhbmogpicddeaa", sum := "87307d6545dc990af9ce671782556e6b0af380c035f33b501cb373fcd7a34015", func := "flitting/flittinglaw2.SectorLasts", spec := "sectorLasts", inPlace := ["internal/abi.NoEscape", "internal/bytealg.MakeNoZero"], apart := false }
def SectorLastsSaid : Prop := sectorLastsRow.holds Try.pinned (OpenSpec.ofChange sectorLastsSpec)

/-- ITS FALSE NEIGHBOUR: 'it returns false'. Refute it at one input. -/
def sectorLastsWrong : ChangeSpec := { name := "sectorLasts", fn := fun _ => fun
  | [d1, d2, d3] => { results := [.lit (.bool false)], args := [d1, d2, d3] }
  | _ => none }
def SectorLastsWrongFalsely : Prop := sectorLastsRow.holds Try.pinned (OpenSpec.ofChange sectorLastsWrong)

/-- 'flittinglaw2.SectorTwins': WHATEVER THE INPUT: true; the input reads as it did. -/
def sectorTwinsSpec : ChangeSpec := { name := "sectorTwins", fn := fun _ => fun
  | [d1, d2, d3, d4] => { results := [.lit (.bool true)], args := [d1, d2, d3, d4] }
  | _ => none }
def sectorTwinsRow : OpenClaim := { program := "ytjhbmogpicddeaa", sum := "87307d6545dc990af9ce671782556e6b0af380c035f33b501cb373fcd7a34015", func := "flitting/flittinglaw2.SectorTwins", spec := "sectorTwins", inPlace := ["internal/abi.NoEscape", "internal/bytealg.MakeNoZero", "maps.clone"], apart := false }
def SectorTwinsSaid : Prop := sectorTwinsRow.holds Try.pinned (OpenSpec.ofChange sectorTwinsSpec)

/-- ITS FALSE NEIGHBOUR: 'it returns false'. Refute it at one input. -/
def sectorTwinsWrong : ChangeSpec := { name := "sectorTwins", fn := fun _ => fun
  | [d1, d2, d3, d4] => { results := [.lit (.bool false)], args := [d1, d2, d3, d4] }
  | _ => none }
def SectorTwinsWrongFalsely : Prop := sectorTwinsRow.holds Try.pinned (OpenSpec.ofChange sectorTwinsWrong)

/- THE SECOND FORM. 'bulk': how many values and letters a reading holds, each counted each time it is reached (what is shared counts as often as it is met; a slice's spare places count too). A statement '..UptoSaid' is the law's where the arguments, and the package variables that the reading takes, are together of bulk at most 1048576: NARROWER than '..Said'. Prove '..Said' where nothing that the law and all that it calls make is longer than what came in: it says more and counts as full. Else prove '..UptoSaid'. A law counts once. -/
mutual
def uptoBulk {H : Type} : DataW H → Nat
  | .lit (.string bytes) => bytes.length + 1
  | .lit _ => 1
  | .nil => 1
  | .ptr d => uptoBulk d + 1
  | .slice elems spare => uptoBulkAll elems + uptoBulkAll spare + 1
  | .agg parts => uptoBulkAll parts + 1
  | .iface _ d => uptoBulk d + 1
  | .map entries => uptoBulkEntries entries + 1
  | .held _ => 1
def uptoBulkAll {H : Type} : List (DataW H) → Nat
  | [] => 0
  | d :: r => uptoBulk d + uptoBulkAll r
def uptoBulkEntries {H : Type} : List (Lit × DataW H) → Nat
  | [] => 0
  | x :: r => uptoBulkEntry x + uptoBulkEntries r
def uptoBulkEntry {H : Type} : Lit × DataW H → Nat
  | (.string bytes, d) => bytes.length + uptoBulk d + 1
  | (_, d) => uptoBulk d + 1
 end
def uptoSmall : (H : Type) → List (DataW H) → Bool := fun _ ds => decide (uptoBulkAll ds ≤ 1048576)
def OpenSpec.upto (s : _root_.Go.ChangeSpec) : _root_.Go.OpenSpec := { _root_.Go.OpenSpec.ofChange s with cond := some uptoSmall }

/-- 'flittinglaw2.SectorOrder', WHERE WHAT IT READS IS OF BULK AT MOST 1048576: true; the input reads as it did. -/
def sectorOrderUptoRow : OpenClaim := { program := "ytjhbmogpicddeaa", sum := "87307d6545dc990af9ce671782556e6b0af380c035f33b501cb373fcd7a34015", func := "flitting/flittinglaw2.SectorOrder", spec := "sectorOrder", inPlace := ["internal/abi.NoEscape", "internal/bytealg.MakeNoZero"], apart := false, narrowed := true }
def SectorOrderUptoSaid : Prop := sectorOrderUptoRow.holds Try.pinned (OpenSpec.upto sectorOrderSpec)

/-- 'flittinglaw2.SectorArms', WHERE WHAT IT READS IS OF BULK AT MOST 1048576: true; the input reads as it did. -/
def sectorArmsUptoRow : OpenClaim := { program := "ytjhbmogpicddeaa", sum := "87307d6545dc990af9ce671782556e6b0af380c035f33b501cb373fcd7a34015", func := "flitting/flittinglaw2.SectorArms", spec := "sectorArms", inPlace := ["internal/abi.NoEscape", "internal/bytealg.MakeNoZero"], apart := false, narrowed := true }
def SectorArmsUptoSaid : Prop := sectorArmsUptoRow.holds Try.pinned (OpenSpec.upto sectorArmsSpec)

/-- 'flittinglaw6.EntryTells', WHERE WHAT IT READS IS OF BULK AT MOST 1048576: true; the input reads as it did. -/
def entryTellsUptoRow : OpenClaim := { program := "ytjhbmogpicddeaa", sum := "87307d6545dc990af9ce671782556e6b0af380c035f33b501cb373fcd7a34015", func := "flitting/flittinglaw6.EntryTells", spec := "entryTells", inPlace := ["internal/abi.NoEscape", "internal/bytealg.MakeNoZero"], unfollowed := true, recurses := true, apart := false, narrowed := true }
def EntryTellsUptoSaid : Prop := entryTellsUptoRow.holds Try.pinned (OpenSpec.upto entryTellsSpec)

/-- 'flittinglaw6.EntryTwo', WHERE WHAT IT READS IS OF BULK AT MOST 1048576: true; the input reads as it did. -/
def entryTwoUptoRow : OpenClaim := { program := "ytjhbmogpicddeaa", sum := "87307d6545dc990af9ce671782556e6b0af380c035f33b501cb373fcd7a34015", func := "flitting/flittinglaw6.EntryTwo", spec := "entryTwo", inPlace := ["internal/abi.NoEscape", "internal/bytealg.MakeNoZero"], unfollowed := true, recurses := true, apart := false, narrowed := true }
def EntryTwoUptoSaid : Prop := entryTwoUptoRow.holds Try.pinned (OpenSpec.upto entryTwoSpec)

/-- 'flittinglaw4.PageTells', WHERE WHAT IT READS IS OF BULK AT MOST 1048576: true; the input reads as it did. -/
def pageTellsUptoRow : OpenClaim := { program := "ytjhbmogpicddeaa", sum := "87307d6545dc990af9ce671782556e6b0af380c035f33b501cb373fcd7a34015", func := "flitting/flittinglaw4.PageTells", spec := "pageTells", inPlace := ["internal/abi.NoEscape", "internal/bytealg.MakeNoZero"], unfollowed := true, recurses := true, apart := false, narrowed := true }
def PageTellsUptoSaid : Prop := pageTellsUptoRow.holds Try.pinned (OpenSpec.upto pageTellsSpec)

/-- 'flittinglaw4.PageTorn', WHERE WHAT IT READS IS OF BULK AT MOST 1048576: true; the input reads as it did. -/
def pageTornUptoRow : OpenClaim := { program := "ytjhbmogpicddeaa", sum := "87307d6545dc990af9ce671782556e6b0af380c035f33b501cb373fcd7a34015", func := "flitting/flittinglaw4.PageTorn", spec := "pageTorn", inPlace := ["internal/abi.NoEscape", "internal/bytealg.MakeNoZero"], unfollowed := true, recurses := true, apart := false, narrowed := true }
def PageTornUptoSaid : Prop := pageTornUptoRow.holds Try.pinned (OpenSpec.upto pageTornSpec)

/-- 'flittinglaw4.PageTwo', WHERE WHAT IT READS IS OF BULK AT MOST 1048576: true; the input reads as it did. -/
def pageTwoUptoRow : OpenClaim := { program := "ytjhbmogpicddeaa", sum := "87307d6545dc990af9ce671782556e6b0af380c035f33b501cb373fcd7a34015", func := "flitting/flittinglaw4.PageTwo", spec := "pageTwo", inPlace := ["internal/abi.NoEscape", "internal/bytealg.MakeNoZero"], unfollowed := true, recurses := true, apart := false, narrowed := true }
def PageTwoUptoSaid : Prop := pageTwoUptoRow.holds Try.pinned (OpenSpec.upto pageTwoSpec)

/-- 'flittinglaw2.SectorLasts', WHERE WHAT IT READS IS OF BULK AT MOST 1048576: true; the input reads as it did. -/
def sectorLastsUptoRow : OpenClaim := { program := "ytjhbmogpicddeaa", sum := "87307d6545dc990af9ce671782556e6b0af380c035f33b501cb373fcd7a34015", func := "flitting/flittinglaw2.SectorLasts", spec := "sectorLasts", inPlace := ["internal/abi.NoEscape", "internal/bytealg.MakeNoZero"], apart := false, narrowed := true }
def SectorLastsUptoSaid : Prop := sectorLastsUptoRow.holds Try.pinned (OpenSpec.upto sectorLastsSpec)

/-- 'flittinglaw2.SectorTwins', WHERE WHAT IT READS IS OF BULK AT MOST 1048576: true; the input reads as it did. -/
def sectorTwinsUptoRow : OpenClaim := { program := "ytjhbmogpicddeaa", sum := "87307d6545dc990af9ce671782556e6b0af380c035f33b501cb373fcd7a34015", func := "flitting/flittinglaw2.SectorTwins", spec := "sectorTwins", inPlace := ["internal/abi.NoEscape", "internal/bytealg.MakeNoZero", "maps.clone"], apart := false, narrowed := true }
def SectorTwinsUptoSaid : Prop := sectorTwinsUptoRow.holds Try.pinned (OpenSpec.upto sectorTwinsSpec)

end Rows
end Go.Proofs.Ytjhbmogpicddeaa
