/-
  No cell of these rows narrows 'for every input' (looked for: loops, veiled, ifaces, maps, wideKeys, modest, calm, conditions, laid).
  DERIVED. THE GIVEN ROWS OF THIS SEAT. 12 by the template 'for every input the law returns true; each argument reads behind the call as it read before'; 0 by the template 'total and deterministic' (their statements: YtfekgjdahckdhaaTotals.lean).
  GIVEN WITH THE SEED: the statements are not yours to turn. If you find one false, say at which input.
  Laid BY PROGRAM, IN A SANDBOX (cutbox-rows.mjs): the forced cells as the released guide's own fill.sh prints them over the translation df08f8091e79e5ac… (all of the seat's roots in one cut). By AI agents, Wed Nov 11 2026. No macro, syntax, notation, axiom, sorry.
-/
import Derived.Test.YtfekgjdahckdhaaChecked
import GoSem.Claim
import GoSem.ClaimJoined
import GoSem.ClaimMapViews
import Derived.JoinedTies
import Derived.KernelRfl
namespace Go.Proofs.Ytfekgjdahckdhaa
/- THE CELL 'sum', in the pinned program and in every row, IS THE sha256 OF THE DUMP (.gsa) THAT YtfekgjdahckdhaaProg.lean LOADS. Nothing in Lean hashes anything: it is a label: what it is worth is what the hold of that sum in a sandbox is worth. -/
noncomputable def Try.pinned : Pinned := { name := "ytfekgjdahckdhaa", sum := "df08f8091e79e5accc74219d622e3acacc0dedddbc92a6740b7e103edd453dc7", checked := Try.checked }
namespace Rows
def none {H : Type} : Left H := { results := [], args := [] }

/-- 'flittinglaw8.GeoGrows': WHATEVER THE INPUT: true; the input reads as it did. -/
def geoGrowsSpec : ChangeSpec := { name := "geoGrows", fn := fun _ => fun
  | [d1, d2, d3] => { results := [.lit (.bool true)], args := [d1, d2, d3] }
  | _ => none }
def geoGrowsRow : OpenClaim := { program := "ytfekgjdahckdhaa", sum := "df08f8091e79e5accc74219d622e3acacc0dedddbc92a6740b7e103edd453dc7", func := "flitting/flittinglaw8.GeoGrows", spec := "geoGrows", apart := false }
def GeoGrowsSaid : Prop := geoGrowsRow.holds Try.pinned (OpenSpec.ofChange geoGrowsSpec)

/-- ITS FALSE NEIGHBOUR: 'it returns false'. Refute it at one input. -/
def geoGrowsWrong : ChangeSpec := { name := "geoGrows", fn := fun _ => fun
  | [d1, d2, d3] => { results := [.lit (.bool false)], args := [d1, d2, d3] }
  | _ => none }
def GeoGrowsWrongFalsely : Prop := geoGrowsRow.holds Try.pinned (OpenSpec.ofChange geoGrowsWrong)

/-- 'flittinglaw8.GeoTells': WHATEVER THE INPUT: true; the input reads as it did. -/
def geoTellsSpec : ChangeSpec := { name := "geoTells", fn := fun _ => fun
  | [d1, d2, d3, d4, d5] => { results := [.lit (.bool true)], args := [d1, d2, d3, d4, d5] }
  | _ => none }
def geoTellsRow : OpenClaim := { program := "ytfekgjdahckdhaa", sum := "df08f8091e79e5accc74219d622e3acacc0dedddbc92a6740b7e103edd453dc7", func := "flitting/flittinglaw8.GeoTells", spec := "geoTells", apart := false }
def GeoTellsSaid : Prop := geoTellsRow.holds Try.pinned (OpenSpec.ofChange geoTellsSpec)

/-- ITS FALSE NEIGHBOUR: 'it returns false'. Refute it at one input. -/
def geoTellsWrong : ChangeSpec := { name := "geoTells", fn := fun _ => fun
  | [d1, d2, d3, d4, d5] => { results := [.lit (.bool false)], args := [d1, d2, d3, d4, d5] }
  | _ => none }
def GeoTellsWrongFalsely : Prop := geoTellsRow.holds Try.pinned (OpenSpec.ofChange geoTellsWrong)

/-- 'flittinglaw8.GeoApart': WHATEVER THE INPUT: true; the input reads as it did. -/
def geoApartSpec : ChangeSpec := { name := "geoApart", fn := fun _ => fun
  | [d] => { results := [.lit (.bool true)], args := [d] }
  | _ => none }
def geoApartRow : OpenClaim := { program := "ytfekgjdahckdhaa", sum := "df08f8091e79e5accc74219d622e3acacc0dedddbc92a6740b7e103edd453dc7", func := "flitting/flittinglaw8.GeoApart", spec := "geoApart", apart := false }
def GeoApartSaid : Prop := geoApartRow.holds Try.pinned (OpenSpec.ofChange geoApartSpec)

/-- ITS FALSE NEIGHBOUR: 'it returns false'. Refute it at one input. -/
def geoApartWrong : ChangeSpec := { name := "geoApart", fn := fun _ => fun
  | [d] => { results := [.lit (.bool false)], args := [d] }
  | _ => none }
def GeoApartWrongFalsely : Prop := geoApartRow.holds Try.pinned (OpenSpec.ofChange geoApartWrong)

/-- 'flittinglaw6.EntryGroups': WHATEVER THE INPUT: true; the input reads as it did. -/
def entryGroupsSpec : ChangeSpec := { name := "entryGroups", fn := fun _ => fun
  | [d1, d2] => { results := [.lit (.bool true)], args := [d1, d2] }
  | _ => none }
def entryGroupsRow : OpenClaim := { program := "ytfekgjdahckdhaa", sum := "df08f8091e79e5accc74219d622e3acacc0dedddbc92a6740b7e103edd453dc7", func := "flitting/flittinglaw6.EntryGroups", spec := "entryGroups", apart := false }
def EntryGroupsSaid : Prop := entryGroupsRow.holds Try.pinned (OpenSpec.ofChange entryGroupsSpec)

/-- ITS FALSE NEIGHBOUR: 'it returns false'. Refute it at one input. -/
def entryGroupsWrong : ChangeSpec := { name := "entryGroups", fn := fun _ => fun
  | [d1, d2] => { results := [.lit (.bool false)], args := [d1, d2] }
  | _ => none }
def EntryGroupsWrongFalsely : Prop := entryGroupsRow.holds Try.pinned (OpenSpec.ofChange entryGroupsWrong)

/-- 'flittinglaw3.SealTells': WHATEVER THE INPUT: true; the input reads as it did. -/
def sealTellsSpec : ChangeSpec := { name := "sealTells", fn := fun _ => fun
  | [d1, d2, d3, d4] => { results := [.lit (.bool true)], args := [d1, d2, d3, d4] }
  | _ => none }
def sealTellsRow : OpenClaim := { program := "ytfekgjdahckdhaa", sum := "df08f8091e79e5accc74219d622e3acacc0dedddbc92a6740b7e103edd453dc7", func := "flitting/flittinglaw3.SealTells", spec := "sealTells", inPlace := ["internal/abi.NoEscape", "internal/bytealg.MakeNoZero"], apart := false }
def SealTellsSaid : Prop := sealTellsRow.holds Try.pinned (OpenSpec.ofChange sealTellsSpec)

/-- ITS FALSE NEIGHBOUR: 'it returns false'. Refute it at one input. -/
def sealTellsWrong : ChangeSpec := { name := "sealTells", fn := fun _ => fun
  | [d1, d2, d3, d4] => { results := [.lit (.bool false)], args := [d1, d2, d3, d4] }
  | _ => none }
def SealTellsWrongFalsely : Prop := sealTellsRow.holds Try.pinned (OpenSpec.ofChange sealTellsWrong)

/-- 'flittinglaw3.SealTurned': WHATEVER THE INPUT: true; the input reads as it did. -/
def sealTurnedSpec : ChangeSpec := { name := "sealTurned", fn := fun _ => fun
  | [d1, d2, d3, d4] => { results := [.lit (.bool true)], args := [d1, d2, d3, d4] }
  | _ => none }
def sealTurnedRow : OpenClaim := { program := "ytfekgjdahckdhaa", sum := "df08f8091e79e5accc74219d622e3acacc0dedddbc92a6740b7e103edd453dc7", func := "flitting/flittinglaw3.SealTurned", spec := "sealTurned", inPlace := ["internal/abi.NoEscape", "internal/bytealg.MakeNoZero"], apart := false }
def SealTurnedSaid : Prop := sealTurnedRow.holds Try.pinned (OpenSpec.ofChange sealTurnedSpec)

/-- ITS FALSE NEIGHBOUR: 'it returns false'. Refute it at one input. -/
def sealTurnedWrong : ChangeSpec := { name := "sealTurned", fn := fun _ => fun
  | [d1, d2, d3, d4] => { results := [.lit (.bool false)], args := [d1, d2, d3, d4] }
  | _ => none }
def SealTurnedWrongFalsely : Prop := sealTurnedRow.holds Try.pinned (OpenSpec.ofChange sealTurnedWrong)

/-- 'flittinglaw3.SealNumbers': WHATEVER THE INPUT: true; the input reads as it did. -/
def sealNumbersSpec : ChangeSpec := { name := "sealNumbers", fn := fun _ => fun
  | [d1, d2] => { results := [.lit (.bool true)], args := [d1, d2] }
  | _ => none }
def sealNumbersRow : OpenClaim := { program := "ytfekgjdahckdhaa", sum := "df08f8091e79e5accc74219d622e3acacc0dedddbc92a6740b7e103edd453dc7", func := "flitting/flittinglaw3.SealNumbers", spec := "sealNumbers", inPlace := ["internal/abi.NoEscape", "internal/bytealg.MakeNoZero"], apart := false }
def SealNumbersSaid : Prop := sealNumbersRow.holds Try.pinned (OpenSpec.ofChange sealNumbersSpec)

/-- ITS FALSE NEIGHBOUR: 'it returns false'. Refute it at one input. -/
def sealNumbersWrong : ChangeSpec := { name := "sealNumbers", fn := fun _ => fun
  | [d1, d2] => { results := [.lit (.bool false)], args := [d1, d2] }
  | _ => none }
def SealNumbersWrongFalsely : Prop := sealNumbersRow.holds Try.pinned (OpenSpec.ofChange sealNumbersWrong)

/-- 'flittinglaw3.SealBack': WHATEVER THE INPUT: true; the input reads as it did. -/
def sealBackSpec : ChangeSpec := { name := "sealBack", fn := fun _ => fun
  | [d1, d2] => { results := [.lit (.bool true)], args := [d1, d2] }
  | _ => none }
def sealBackRow : OpenClaim := { program := "ytfekgjdahckdhaa", sum := "df08f8091e79e5accc74219d622e3acacc0dedddbc92a6740b7e103edd453dc7", func := "flitting/flittinglaw3.SealBack", spec := "sealBack", inPlace := ["internal/abi.NoEscape", "internal/bytealg.MakeNoZero"], apart := false }
def SealBackSaid : Prop := sealBackRow.holds Try.pinned (OpenSpec.ofChange sealBackSpec)

/-- ITS FALSE NEIGHBOUR: 'it returns false'. Refute it at one input. -/
def sealBackWrong : ChangeSpec := { name := "sealBack", fn := fun _ => fun
  | [d1, d2] => { results := [.lit (.bool false)], args := [d1, d2] }
  | _ => none }
def SealBackWrongFalsely : Prop := sealBackRow.holds Try.pinned (OpenSpec.ofChange sealBackWrong)

/-- 'flittinglaw3.SealTwo': WHATEVER THE INPUT: true; the input reads as it did. -/
def sealTwoSpec : ChangeSpec := { name := "sealTwo", fn := fun _ => fun
  | [d1, d2, d3, d4] => { results := [.lit (.bool true)], args := [d1, d2, d3, d4] }
  | _ => none }
def sealTwoRow : OpenClaim := { program := "ytfekgjdahckdhaa", sum := "df08f8091e79e5accc74219d622e3acacc0dedddbc92a6740b7e103edd453dc7", func := "flitting/flittinglaw3.SealTwo", spec := "sealTwo", inPlace := ["internal/abi.NoEscape", "internal/bytealg.MakeNoZero"], apart := false }
def SealTwoSaid : Prop := sealTwoRow.holds Try.pinned (OpenSpec.ofChange sealTwoSpec)

/-- ITS FALSE NEIGHBOUR: 'it returns false'. Refute it at one input. -/
def sealTwoWrong : ChangeSpec := { name := "sealTwo", fn := fun _ => fun
  | [d1, d2, d3, d4] => { results := [.lit (.bool false)], args := [d1, d2, d3, d4] }
  | _ => none }
def SealTwoWrongFalsely : Prop := sealTwoRow.holds Try.pinned (OpenSpec.ofChange sealTwoWrong)

/-- 'flittinglaw5.CrownTells': WHATEVER THE INPUT: true; the input reads as it did. -/
def crownTellsSpec : ChangeSpec := { name := "crownTells", fn := fun _ => fun
  | [d1, d2, d3, d4, d5] => { results := [.lit (.bool true)], args := [d1, d2, d3, d4, d5] }
  | _ => none }
def crownTellsRow : OpenClaim := { program := "ytfekgjdahckdhaa", sum := "df08f8091e79e5accc74219d622e3acacc0dedddbc92a6740b7e103edd453dc7", func := "flitting/flittinglaw5.CrownTells", spec := "crownTells", inPlace := ["internal/abi.NoEscape", "internal/bytealg.MakeNoZero"], unfollowed := true, recurses := true, apart := false }
def CrownTellsSaid : Prop := crownTellsRow.holds Try.pinned (OpenSpec.ofChange crownTellsSpec)

/-- ITS FALSE NEIGHBOUR: 'it returns false'. Refute it at one input. -/
def crownTellsWrong : ChangeSpec := { name := "crownTells", fn := fun _ => fun
  | [d1, d2, d3, d4, d5] => { results := [.lit (.bool false)], args := [d1, d2, d3, d4, d5] }
  | _ => none }
def CrownTellsWrongFalsely : Prop := crownTellsRow.holds Try.pinned (OpenSpec.ofChange crownTellsWrong)

/-- 'flittinglaw5.CrownLine': WHATEVER THE INPUT: true; the input reads as it did. -/
def crownLineSpec : ChangeSpec := { name := "crownLine", fn := fun _ => fun
  | [d1, d2] => { results := [.lit (.bool true)], args := [d1, d2] }
  | _ => none }
def crownLineRow : OpenClaim := { program := "ytfekgjdahckdhaa", sum := "df08f8091e79e5accc74219d622e3acacc0dedddbc92a6740b7e103edd453dc7", func := "flitting/flittinglaw5.CrownLine", spec := "crownLine", inPlace := ["internal/abi.NoEscape", "internal/bytealg.MakeNoZero"], unfollowed := true, recurses := true, apart := false }
def CrownLineSaid : Prop := crownLineRow.holds Try.pinned (OpenSpec.ofChange crownLineSpec)

/-- ITS FALSE NEIGHBOUR: 'it returns false'. Refute it at one input. -/
def crownLineWrong : ChangeSpec := { name := "crownLine", fn := fun _ => fun
  | [d1, d2] => { results := [.lit (.bool false)], args := [d1, d2] }
  | _ => none }
def CrownLineWrongFalsely : Prop := crownLineRow.holds Try.pinned (OpenSpec.ofChange crownLineWrong)

/-- 'flittinglaw5.CrownTorn': WHATEVER THE INPUT: true; the input reads as it did. -/
def crownTornSpec : ChangeSpec := { name := "crownTorn", fn := fun _ => fun
  | [d1, d2, d3, d4] => { results := [.lit (.bool true)], args := [d1, d2, d3, d4] }
  | _ => none }
def crownTornRow : OpenClaim := { program := "ytfekgjdahckdhaa", sum := "df08f8091e79e5accc74219d622e3acacc0dedddbc92a6740b7e103edd453dc7", func := "flitting/flittinglaw5.CrownTorn", spec := "crownTorn", inPlace := ["internal/abi.NoEscape", "internal/bytealg.MakeNoZero"], unfollowed := true, recurses := true, apart := false }
def CrownTornSaid : Prop := crownTornRow.holds Try.pinned (OpenSpec.ofChange crownTornSpec)

/-- ITS FALSE NEIGHBOUR: 'it returns false'. Refute it at one input. -/
def crownTornWrong : ChangeSpec := { name := "crownTorn", fn := fun _ => fun
  | [d1, d2, d3, d4] => { results := [.lit (.bool false)], args := [d1, d2, d3, d4] }
  | _ => none }
def CrownTornWrongFalsely : Prop := crownTornRow.holds Try.pinned (OpenSpec.ofChange crownTornWrong)

/- THE SECOND FORM. 'bulk': how many values and letters a reading holds, each counted each time it is reached (what is shared counts as often as it is met; a slice's spare places count too). A statement '..UptoSaid' is the law's where the arguments, and the package variables that the reading takes, are together of bulk at most 1048576: NARROWER than '..Said'. Prove '..Said' where nothing that the law and all that it calls make is longer than what came in: it says more and counts as full. Else prove '..UptoSaid'. A law counts once. -/
mutual
def uptoBulk {H : Type} : DataW H → Nat
  | .lit (.string bytes) => bytes.length + 1
  | .lit _ => 1
  | .nil => 1
  | .ptr d => uptoBulk d + 1
  | .slice elems spare => uptoBulkAll elems + uptoBulkAll spare + 1
  | .agg parts => uptoBulkAll parts + 1
  | .iface _ d => uptoBulk d + 1
  | .map entries => uptoBulkEntries entries + 1
  | .held _ => 1
def uptoBulkAll {H : Type} : List (DataW H) → Nat
  | [] => 0
  | d :: r => uptoBulk d + uptoBulkAll r
def uptoBulkEntries {H : Type} : List (Lit × DataW H) → Nat
  | [] => 0
  | x :: r => uptoBulkEntry x + uptoBulkEntries r
def uptoBulkEntry {H : Type} : Lit × DataW H → Nat
  | (.string bytes, d) => bytes.length + uptoBulk d + 1
  | (_, d) => uptoBulk d + 1
 end
def uptoSmall : (H : Type) → List (DataW H) → Bool := fun _ ds => decide (uptoBulkAll ds ≤ 1048576)
def OpenSpec.upto (s : _root_.Go.ChangeSpec) : _root_.Go.OpenSpec := { _root_.Go.OpenSpec.ofChange s with cond := some uptoSmall }

/-- 'flittinglaw8.GeoGrows', WHERE WHAT IT READS IS OF BULK AT MOST 1048576: true; the input reads as it did. -/
def geoGrowsUptoRow : OpenClaim := { program := "ytfekgjdahckdhaa", sum := "df08f8091e79e5accc74219d622e3acacc0dedddbc92a6740b7e103edd453dc7", func := "flitting/flittinglaw8.GeoGrows", spec := "geoGrows", apart := false, narrowed := true }
def GeoGrowsUptoSaid : Prop := geoGrowsUptoRow.holds Try.pinned (OpenSpec.upto geoGrowsSpec)

/-- 'flittinglaw8.GeoTells', WHERE WHAT IT READS IS OF BULK AT MOST 1048576: true; the input reads as it did. -/
def geoTellsUptoRow : OpenClaim := { program := "ytfekgjdahckdhaa", sum := "df08f8091e79e5accc74219d622e3acacc0dedddbc92a6740b7e103edd453dc7", func := "flitting/flittinglaw8.GeoTells", spec := "geoTells", apart := false, narrowed := true }
def GeoTellsUptoSaid : Prop := geoTellsUptoRow.holds Try.pinned (OpenSpec.upto geoTellsSpec)

/-- 'flittinglaw8.GeoApart', WHERE WHAT IT READS IS OF BULK AT MOST 1048576: true; the input reads as it did. -/
def geoApartUptoRow : OpenClaim := { program := "ytfekgjdahckdhaa", sum := "df08f8091e79e5accc74219d622e3acacc0dedddbc92a6740b7e103edd453dc7", func := "flitting/flittinglaw8.GeoApart", spec := "geoApart", apart := false, narrowed := true }
def GeoApartUptoSaid : Prop := geoApartUptoRow.holds Try.pinned (OpenSpec.upto geoApartSpec)

/-- 'flittinglaw6.EntryGroups', WHERE WHAT IT READS IS OF BULK AT MOST 1048576: true; the input reads as it did. -/
def entryGroupsUptoRow : OpenClaim := { program := "ytfekgjdahckdhaa", sum := "df08f8091e79e5accc74219d622e3acacc0dedddbc92a6740b7e103edd453dc7", func := "flitting/flittinglaw6.EntryGroups", spec := "entryGroups", apart := false, narrowed := true }
def EntryGroupsUptoSaid : Prop := entryGroupsUptoRow.holds Try.pinned (OpenSpec.upto entryGroupsSpec)

/-- 'flittinglaw3.SealTells', WHERE WHAT IT READS IS OF BULK AT MOST 1048576: true; the input reads as it did. -/
def sealTellsUptoRow : OpenClaim := { program := "ytfekgjdahckdhaa", sum := "df08f8091e79e5accc74219d622e3acacc0dedddbc92a6740b7e103edd453dc7", func := "flitting/flittinglaw3.SealTells", spec := "sealTells", inPlace := ["internal/abi.NoEscape", "internal/bytealg.MakeNoZero"], apart := false, narrowed := true }
def SealTellsUptoSaid : Prop := sealTellsUptoRow.holds Try.pinned (OpenSpec.upto sealTellsSpec)

/-- 'flittinglaw3.SealTurned', WHERE WHAT IT READS IS OF BULK AT MOST 1048576: true; the input reads as it did. -/
def sealTurnedUptoRow : OpenClaim := { program := "ytfekgjdahckdhaa", sum := "df08f8091e79e5accc74219d622e3acacc0dedddbc92a6740b7e103edd453dc7", func := "flitting/flittinglaw3.SealTurned", spec := "sealTurned", inPlace := ["internal/abi.NoEscape", "internal/bytealg.MakeNoZero"], apart := false, narrowed := true }
def SealTurnedUptoSaid : Prop := sealTurnedUptoRow.holds Try.pinned (OpenSpec.upto sealTurnedSpec)

/-- 'flittinglaw3.SealNumbers', WHERE WHAT IT READS IS OF BULK AT MOST 1048576: true; the input reads as it did. -/
def sealNumbersUptoRow : OpenClaim := { program := "ytfekgjdahckdhaa", sum := "df08f8091e79e5accc74219d622e3acacc0dedddbc92a6740b7e103edd453dc7", func := "flitting/flittinglaw3.SealNumbers", spec := "sealNumbers", inPlace := ["internal/abi.NoEscape", "internal/bytealg.MakeNoZero"], apart := false, narrowed := true }
def SealNumbersUptoSaid : Prop := sealNumbersUptoRow.holds Try.pinned (OpenSpec.upto sealNumbersSpec)

/-- 'flittinglaw3.SealBack', WHERE WHAT IT READS IS OF BULK AT MOST 1048576: true; the input reads as it did. -/
def sealBackUptoRow : OpenClaim := { program := "ytfekgjdahckdhaa", sum := "df08f8091e79e5accc74219d622e3acacc0dedddbc92a6740b7e103edd453dc7", func := "flitting/flittinglaw3.SealBack", spec := "sealBack", inPlace := ["internal/abi.NoEscape", "internal/bytealg.MakeNoZero"], apart := false, narrowed := true }
def SealBackUptoSaid : Prop := sealBackUptoRow.holds Try.pinned (OpenSpec.upto sealBackSpec)

/-- 'flittinglaw3.SealTwo', WHERE WHAT IT READS IS OF BULK AT MOST 1048576: true; the input reads as it did. -/
def sealTwoUptoRow : OpenClaim := { program := "ytfekgjdahckdhaa", sum := "df08f8091e79e5accc74219d622e3acacc0dedddbc92a6740b7e103edd453dc7", func := "flitting/flittinglaw3.SealTwo", spec := "sealTwo", inPlace := ["internal/abi.NoEscape", "internal/bytealg.MakeNoZero"], apart := false, narrowed := true }
def SealTwoUptoSaid : Prop := sealTwoUptoRow.holds Try.pinned (OpenSpec.upto sealTwoSpec)

/-- 'flittinglaw5.CrownTells', WHERE WHAT IT READS IS OF BULK AT MOST 1048576: true; the input reads as it did. -/
def crownTellsUptoRow : OpenClaim := { program := "ytfekgjdahckdhaa", sum := "df08f8091e79e5accc74219d622e3acacc0dedddbc92a6740b7e103edd453dc7", func := "flitting/flittinglaw5.CrownTells", spec := "crownTells", inPlace := ["internal/abi.NoEscape", "internal/bytealg.MakeNoZero"], unfollowed := true, recurses := true, apart := false, narrowed := true }
def CrownTellsUptoSaid : Prop := crownTellsUptoRow.holds Try.pinned (OpenSpec.upto crownTellsSpec)

/-- 'flittinglaw5.CrownLine', WHERE WHAT IT READS IS OF BULK AT MOST 1048576: true; the input reads as it did. -/
def crownLineUptoRow : OpenClaim := { program := "ytfekgjdahckdhaa", sum := "df08f8091e79e5accc74219d622e3acacc0dedddbc92a6740b7e103edd453dc7", func := "flitting/flittinglaw5.CrownLine", spec := "crownLine", inPlace := ["internal/abi.NoEscape", "internal/bytealg.MakeNoZero"], unfollowed := true, recurses := true, apart := false, narrowed := true }
def CrownLineUptoSaid : Prop := crownLineUptoRow.holds Try.pinned (OpenSpec.upto crownLineSpec)

/-- 'flittinglaw5.CrownTorn', WHERE WHAT IT READS IS OF BULK AT MOST 1048576: true; the input reads as it did. -/
def crownTornUptoRow : OpenClaim := { program := "ytfekgjdahckdhaa", sum := "df08f8091e79e5accc74219d622e3acacc0dedddbc92a6740b7e103edd453dc7", func := "flitting/flittinglaw5.CrownTorn", spec := "crownTorn", inPlace := ["internal/abi.NoEscape", "internal/bytealg.MakeNoZero"], unfollowed := true, recurses := true, apart := false, narrowed := true }
def CrownTornUptoSaid : Prop := crownTornUptoRow.holds Try.pinned (OpenSpec.upto crownTornSpec)

end Rows
end Go.Proofs.Ytfekgjdahckdhaa
