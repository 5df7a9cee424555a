/- strings.Repeat: the shelf's contract at this program. -/
import Derived.Shelf.Strings.Repeat
import Derived.Lib.Agree
import Derived.Test.YtfekgjdahckdhaaFacts
namespace Go.Proofs.Ytfekgjdahckdhaa
open Go Go.RowKit Go.Shelf
set_option linter.unusedVariables false
def laysRepeat_ren : Go.Shelf.Ren := ⟨fun | 105 => 57 | 212 => 62 | 99 => 63 | 165 => 64 | 166 => 65 | 170 => 66 | 169 => 67 | 263 => 68 | 264 => 69 | 206 => 70 | 240 => 71 | 241 => 72 | 276 => 73 | 277 => 74 | n => n, fun | 9 => 9 | 3 => 3 | 4 => 4 | 20 => 20 | 0 => 0 | 46 => 74 | 109 => 78 | 5 => 5 | 72 => 83 | 76 => 87 | 51 => 45 | 146 => 91 | 53 => 93 | 148 => 94 | 70 => 81 | 37 => 50 | 75 => 86 | 127 => 96 | 164 => 97 | 80 => 90 | n => n, fun | n => n⟩
theorem laysRepeat : Lays.n105 Try.prog laysRepeat_ren where
  mixed := by kernel_rfl
  f99 := Try.func63.trans (congrArg some (by kernel_rfl))
  f105 := Try.func57.trans (congrArg some (by kernel_rfl))
  f165 := Try.func64.trans (congrArg some (by kernel_rfl))
  f166 := Try.func65.trans (congrArg some (by kernel_rfl))
  f169 := Try.func67.trans (congrArg some (by kernel_rfl))
  f170 := Try.func66.trans (congrArg some (by kernel_rfl))
  f206 := Try.func70.trans (congrArg some (by kernel_rfl))
  f212 := Try.func62.trans (congrArg some (by kernel_rfl))
  f240 := Try.func71.trans (congrArg some (by kernel_rfl))
  f241 := Try.func72.trans (congrArg some (by kernel_rfl))
  f263 := Try.func68.trans (congrArg some (by kernel_rfl))
  f264 := Try.func69.trans (congrArg some (by kernel_rfl))
  f276 := Try.func73.trans (congrArg some (by kernel_rfl))
  f277 := Try.func74.trans (congrArg some (by kernel_rfl))
  t0 := Try.underlying0
  a0 := Try.isAgg0
  z0 := Try.sizeOf0
  v0 := Try.zeroValue0
  t3 := Try.underlying3
  a3 := Try.isAgg3
  z3 := Try.sizeOf3
  v3 := Try.zeroValue3
  t4 := Try.underlying4
  a4 := Try.isAgg4
  z4 := Try.sizeOf4
  v4 := Try.zeroValue4
  t5 := Try.underlying5
  a5 := Try.isAgg5
  z5 := Try.sizeOf5
  v5 := Try.zeroValue5
  t9 := Try.underlying9
  a9 := Try.isAgg9
  z9 := Try.sizeOf9
  v9 := Try.zeroValue9
  t20 := Try.underlying20
  a20 := Try.isAgg20
  z20 := Try.sizeOf20
  v20 := Try.zeroValue20
  t37 := Try.underlying50
  a37 := Try.isAgg50
  z37 := Try.sizeOf50
  v37 := Try.zeroValue50
  t46 := Try.underlying74
  a46 := Try.isAgg74
  z46 := Try.sizeOf74
  v46 := Try.zeroValue74
  t51 := Try.underlying45
  a51 := Try.isAgg45
  z51 := Try.sizeOf45
  v51 := Try.zeroValue45
  t53 := Try.underlying93
  a53 := Try.isAgg93
  z53 := Try.sizeOf93
  v53 := Try.zeroValue93
  t70 := Try.underlying81
  a70 := Try.isAgg81
  z70 := Try.sizeOf81
  v70 := Try.zeroValue81
  t72 := Try.underlying83
  a72 := Try.isAgg83
  z72 := Try.sizeOf83
  v72 := Try.zeroValue83
  t75 := Try.underlying86
  a75 := Try.isAgg86
  z75 := Try.sizeOf86
  v75 := Try.zeroValue86
  t76 := Try.underlying87
  a76 := Try.isAgg87
  z76 := Try.sizeOf87
  v76 := Try.zeroValue87
  t109 := Try.underlying78
  a109 := Try.isAgg78
  z109 := Try.sizeOf78
  v109 := Try.zeroValue78
  t127 := Try.underlying96
  a127 := Try.isAgg96
  z127 := Try.sizeOf96
  v127 := Try.zeroValue96
  t146 := Try.underlying91
  a146 := Try.isAgg91
  z146 := Try.sizeOf91
  v146 := Try.zeroValue91
  t148 := Try.underlying94
  a148 := Try.isAgg94
  z148 := Try.sizeOf94
  v148 := Try.zeroValue94
  t164 := Try.underlying97
  a164 := Try.isAgg97
  z164 := Try.sizeOf97
  v164 := Try.zeroValue97
theorem extraRepeat : Builder.Extra Try.prog laysRepeat_ren where
  sizeBuilder := by kernel_rfl
  liesBuilder := by kernel_rfl
  t5 := laysRepeat.t5
  a5 := laysRepeat.a5
  z5 := laysRepeat.z5
  v5 := laysRepeat.v5
  infoByte := by kernel_rfl
  cellsByte := by kernel_rfl
  sizeByte := by kernel_rfl
  neB5 := by decide
theorem fRepeat : laysRepeat_ren.f 105 = 57 := by kernel_rfl
theorem strings_Repeat (x : UInt8) (c : Nat) (hc : c ≤ 1000000) : FnV Try.prog 57 [str [x], .int .i64 (c : Int)] (str (List.replicate c x)) := by
  refine Fn.of_below fun w => ?_
  have h := Any.strings_Repeat laysRepeat extraRepeat ⟨#[x]⟩ c w (by omega) (by show 1 * c ≤ _; omega)
  rw [fRepeat] at h
  refine h.mono fun e w' ⟨he, hw⟩ => ⟨?_, hw⟩
  rw [he]
  have := Lib.repeatL_replicate x 1 c
  rw [Nat.mul_one] at this
  rw [← this]; rfl
end Go.Proofs.Ytfekgjdahckdhaa
