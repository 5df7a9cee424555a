/- strings.Repeat: the shelf's contract at this program. -/
import Derived.Shelf.Strings.Repeat
import Derived.Lib.Agree
import Derived.Test.YtjcagoighpmdkaaFacts
namespace Go.Proofs.Ytjcagoighpmdkaa
open Go Go.RowKit Go.Shelf
set_option linter.unusedVariables false
def laysRepeat_ren : Go.Shelf.Ren := ⟨fun | 105 => 83 | 212 => 96 | 99 => 97 | 165 => 95 | 166 => 78 | 170 => 98 | 169 => 79 | 263 => 102 | 264 => 103 | 206 => 104 | 240 => 94 | 241 => 101 | 276 => 100 | 277 => 105 | n => n, fun | 9 => 9 | 3 => 3 | 4 => 4 | 20 => 20 | 0 => 0 | 46 => 101 | 109 => 120 | 5 => 5 | 72 => 93 | 76 => 96 | 51 => 102 | 146 => 126 | 53 => 128 | 148 => 129 | 70 => 91 | 37 => 63 | 75 => 95 | 127 => 118 | 164 => 124 | 80 => 98 | n => n, fun | n => n⟩
theorem laysRepeat : Lays.n105 Try.prog laysRepeat_ren where
  mixed := by kernel_rfl
  f99 := Try.func97.trans (congrArg some (by kernel_rfl))
  f105 := Try.func83.trans (congrArg some (by kernel_rfl))
  f165 := Try.func95.trans (congrArg some (by kernel_rfl))
  f166 := Try.func78.trans (congrArg some (by kernel_rfl))
  f169 := Try.func79.trans (congrArg some (by kernel_rfl))
  f170 := Try.func98.trans (congrArg some (by kernel_rfl))
  f206 := Try.func104.trans (congrArg some (by kernel_rfl))
  f212 := Try.func96.trans (congrArg some (by kernel_rfl))
  f240 := Try.func94.trans (congrArg some (by kernel_rfl))
  f241 := Try.func101.trans (congrArg some (by kernel_rfl))
  f263 := Try.func102.trans (congrArg some (by kernel_rfl))
  f264 := Try.func103.trans (congrArg some (by kernel_rfl))
  f276 := Try.func100.trans (congrArg some (by kernel_rfl))
  f277 := Try.func105.trans (congrArg some (by kernel_rfl))
  t0 := Try.underlying0
  a0 := Try.isAgg0
  z0 := Try.sizeOf0
  v0 := Try.zeroValue0
  t3 := Try.underlying3
  a3 := Try.isAgg3
  z3 := Try.sizeOf3
  v3 := Try.zeroValue3
  t4 := Try.underlying4
  a4 := Try.isAgg4
  z4 := Try.sizeOf4
  v4 := Try.zeroValue4
  t5 := Try.underlying5
  a5 := Try.isAgg5
  z5 := Try.sizeOf5
  v5 := Try.zeroValue5
  t9 := Try.underlying9
  a9 := Try.isAgg9
  z9 := Try.sizeOf9
  v9 := Try.zeroValue9
  t20 := Try.underlying20
  a20 := Try.isAgg20
  z20 := Try.sizeOf20
  v20 := Try.zeroValue20
  t37 := Try.underlying63
  a37 := Try.isAgg63
  z37 := Try.sizeOf63
  v37 := Try.zeroValue63
  t46 := Try.underlying101
  a46 := Try.isAgg101
  z46 := Try.sizeOf101
  v46 := Try.zeroValue101
  t51 := Try.underlying102
  a51 := Try.isAgg102
  z51 := Try.sizeOf102
  v51 := Try.zeroValue102
  t53 := Try.underlying128
  a53 := Try.isAgg128
  z53 := Try.sizeOf128
  v53 := Try.zeroValue128
  t70 := Try.underlying91
  a70 := Try.isAgg91
  z70 := Try.sizeOf91
  v70 := Try.zeroValue91
  t72 := Try.underlying93
  a72 := Try.isAgg93
  z72 := Try.sizeOf93
  v72 := Try.zeroValue93
  t75 := Try.underlying95
  a75 := Try.isAgg95
  z75 := Try.sizeOf95
  v75 := Try.zeroValue95
  t76 := Try.underlying96
  a76 := Try.isAgg96
  z76 := Try.sizeOf96
  v76 := Try.zeroValue96
  t109 := Try.underlying120
  a109 := Try.isAgg120
  z109 := Try.sizeOf120
  v109 := Try.zeroValue120
  t127 := Try.underlying118
  a127 := Try.isAgg118
  z127 := Try.sizeOf118
  v127 := Try.zeroValue118
  t146 := Try.underlying126
  a146 := Try.isAgg126
  z146 := Try.sizeOf126
  v146 := Try.zeroValue126
  t148 := Try.underlying129
  a148 := Try.isAgg129
  z148 := Try.sizeOf129
  v148 := Try.zeroValue129
  t164 := Try.underlying124
  a164 := Try.isAgg124
  z164 := Try.sizeOf124
  v164 := Try.zeroValue124
theorem extraRepeat : Builder.Extra Try.prog laysRepeat_ren where
  sizeBuilder := by kernel_rfl
  liesBuilder := by kernel_rfl
  t5 := laysRepeat.t5
  a5 := laysRepeat.a5
  z5 := laysRepeat.z5
  v5 := laysRepeat.v5
  infoByte := by kernel_rfl
  cellsByte := by kernel_rfl
  sizeByte := by kernel_rfl
  neB5 := by decide
theorem fRepeat : laysRepeat_ren.f 105 = 83 := by kernel_rfl
theorem strings_Repeat (x : UInt8) (c : Nat) (hc : c ≤ 1000000) : FnV Try.prog 83 [str [x], .int .i64 (c : Int)] (str (List.replicate c x)) := by
  refine Fn.of_below fun w => ?_
  have h := Any.strings_Repeat laysRepeat extraRepeat ⟨#[x]⟩ c w (by omega) (by show 1 * c ≤ _; omega)
  rw [fRepeat] at h
  refine h.mono fun e w' ⟨he, hw⟩ => ⟨?_, hw⟩
  rw [he]
  have := Lib.repeatL_replicate x 1 c
  rw [Nat.mul_one] at this
  rw [← this]; rfl
end Go.Proofs.Ytjcagoighpmdkaa
