/- strings.Repeat: the shelf's contract at this program. -/
import Derived.Shelf.Strings.Repeat
import Derived.Lib.Agree
import Derived.Test.YtjhbmogpicddeaaFacts
namespace Go.Proofs.Ytjhbmogpicddeaa
open Go Go.RowKit Go.Shelf
set_option linter.unusedVariables false
def laysRepeat_ren : Go.Shelf.Ren := ⟨fun | 105 => 63 | 212 => 113 | 99 => 114 | 165 => 115 | 166 => 104 | 170 => 116 | 169 => 105 | 263 => 129 | 264 => 130 | 206 => 131 | 240 => 127 | 241 => 132 | 276 => 134 | 277 => 135 | n => n, fun | 9 => 9 | 3 => 3 | 4 => 4 | 20 => 20 | 0 => 0 | 46 => 129 | 109 => 130 | 5 => 5 | 72 => 119 | 76 => 122 | 51 => 134 | 146 => 152 | 53 => 154 | 148 => 155 | 70 => 117 | 37 => 69 | 75 => 121 | 127 => 150 | 164 => 157 | 80 => 124 | n => n, fun | n => n⟩
theorem laysRepeat : Lays.n105 Try.prog laysRepeat_ren where
  mixed := by kernel_rfl
  f99 := Try.func114.trans (congrArg some (by kernel_rfl))
  f105 := Try.func63.trans (congrArg some (by kernel_rfl))
  f165 := Try.func115.trans (congrArg some (by kernel_rfl))
  f166 := Try.func104.trans (congrArg some (by kernel_rfl))
  f169 := Try.func105.trans (congrArg some (by kernel_rfl))
  f170 := Try.func116.trans (congrArg some (by kernel_rfl))
  f206 := Try.func131.trans (congrArg some (by kernel_rfl))
  f212 := Try.func113.trans (congrArg some (by kernel_rfl))
  f240 := Try.func127.trans (congrArg some (by kernel_rfl))
  f241 := Try.func132.trans (congrArg some (by kernel_rfl))
  f263 := Try.func129.trans (congrArg some (by kernel_rfl))
  f264 := Try.func130.trans (congrArg some (by kernel_rfl))
  f276 := Try.func134.trans (congrArg some (by kernel_rfl))
  f277 := Try.func135.trans (congrArg some (by kernel_rfl))
  t0 := Try.underlying0
  a0 := Try.isAgg0
  z0 := Try.sizeOf0
  v0 := Try.zeroValue0
  t3 := Try.underlying3
  a3 := Try.isAgg3
  z3 := Try.sizeOf3
  v3 := Try.zeroValue3
  t4 := Try.underlying4
  a4 := Try.isAgg4
  z4 := Try.sizeOf4
  v4 := Try.zeroValue4
  t5 := Try.underlying5
  a5 := Try.isAgg5
  z5 := Try.sizeOf5
  v5 := Try.zeroValue5
  t9 := Try.underlying9
  a9 := Try.isAgg9
  z9 := Try.sizeOf9
  v9 := Try.zeroValue9
  t20 := Try.underlying20
  a20 := Try.isAgg20
  z20 := Try.sizeOf20
  v20 := Try.zeroValue20
  t37 := Try.underlying69
  a37 := Try.isAgg69
  z37 := Try.sizeOf69
  v37 := Try.zeroValue69
  t46 := Try.underlying129
  a46 := Try.isAgg129
  z46 := Try.sizeOf129
  v46 := Try.zeroValue129
  t51 := Try.underlying134
  a51 := Try.isAgg134
  z51 := Try.sizeOf134
  v51 := Try.zeroValue134
  t53 := Try.underlying154
  a53 := Try.isAgg154
  z53 := Try.sizeOf154
  v53 := Try.zeroValue154
  t70 := Try.underlying117
  a70 := Try.isAgg117
  z70 := Try.sizeOf117
  v70 := Try.zeroValue117
  t72 := Try.underlying119
  a72 := Try.isAgg119
  z72 := Try.sizeOf119
  v72 := Try.zeroValue119
  t75 := Try.underlying121
  a75 := Try.isAgg121
  z75 := Try.sizeOf121
  v75 := Try.zeroValue121
  t76 := Try.underlying122
  a76 := Try.isAgg122
  z76 := Try.sizeOf122
  v76 := Try.zeroValue122
  t109 := Try.underlying130
  a109 := Try.isAgg130
  z109 := Try.sizeOf130
  v109 := Try.zeroValue130
  t127 := Try.underlying150
  a127 := Try.isAgg150
  z127 := Try.sizeOf150
  v127 := Try.zeroValue150
  t146 := Try.underlying152
  a146 := Try.isAgg152
  z146 := Try.sizeOf152
  v146 := Try.zeroValue152
  t148 := Try.underlying155
  a148 := Try.isAgg155
  z148 := Try.sizeOf155
  v148 := Try.zeroValue155
  t164 := Try.underlying157
  a164 := Try.isAgg157
  z164 := Try.sizeOf157
  v164 := Try.zeroValue157
theorem extraRepeat : Builder.Extra Try.prog laysRepeat_ren where
  sizeBuilder := by kernel_rfl
  liesBuilder := by kernel_rfl
  t5 := laysRepeat.t5
  a5 := laysRepeat.a5
  z5 := laysRepeat.z5
  v5 := laysRepeat.v5
  infoByte := by kernel_rfl
  cellsByte := by kernel_rfl
  sizeByte := by kernel_rfl
  neB5 := by decide
theorem fRepeat : laysRepeat_ren.f 105 = 63 := by kernel_rfl
theorem strings_Repeat (x : UInt8) (c : Nat) (hc : c ≤ 1000000) : FnV Try.prog 63 [str [x], .int .i64 (c : Int)] (str (List.replicate c x)) := by
  refine Fn.of_below fun w => ?_
  have h := Any.strings_Repeat laysRepeat extraRepeat ⟨#[x]⟩ c w (by omega) (by show 1 * c ≤ _; omega)
  rw [fRepeat] at h
  refine h.mono fun e w' ⟨he, hw⟩ => ⟨?_, hw⟩
  rw [he]
  have := Lib.repeatL_replicate x 1 c
  rw [Nat.mul_one] at this
  rw [← this]; rfl
end Go.Proofs.Ytjhbmogpicddeaa
