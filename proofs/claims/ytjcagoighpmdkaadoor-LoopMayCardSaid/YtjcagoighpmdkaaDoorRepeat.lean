/- strings.Repeat: the shelf's contract at this program. -/
import Derived.Shelf.Strings.Repeat
import Derived.Lib.Agree
import Derived.Test.YtjcagoighpmdkaaDoorFacts
namespace Go.Proofs.YtjcagoighpmdkaaDoor
open Go Go.RowKit Go.Shelf
set_option linter.unusedVariables false
def laysRepeat_ren : Go.Shelf.Ren := ⟨fun | 105 => 26 | 212 => 37 | 99 => 38 | 165 => 39 | 166 => 40 | 170 => 41 | 169 => 42 | 263 => 50 | 264 => 51 | 206 => 52 | 240 => 53 | 241 => 54 | 276 => 62 | 277 => 63 | n => n, fun | 9 => 9 | 3 => 3 | 4 => 4 | 20 => 20 | 0 => 0 | 46 => 81 | 109 => 82 | 5 => 5 | 72 => 88 | 76 => 90 | 51 => 93 | 146 => 104 | 53 => 106 | 148 => 107 | 70 => 85 | 37 => 86 | 75 => 62 | 127 => 109 | 164 => 111 | 80 => 92 | n => n, fun | n => n⟩
theorem laysRepeat : Lays.n105 Tryd.prog laysRepeat_ren where
  mixed := by kernel_rfl
  f99 := Tryd.func38.trans (congrArg some (by kernel_rfl))
  f105 := Tryd.func26.trans (congrArg some (by kernel_rfl))
  f165 := Tryd.func39.trans (congrArg some (by kernel_rfl))
  f166 := Tryd.func40.trans (congrArg some (by kernel_rfl))
  f169 := Tryd.func42.trans (congrArg some (by kernel_rfl))
  f170 := Tryd.func41.trans (congrArg some (by kernel_rfl))
  f206 := Tryd.func52.trans (congrArg some (by kernel_rfl))
  f212 := Tryd.func37.trans (congrArg some (by kernel_rfl))
  f240 := Tryd.func53.trans (congrArg some (by kernel_rfl))
  f241 := Tryd.func54.trans (congrArg some (by kernel_rfl))
  f263 := Tryd.func50.trans (congrArg some (by kernel_rfl))
  f264 := Tryd.func51.trans (congrArg some (by kernel_rfl))
  f276 := Tryd.func62.trans (congrArg some (by kernel_rfl))
  f277 := Tryd.func63.trans (congrArg some (by kernel_rfl))
  t0 := Tryd.underlying0
  a0 := Tryd.isAgg0
  z0 := Tryd.sizeOf0
  v0 := Tryd.zeroValue0
  t3 := Tryd.underlying3
  a3 := Tryd.isAgg3
  z3 := Tryd.sizeOf3
  v3 := Tryd.zeroValue3
  t4 := Tryd.underlying4
  a4 := Tryd.isAgg4
  z4 := Tryd.sizeOf4
  v4 := Tryd.zeroValue4
  t5 := Tryd.underlying5
  a5 := Tryd.isAgg5
  z5 := Tryd.sizeOf5
  v5 := Tryd.zeroValue5
  t9 := Tryd.underlying9
  a9 := Tryd.isAgg9
  z9 := Tryd.sizeOf9
  v9 := Tryd.zeroValue9
  t20 := Tryd.underlying20
  a20 := Tryd.isAgg20
  z20 := Tryd.sizeOf20
  v20 := Tryd.zeroValue20
  t37 := Tryd.underlying86
  a37 := Tryd.isAgg86
  z37 := Tryd.sizeOf86
  v37 := Tryd.zeroValue86
  t46 := Tryd.underlying81
  a46 := Tryd.isAgg81
  z46 := Tryd.sizeOf81
  v46 := Tryd.zeroValue81
  t51 := Tryd.underlying93
  a51 := Tryd.isAgg93
  z51 := Tryd.sizeOf93
  v51 := Tryd.zeroValue93
  t53 := Tryd.underlying106
  a53 := Tryd.isAgg106
  z53 := Tryd.sizeOf106
  v53 := Tryd.zeroValue106
  t70 := Tryd.underlying85
  a70 := Tryd.isAgg85
  z70 := Tryd.sizeOf85
  v70 := Tryd.zeroValue85
  t72 := Tryd.underlying88
  a72 := Tryd.isAgg88
  z72 := Tryd.sizeOf88
  v72 := Tryd.zeroValue88
  t75 := Tryd.underlying62
  a75 := Tryd.isAgg62
  z75 := Tryd.sizeOf62
  v75 := Tryd.zeroValue62
  t76 := Tryd.underlying90
  a76 := Tryd.isAgg90
  z76 := Tryd.sizeOf90
  v76 := Tryd.zeroValue90
  t109 := Tryd.underlying82
  a109 := Tryd.isAgg82
  z109 := Tryd.sizeOf82
  v109 := Tryd.zeroValue82
  t127 := Tryd.underlying109
  a127 := Tryd.isAgg109
  z127 := Tryd.sizeOf109
  v127 := Tryd.zeroValue109
  t146 := Tryd.underlying104
  a146 := Tryd.isAgg104
  z146 := Tryd.sizeOf104
  v146 := Tryd.zeroValue104
  t148 := Tryd.underlying107
  a148 := Tryd.isAgg107
  z148 := Tryd.sizeOf107
  v148 := Tryd.zeroValue107
  t164 := Tryd.underlying111
  a164 := Tryd.isAgg111
  z164 := Tryd.sizeOf111
  v164 := Tryd.zeroValue111
theorem extraRepeat : Builder.Extra Tryd.prog laysRepeat_ren where
  sizeBuilder := by kernel_rfl
  liesBuilder := by kernel_rfl
  t5 := laysRepeat.t5
  a5 := laysRepeat.a5
  z5 := laysRepeat.z5
  v5 := laysRepeat.v5
  infoByte := by kernel_rfl
  cellsByte := by kernel_rfl
  sizeByte := by kernel_rfl
  neB5 := by decide
theorem fRepeat : laysRepeat_ren.f 105 = 26 := by kernel_rfl
theorem strings_Repeat (x : UInt8) (c : Nat) (hc : c ≤ 1000000) : FnV Tryd.prog 26 [str [x], .int .i64 (c : Int)] (str (List.replicate c x)) := by
  refine Fn.of_below fun w => ?_
  have h := Any.strings_Repeat laysRepeat extraRepeat ⟨#[x]⟩ c w (by omega) (by show 1 * c ≤ _; omega)
  rw [fRepeat] at h
  refine h.mono fun e w' ⟨he, hw⟩ => ⟨?_, hw⟩
  rw [he]
  have := Lib.repeatL_replicate x 1 c
  rw [Nat.mul_one] at this
  rw [← this]; rfl
end Go.Proofs.YtjcagoighpmdkaaDoor
