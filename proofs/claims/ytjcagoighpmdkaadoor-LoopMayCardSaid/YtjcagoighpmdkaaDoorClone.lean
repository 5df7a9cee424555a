/- slices.Clone, strings.Clone. -/
import Derived.Shelf.Strconv.Clone
import Derived.Lib.Agree
import Derived.Test.YtjcagoighpmdkaaDoorFacts
namespace Go.Proofs.YtjcagoighpmdkaaDoor
open Go Go.RowKit Go.Shelf
set_option linter.unusedVariables false
set_option linter.unusedSimpArgs false
attribute [local irreducible] actF WL CW OW PL SW VR LR yes Returns Fn
def laysClone_ren : Go.Shelf.Ren := ⟨fun | 316 => 55 | n => n, fun | 9 => 9 | 3 => 3 | 4 => 4 | 37 => 86 | 0 => 0 | 127 => 109 | 5 => 5 | n => n, fun | n => n⟩
theorem laysClone : LaysM.n316 Tryd.prog laysClone_ren where
  mixed := by kernel_rfl
  f316 := Tryd.func55.trans (congrArg some (by kernel_rfl))
  t0 := Tryd.underlying0
  a0 := Tryd.isAgg0
  z0 := Tryd.sizeOf0
  v0 := Tryd.zeroValue0
  t3 := Tryd.underlying3
  a3 := Tryd.isAgg3
  z3 := Tryd.sizeOf3
  v3 := Tryd.zeroValue3
  t4 := Tryd.underlying4
  a4 := Tryd.isAgg4
  z4 := Tryd.sizeOf4
  v4 := Tryd.zeroValue4
  t9 := Tryd.underlying9
  a9 := Tryd.isAgg9
  z9 := Tryd.sizeOf9
  v9 := Tryd.zeroValue9
  t37 := Tryd.underlying86
  a37 := Tryd.isAgg86
  z37 := Tryd.sizeOf86
  v37 := Tryd.zeroValue86
  t127 := Tryd.underlying109
  a127 := Tryd.isAgg109
  z127 := Tryd.sizeOf109
  v127 := Tryd.zeroValue109
  t5 := Tryd.underlying5
  a5 := Tryd.isAgg5
  z5 := Tryd.sizeOf5
  v5 := Tryd.zeroValue5
  i0 := by kernel_rfl
  i3 := by kernel_rfl
  i4 := by kernel_rfl
  i5 := by kernel_rfl
  i9 := by kernel_rfl
  i37 := by kernel_rfl
  i127 := by kernel_rfl
theorem fClone : laysClone_ren.f 316 = 55 := by kernel_rfl
theorem stringslite_Clone (l : List UInt8) (hn : l.length ≤ 1000000) : FnV Tryd.prog 55 [str l] (str l) := by
  refine Fn.of_below fun w => ?_
  have h := Any.stringslite_Clone laysClone ⟨l.toArray⟩ w (by show l.length ≤ _; omega)
  rw [fClone] at h
  exact h
theorem strings_Clone (l : List UInt8) (hn : l.length ≤ 1000000) : FnV Tryd.prog 47 [str l] (str l) := by
  refine FnV.mk fun E F w hS => ?_
  refine returns_enter Tryd.func47 rfl Tryd.ntmps47 rfl ?_
  refine cw_seq fun K1 hK1 => ?_
  refine cw_region ?_
  refine wl_op rfl rfl (ow_vr (vr_assign (v := str []) rfl) ?_)
  refine wl_nil ?_
  refine hK1 _ _ ?_
  refine cw_seq fun K2 hK2 => ?_
  refine cw_region ?_
  refine wl_op rfl rfl (ow_vr (vr_move (v := str _) rfl) ?_)
  refine wl_op rfl rfl (ow_fn (vs := [str _]) en_55 rfl hS (stringslite_Clone l hn) ?_)
  clear hS; rintro v4 _ w ⟨rfl, rfl⟩ hS; (try simp only [List.cons_append, List.nil_append] at hS)
  refine wl_op rfl rfl (ow_vr (vr_assign (v := str _) rfl) ?_)
  refine wl_nil ?_
  refine hK2 _ _ ?_
  refine cw_ret ?_
  refine ret_one (fn := Tryd.f47) (n := 5) (t := 2) (.inl rfl) rfl rfl ?_
  exact ⟨rfl, hS⟩
theorem clone_ints (xs : List Int) (v : Value) (Δ : Chunk) (hv : View 1 encI v xs Δ) (hn : xs.length ≤ 1000000) :
    FnG Tryd.prog 64 [v] [Δ] (fun u Δs => ∃ D, Δs = [D] ∧ Own 3 1 encI u xs D) := by
  refine FnG.mk fun E F w hS hF => ?_
  have hF0 : Δ ∈ F := hF _ (by simp)
  refine returns_enter Tryd.func64 rfl Tryd.ntmps64 rfl ?_
  refine cw_seq fun K1 hK1 => ?_
  refine cw_region ?_
  refine wl_op rfl rfl (ow_vr (vr_assign (v := .slice none 0 0) rfl) ?_)
  refine wl_nil ?_
  refine hK1 _ _ ?_
  refine cw_seq fun K2 hK2 => ?_
  refine cw_seq fun K3 hK3 => ?_
  refine cw_region ?_
  refine wl_op rfl rfl (ow_vr (vr_move (v := v) rfl) ?_)
  refine wl_op rfl rfl (ow_vr (vr_eqnilS (v := v) Tryd.underlying44 rfl (by first | assumption | (refine Own.view ?_ (by assumption); exact fun _ => rfl) | exact OwnB.view (by assumption))) ?_)
  refine wl_nil ?_
  refine hK3 _ _ ?_
  refine cw_cond rfl rfl (fun hc => ?_) (fun hc => ?_)
  · (try simp only [decide_eq_true_eq, decide_eq_false_iff_not, Bool.not_eq_true, Bool.not_eq_false, Bool.not_eq_true', Bool.not_eq_false', Bool.and_eq_true, Bool.or_eq_true, Bool.and_eq_false_iff, Bool.or_eq_false_iff, Int.not_lt, Int.not_le, gt_iff_lt, ge_iff_le, ne_eq, Decidable.not_not, beq_iff_eq] at hc)
    have hc0 := hc; clear hc
    refine cw_seq fun K4 hK4 => ?_
    obtain rfl := hv.nilS (by assumption)
    refine cw_region ?_
    refine wl_op rfl rfl (ow_vr (vr_assign (v := .slice none 0 0) rfl) ?_)
    refine wl_nil ?_
    refine hK4 _ _ ?_
    refine cw_ret ?_
    refine thenF_ret (?_)
    refine ret_one (fn := Tryd.f64) (n := 8) (t := 2) (.inl rfl) rfl rfl ?_
    exact ⟨[[]], ⟨[], rfl, Own.nil⟩, Sat.nilc.2 hS⟩
  · (try simp only [decide_eq_true_eq, decide_eq_false_iff_not, Bool.not_eq_true, Bool.not_eq_false, Bool.not_eq_true', Bool.not_eq_false', Bool.and_eq_true, Bool.or_eq_true, Bool.and_eq_false_iff, Bool.or_eq_false_iff, Int.not_lt, Int.not_le, gt_iff_lt, ge_iff_le, ne_eq, Decidable.not_not, beq_iff_eq] at hc)
    have hc0 := hc; clear hc
    refine cw_skip ?_
    refine hK2 _ _ ?_
    refine cw_seq fun K5 hK5 => ?_
    refine cw_region ?_
    refine wl_op rfl rfl (ow_buildSlice0 (enc := encI) hS Tryd.underlying44 sz_3 ?_)
    clear hS; intro v5 D5 w ho5 hS
    refine wl_op rfl rfl (ow_vr (vr_move (v := v) rfl) ?_)
    refine wl_op rfl rfl (ow_append (v := v5) (u := v) hS Tryd.underlying44 Tryd.underlying44 if_3 rfl (by decide) rfl rfl (by assumption) (by first | assumption | (refine Own.view ?_ (by assumption); exact fun _ => rfl) | exact OwnB.view (by assumption)) (by first | exact HasC.here | exact HasC.there (HasC.here) | exact HasC.there (HasC.there (HasC.here)) | exact HasC.there (HasC.there (HasC.there (HasC.here))) | exact HasC.there (HasC.there (HasC.there (HasC.there (HasC.here)))) | exact HasC.there (HasC.there (HasC.there (HasC.there (HasC.there (HasC.here))))) | exact HasC.there (HasC.there (HasC.there (HasC.there (HasC.there (HasC.there (HasC.here)))))) | exact HasC.there (HasC.there (HasC.there (HasC.there (HasC.there (HasC.there (HasC.there (HasC.here))))))) | exact HasC.there (HasC.there (HasC.there (HasC.there (HasC.there (HasC.there (HasC.there (HasC.there (HasC.here))))))))) (by repeat (first | exact List.mem_cons_self | assumption | refine List.mem_cons_of_mem _ ?_)) (by exact fun _ => rfl) (by exact fun _ => rfl) (by simp [maxLen] <;> omega) (by simp [maxLen] <;> omega) ?_)
    clear hS; intro v7 D7 w ho7 hS
    refine wl_op rfl rfl (ow_vr (vr_assign (v := v7) rfl) ?_)
    refine wl_nil ?_
    refine hK5 _ _ ?_
    refine cw_ret ?_
    refine ret_one (fn := Tryd.f64) (n := 8) (t := 2) (.inl rfl) rfl rfl ?_
    exact ⟨[D7], ⟨D7, rfl, ho7⟩, hS⟩
end Go.Proofs.YtjcagoighpmdkaaDoor
