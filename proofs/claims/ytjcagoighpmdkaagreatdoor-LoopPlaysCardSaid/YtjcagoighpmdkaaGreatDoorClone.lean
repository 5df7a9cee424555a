/- slices.Clone, strings.Clone. -/
import Derived.Shelf.Strconv.Clone
import Derived.Lib.Agree
import Derived.Test.YtjcagoighpmdkaaGreatDoorFacts
namespace Go.Proofs.YtjcagoighpmdkaaGreatDoor
open Go Go.RowKit Go.Shelf
set_option linter.unusedVariables false
set_option linter.unusedSimpArgs false
attribute [local irreducible] actF WL CW OW PL SW VR LR yes Returns Fn
def laysClone_ren : Go.Shelf.Ren := ⟨fun | 316 => 95 | n => n, fun | 9 => 9 | 3 => 3 | 4 => 4 | 37 => 140 | 0 => 0 | 127 => 166 | 5 => 5 | n => n, fun | n => n⟩
theorem laysClone : LaysM.n316 Tryz.prog laysClone_ren where
  mixed := by kernel_rfl
  f316 := Tryz.func95.trans (congrArg some (by kernel_rfl))
  t0 := Tryz.underlying0
  a0 := Tryz.isAgg0
  z0 := Tryz.sizeOf0
  v0 := Tryz.zeroValue0
  t3 := Tryz.underlying3
  a3 := Tryz.isAgg3
  z3 := Tryz.sizeOf3
  v3 := Tryz.zeroValue3
  t4 := Tryz.underlying4
  a4 := Tryz.isAgg4
  z4 := Tryz.sizeOf4
  v4 := Tryz.zeroValue4
  t9 := Tryz.underlying9
  a9 := Tryz.isAgg9
  z9 := Tryz.sizeOf9
  v9 := Tryz.zeroValue9
  t37 := Tryz.underlying140
  a37 := Tryz.isAgg140
  z37 := Tryz.sizeOf140
  v37 := Tryz.zeroValue140
  t127 := Tryz.underlying166
  a127 := Tryz.isAgg166
  z127 := Tryz.sizeOf166
  v127 := Tryz.zeroValue166
  t5 := Tryz.underlying5
  a5 := Tryz.isAgg5
  z5 := Tryz.sizeOf5
  v5 := Tryz.zeroValue5
  i0 := by kernel_rfl
  i3 := by kernel_rfl
  i4 := by kernel_rfl
  i5 := by kernel_rfl
  i9 := by kernel_rfl
  i37 := by kernel_rfl
  i127 := by kernel_rfl
theorem fClone : laysClone_ren.f 316 = 95 := by kernel_rfl
theorem stringslite_Clone (l : List UInt8) (hn : l.length ≤ 1000000) : FnV Tryz.prog 95 [str l] (str l) := by
  refine Fn.of_below fun w => ?_
  have h := Any.stringslite_Clone laysClone ⟨l.toArray⟩ w (by show l.length ≤ _; omega)
  rw [fClone] at h
  exact h
theorem strings_Clone (l : List UInt8) (hn : l.length ≤ 1000000) : FnV Tryz.prog 84 [str l] (str l) := by
  refine FnV.mk fun E F w hS => ?_
  refine returns_enter Tryz.func84 rfl Tryz.ntmps84 rfl ?_
  refine cw_seq fun K1 hK1 => ?_
  refine cw_region ?_
  refine wl_op rfl rfl (ow_vr (vr_assign (v := str []) rfl) ?_)
  refine wl_nil ?_
  refine hK1 _ _ ?_
  refine cw_seq fun K2 hK2 => ?_
  refine cw_region ?_
  refine wl_op rfl rfl (ow_vr (vr_move (v := str _) rfl) ?_)
  refine wl_op rfl rfl (ow_fn (vs := [str _]) en_95 rfl hS (stringslite_Clone l hn) ?_)
  clear hS; rintro v4 _ w ⟨rfl, rfl⟩ hS; (try simp only [List.cons_append, List.nil_append] at hS)
  refine wl_op rfl rfl (ow_vr (vr_assign (v := str _) rfl) ?_)
  refine wl_nil ?_
  refine hK2 _ _ ?_
  refine cw_ret ?_
  refine ret_one (fn := Tryz.f84) (n := 5) (t := 2) (.inl rfl) rfl rfl ?_
  exact ⟨rfl, hS⟩
theorem clone_ints (xs : List Int) (v : Value) (Δ : Chunk) (hv : View 1 encI v xs Δ) (hn : xs.length ≤ 1000000) :
    FnG Tryz.prog 32 [v] [Δ] (fun u Δs => ∃ D, Δs = [D] ∧ Own 3 1 encI u xs D) := by
  refine FnG.mk fun E F w hS hF => ?_
  have hF0 : Δ ∈ F := hF _ (by simp)
  refine returns_enter Tryz.func32 rfl Tryz.ntmps32 rfl ?_
  refine cw_seq fun K1 hK1 => ?_
  refine cw_region ?_
  refine wl_op rfl rfl (ow_vr (vr_assign (v := .slice none 0 0) rfl) ?_)
  refine wl_nil ?_
  refine hK1 _ _ ?_
  refine cw_seq fun K2 hK2 => ?_
  refine cw_seq fun K3 hK3 => ?_
  refine cw_region ?_
  refine wl_op rfl rfl (ow_vr (vr_move (v := v) rfl) ?_)
  refine wl_op rfl rfl (ow_vr (vr_eqnilS (v := v) Tryz.underlying38 rfl (by first | assumption | (refine Own.view ?_ (by assumption); exact fun _ => rfl) | exact OwnB.view (by assumption))) ?_)
  refine wl_nil ?_
  refine hK3 _ _ ?_
  refine cw_cond rfl rfl (fun hc => ?_) (fun hc => ?_)
  · (try simp only [decide_eq_true_eq, decide_eq_false_iff_not, Bool.not_eq_true, Bool.not_eq_false, Bool.not_eq_true', Bool.not_eq_false', Bool.and_eq_true, Bool.or_eq_true, Bool.and_eq_false_iff, Bool.or_eq_false_iff, Int.not_lt, Int.not_le, gt_iff_lt, ge_iff_le, ne_eq, Decidable.not_not, beq_iff_eq] at hc)
    have hc0 := hc; clear hc
    refine cw_seq fun K4 hK4 => ?_
    obtain rfl := hv.nilS (by assumption)
    refine cw_region ?_
    refine wl_op rfl rfl (ow_vr (vr_assign (v := .slice none 0 0) rfl) ?_)
    refine wl_nil ?_
    refine hK4 _ _ ?_
    refine cw_ret ?_
    refine thenF_ret (?_)
    refine ret_one (fn := Tryz.f32) (n := 8) (t := 2) (.inl rfl) rfl rfl ?_
    exact ⟨[[]], ⟨[], rfl, Own.nil⟩, Sat.nilc.2 hS⟩
  · (try simp only [decide_eq_true_eq, decide_eq_false_iff_not, Bool.not_eq_true, Bool.not_eq_false, Bool.not_eq_true', Bool.not_eq_false', Bool.and_eq_true, Bool.or_eq_true, Bool.and_eq_false_iff, Bool.or_eq_false_iff, Int.not_lt, Int.not_le, gt_iff_lt, ge_iff_le, ne_eq, Decidable.not_not, beq_iff_eq] at hc)
    have hc0 := hc; clear hc
    refine cw_skip ?_
    refine hK2 _ _ ?_
    refine cw_seq fun K5 hK5 => ?_
    refine cw_region ?_
    refine wl_op rfl rfl (ow_buildSlice0 (enc := encI) hS Tryz.underlying38 sz_3 ?_)
    clear hS; intro v5 D5 w ho5 hS
    refine wl_op rfl rfl (ow_vr (vr_move (v := v) rfl) ?_)
    refine wl_op rfl rfl (ow_append (v := v5) (u := v) hS Tryz.underlying38 Tryz.underlying38 if_3 rfl (by decide) rfl rfl (by assumption) (by first | assumption | (refine Own.view ?_ (by assumption); exact fun _ => rfl) | exact OwnB.view (by assumption)) (by first | exact HasC.here | exact HasC.there (HasC.here) | exact HasC.there (HasC.there (HasC.here)) | exact HasC.there (HasC.there (HasC.there (HasC.here))) | exact HasC.there (HasC.there (HasC.there (HasC.there (HasC.here)))) | exact HasC.there (HasC.there (HasC.there (HasC.there (HasC.there (HasC.here))))) | exact HasC.there (HasC.there (HasC.there (HasC.there (HasC.there (HasC.there (HasC.here)))))) | exact HasC.there (HasC.there (HasC.there (HasC.there (HasC.there (HasC.there (HasC.there (HasC.here))))))) | exact HasC.there (HasC.there (HasC.there (HasC.there (HasC.there (HasC.there (HasC.there (HasC.there (HasC.here))))))))) (by repeat (first | exact List.mem_cons_self | assumption | refine List.mem_cons_of_mem _ ?_)) (by exact fun _ => rfl) (by exact fun _ => rfl) (by simp [maxLen] <;> omega) (by simp [maxLen] <;> omega) ?_)
    clear hS; intro v7 D7 w ho7 hS
    refine wl_op rfl rfl (ow_vr (vr_assign (v := v7) rfl) ?_)
    refine wl_nil ?_
    refine hK5 _ _ ?_
    refine cw_ret ?_
    refine ret_one (fn := Tryz.f32) (n := 8) (t := 2) (.inl rfl) rfl rfl ?_
    exact ⟨[D7], ⟨D7, rfl, ho7⟩, hS⟩
end Go.Proofs.YtjcagoighpmdkaaGreatDoor
