/- Lists with room behind them, in which a mark stands. -/
import Derived.Test.YtjcagoighpmdkaaGreatDoorKeptInts
import Derived.Test.YtjcagoighpmdkaaGreatDoorKeptChanges
import Derived.Test.YtjcagoighpmdkaaGreatDoorKeptEntries
namespace Go.Proofs.YtjcagoighpmdkaaGreatDoor
open Go Go.RowKit
set_option linter.unusedVariables false
set_option linter.unusedSimpArgs false
attribute [local irreducible] actF WL CW OW PL SW VR LR yes Returns Fn
theorem cut0 {α : Type} {l : List α} {x : α} {a : α} (h : (l ++ [a])[l.length]? = some x) : x = a := by simp at h; exact h.symm
theorem at_end {α : Type} {l : List α} {a : α} : (l ++ [a])[l.length]? = some a := by simp
theorem book_LentChanges (xs : List (Int × Int)) (v : Value) (Δ : Chunk) (hv : View 2 encC v xs Δ) (hn : xs.length ≤ 900000) :
    FnG Tryz.prog 7 [v] [Δ] (fun r Δs => ∃ D, Δs = [D] ∧ LentAt 55 2 encC ((-77, 0) : Int × Int) r xs D) := by
  refine FnG.mk fun E F w hS hF => ?_
  have hF0 : Δ ∈ F := hF _ (by simp)
  refine returns_enter Tryz.func7 rfl Tryz.ntmps7 rfl ?_
  refine cw_seq fun K1 hK1 => ?_
  refine cw_region ?_
  refine wl_op rfl rfl (ow_vr (vr_assign (v := .slice none 0 0) rfl) ?_)
  refine wl_nil ?_
  refine hK1 _ _ ?_
  refine cw_seq fun K2 hK2 => ?_
  refine cw_region ?_
  refine wl_op rfl rfl (ow_vr (vr_move (v := v) rfl) ?_)
  refine wl_op rfl rfl (ow_fng (vs := [v]) en_24 rfl hS (book_copyChanges xs v Δ hv (by omega)) (by repeat (first | exact needs0 | (refine needsC ?_ ?_; · (repeat (first | exact List.mem_cons_self | assumption | refine List.mem_cons_of_mem _ ?_))))) ?_)
  clear hS; rintro v4 _ w ⟨D4, rfl, ho4⟩ hS; (try simp only [List.cons_append, List.nil_append] at hS)
  refine wl_op rfl rfl (ow_vr (vr_build (vs := [(0, .int .i64 _)]) (cs := [.int .i64 _, .int .i64 _]) zr_55 pl_55 rfl rfl) ?_)
  refine wl_op rfl rfl (ow_buildSliceD (m := 2) (len := 1) (vs := [.agg #[.int .i64 _, .int .i64 _]]) (cs := [.int .i64 _, .int .i64 _]) hS Tryz.underlying28 if_55 rfl (by decide) (by decide) rfl rfl (by simp [Value.cells]) rfl ?_)
  clear hS; intro b6 w hS
  refine wl_op rfl rfl (ow_append (v := v4) hS Tryz.underlying28 Tryz.underlying28 if_55 rfl (by decide) rfl rfl (by assumption) (View.single (x := ((-77, 0) : Int × Int)) rfl rfl (by decide)) (by first | exact HasC.here | exact HasC.there (HasC.here) | exact HasC.there (HasC.there (HasC.here)) | exact HasC.there (HasC.there (HasC.there (HasC.here))) | exact HasC.there (HasC.there (HasC.there (HasC.there (HasC.here)))) | exact HasC.there (HasC.there (HasC.there (HasC.there (HasC.there (HasC.here))))) | exact HasC.there (HasC.there (HasC.there (HasC.there (HasC.there (HasC.there (HasC.here)))))) | exact HasC.there (HasC.there (HasC.there (HasC.there (HasC.there (HasC.there (HasC.there (HasC.here))))))) | exact HasC.there (HasC.there (HasC.there (HasC.there (HasC.there (HasC.there (HasC.there (HasC.there (HasC.here))))))))) (by repeat (first | exact List.mem_cons_self | assumption | refine List.mem_cons_of_mem _ ?_)) (by exact fun _ => rfl) (by exact fun _ => rfl) (by first | omega | (simp [maxLen] <;> omega) | (simp <;> omega)) (by first | omega | (simp [maxLen] <;> omega) | (simp <;> omega)) ?_)
  clear hS; intro v7 D7 w ho7 hS
  refine wl_op rfl rfl (ow_vr (vr_move (v := v) rfl) ?_)
  refine wl_op rfl rfl (ow_vr (vr_len_v (v := v) Tryz.underlying28 rfl hv) ?_)
  refine wl_op rfl rfl (ow_vr (vr_slice_v (v := v7) (l := 0) (h := xs.length) Tryz.underlying28 sz_55 rfl (Own.view (by exact fun _ => rfl) ho7) rfl (by exact ⟨_, rfl⟩) (by omega) (by simp)) ?_)
  refine wl_op rfl rfl (ow_vr (vr_assign (v := subSl v7 2 0 xs.length) rfl) ?_)
  refine wl_nil ?_
  refine hK2 _ _ ?_
  refine cw_ret ?_
  refine ret_one (fn := Tryz.f7) (n := 11) (t := 2) (.inl rfl) rfl rfl ?_
  exact ⟨[D7], ⟨D7, rfl, v7, ho7, rfl⟩, hS.tail1⟩
theorem book_StaysChanges (xs ys : List (Int × Int)) (v u : Value) (Δ Δ' : Chunk) (hl : LentAt 55 2 encC ((-77, 0) : Int × Int) v xs Δ) (hu : View 2 encC u ys Δ') (hn : xs.length ≤ 900000) (hn' : ys.length ≤ 900000) :
    FnG Tryz.prog 11 [v, u] [Δ, Δ'] (fun r Δs => r = .bool (decide (xs = ys)) ∧ Δs = []) := by
  refine FnG.mk fun E F w hS hF => ?_
  have hF0 : Δ ∈ F := hF _ (by simp)
  have hF1 : Δ' ∈ F := hF _ (by simp)
  have hvl := hl.view (by exact fun _ => rfl)
  obtain ⟨v9, g9, cp, rfl, rfl, hcp, hvw⟩ := hl.full (by exact fun _ => rfl)
  refine returns_enter Tryz.func11 rfl Tryz.ntmps11 rfl ?_
  refine cw_seq fun K1 hK1 => ?_
  refine cw_region ?_
  refine wl_op rfl rfl (ow_vr (vr_assign (v := .bool false) rfl) ?_)
  refine wl_nil ?_
  refine hK1 _ _ ?_
  refine cw_seq fun K2 hK2 => ?_
  refine cw_region ?_
  refine wl_op rfl rfl (ow_vr (vr_move (v := .slice (some ⟨g9, 0, none⟩) xs.length cp) rfl) ?_)
  refine wl_op rfl rfl (ow_vr (vr_move (v := u) rfl) ?_)
  refine wl_op rfl rfl (ow_fng (vs := [.slice (some ⟨g9, 0, none⟩) xs.length cp, u]) en_14 rfl hS (book_SameChanges xs ys _ u Δ Δ' hvl hu (by omega) (by omega)) (by repeat (first | exact needs0 | (refine needsC ?_ ?_; · (repeat (first | exact List.mem_cons_self | assumption | refine List.mem_cons_of_mem _ ?_))))) ?_)
  clear hS; rintro v7 _ w ⟨rfl, rfl⟩ hS; (try simp only [List.cons_append, List.nil_append] at hS)
  refine wl_op rfl rfl (ow_vr (vr_move (v := .bool _) rfl) ?_)
  refine wl_split 8 rfl (fun hc => ?_) (fun hc => ?_)
  · (try simp only [decide_eq_true_eq, decide_eq_false_iff_not, Bool.not_eq_true, Bool.not_eq_false, Bool.not_eq_true', Bool.not_eq_false', Bool.and_eq_true, Bool.or_eq_true, Bool.and_eq_false_iff, Bool.or_eq_false_iff, Int.not_lt, Int.not_le, gt_iff_lt, ge_iff_le, ne_eq, Decidable.not_not, beq_iff_eq] at hc)
    have hg8 := hc; clear hc
    refine wl_yes rfl rfl rfl rfl rfl (ow_vr (vr_move (v := .slice (some ⟨g9, 0, none⟩) xs.length cp) rfl) ?_)
    refine wl_yes rfl rfl rfl rfl rfl (ow_vr (vr_move (v := .slice (some ⟨g9, 0, none⟩) xs.length cp) rfl) ?_)
    first | (refine wl_yes rfl rfl rfl rfl rfl (ow_vr (vr_len_sl Tryz.underlying28 rfl) ?_)) | (refine wl_yes rfl rfl rfl rfl rfl (ow_vr (vr_len_v (v := .slice (some ⟨g9, 0, none⟩) xs.length cp) Tryz.underlying28 rfl (by first | assumption | (refine Own.view ?_ (by assumption); exact fun _ => rfl) | exact OwnB.view (by assumption))) ?_))
    refine wl_yes rfl rfl rfl rfl rfl (ow_vr (vr_as (v' := .int .i64 ((xs.length + 1 : Nat) : Int)) (vr_addi rfl rfl (by unfold inI64; omega)) (i64_as (by omega))) ?_)
    refine wl_yes rfl rfl rfl rfl rfl (ow_vr (vr_slice_re (a := some ⟨g9, 0, none⟩) (c := cp) (h := xs.length + 1) Tryz.underlying28 sz_55 rfl rfl hcp (by omega) (fun _ h => by cases h; rfl)) ?_)
    refine wl_yes rfl rfl rfl rfl rfl (ow_vr (vr_move (v := .slice (some ⟨g9, 0, none⟩) xs.length cp) rfl) ?_)
    first | (refine wl_yes rfl rfl rfl rfl rfl (ow_vr (vr_len_sl Tryz.underlying28 rfl) ?_)) | (refine wl_yes rfl rfl rfl rfl rfl (ow_vr (vr_len_v (v := .slice (some ⟨g9, 0, none⟩) xs.length cp) Tryz.underlying28 rfl (by first | assumption | (refine Own.view ?_ (by assumption); exact fun _ => rfl) | exact OwnB.view (by assumption))) ?_))
    refine wl_yes rfl rfl rfl rfl rfl (ow_vr (vr_indexV (v := .slice (some ⟨g9, 0, none⟩) (xs.length + 1) cp) Tryz.underlying28 sz_55 rfl hvw rfl (by omega) (by simp; omega)) ?_)
    first | (refine wl_yes rfl rfl rfl rfl rfl (ow_vr (vr_fieldAddr fo_55_0 rfl) ?_)) | (refine wl_yes rfl rfl rfl rfl rfl (ow_vr (vr_fieldAddrV fo_55_0 rfl (by first | assumption | (refine Own.view ?_ (by assumption); exact fun _ => rfl) | exact OwnB.view (by assumption)) (by first | omega | (simp <;> omega))) ?_))
    refine wl_yes rfl rfl rfl rfl rfl (ow_lr (S := Sat _ _) (lr_loadV1 (u := .int .i64 _) Tryz.underlying3 rfl rfl hvw (by repeat (first | exact List.mem_cons_self | assumption | refine List.mem_cons_of_mem _ ?_)) (at_end) (by exact fun _ => rfl) (by rfl)) hS ?_)
    refine wl_yes rfl rfl rfl rfl rfl (ow_vr (vr_eql rfl rfl) ?_)
    refine wl_op rfl rfl (ow_vr (vr_pick (b := true) (v := .bool _) rfl rfl) ?_)
    refine wl_op rfl rfl (ow_vr (vr_assign (v := .bool _) rfl) ?_)
    refine wl_nil ?_
    refine hK2 _ _ ?_
    refine cw_ret ?_
    refine ret_one (fn := Tryz.f11) (n := 21) (t := 4) (.inl rfl) rfl rfl ?_
    exact ⟨[], ⟨congrArg Value.bool (by first | (symm; exact decide_eq_false hg8) | (rw [decide_eq_true hg8]; rfl)), rfl⟩, hS⟩
  · (try simp only [decide_eq_true_eq, decide_eq_false_iff_not, Bool.not_eq_true, Bool.not_eq_false, Bool.not_eq_true', Bool.not_eq_false', Bool.and_eq_true, Bool.or_eq_true, Bool.and_eq_false_iff, Bool.or_eq_false_iff, Int.not_lt, Int.not_le, gt_iff_lt, ge_iff_le, ne_eq, Decidable.not_not, beq_iff_eq] at hc)
    have hg8 := hc; clear hc
    refine wl_noD rfl rfl rfl rfl rfl rfl ?_
    refine wl_noD rfl rfl rfl rfl rfl rfl ?_
    refine wl_noD rfl rfl rfl rfl rfl rfl ?_
    refine wl_noD rfl rfl rfl rfl rfl rfl ?_
    refine wl_noD rfl rfl rfl rfl rfl rfl ?_
    refine wl_noD rfl rfl rfl rfl rfl rfl ?_
    refine wl_noD rfl rfl rfl rfl rfl rfl ?_
    refine wl_noD rfl rfl rfl rfl rfl rfl ?_
    refine wl_noD rfl rfl rfl rfl rfl rfl ?_
    refine wl_noD rfl rfl rfl rfl rfl rfl ?_
    refine wl_noD rfl rfl rfl rfl rfl rfl ?_
    refine wl_op rfl rfl (ow_vr (vr_pick (b := false) (v := .bool _) rfl rfl) ?_)
    refine wl_op rfl rfl (ow_vr (vr_assign (v := .bool _) rfl) ?_)
    refine wl_nil ?_
    refine hK2 _ _ ?_
    refine cw_ret ?_
    refine ret_one (fn := Tryz.f11) (n := 21) (t := 4) (.inl rfl) rfl rfl ?_
    exact ⟨[], ⟨congrArg Value.bool (by first | (symm; exact decide_eq_false hg8) | (rw [decide_eq_true hg8]; rfl)), rfl⟩, hS⟩
end Go.Proofs.YtjcagoighpmdkaaGreatDoor
