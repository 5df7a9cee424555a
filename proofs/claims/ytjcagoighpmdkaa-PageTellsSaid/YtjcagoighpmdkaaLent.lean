/- Lists with room behind them, in which a mark stands. -/
import Derived.Test.YtjcagoighpmdkaaKeptInts
import Derived.Test.YtjcagoighpmdkaaKeptChanges
import Derived.Test.YtjcagoighpmdkaaKeptEntries
namespace Go.Proofs.Ytjcagoighpmdkaa
open Go Go.RowKit
set_option linter.unusedVariables false
set_option linter.unusedSimpArgs false
attribute [local irreducible] actF WL CW OW PL SW VR LR yes Returns Fn
theorem cut0 {α : Type} {l : List α} {x : α} {a : α} (h : (l ++ [a])[l.length]? = some x) : x = a := by simp at h; exact h.symm
theorem at_end {α : Type} {l : List α} {a : α} : (l ++ [a])[l.length]? = some a := by simp
theorem book_LentInts (xs : List Int) (v : Value) (Δ : Chunk) (hv : View 1 encI v xs Δ) (hn : xs.length ≤ 900000) :
    FnG Try.prog 27 [v] [Δ] (fun r Δs => ∃ D, Δs = [D] ∧ LentAt 3 1 encI (-77) r xs D) := by
  refine FnG.mk fun E F w hS hF => ?_
  have hF0 : Δ ∈ F := hF _ (by simp)
  refine returns_enter Try.func27 rfl Try.ntmps27 rfl ?_
  refine cw_seq fun K1 hK1 => ?_
  refine cw_region ?_
  refine wl_op rfl rfl (ow_vr (vr_assign (v := .slice none 0 0) rfl) ?_)
  refine wl_nil ?_
  refine hK1 _ _ ?_
  refine cw_seq fun K2 hK2 => ?_
  refine cw_region ?_
  refine wl_op rfl rfl (ow_vr (vr_move (v := v) rfl) ?_)
  refine wl_op rfl rfl (ow_fng (vs := [v]) en_76 rfl hS (book_copyInts xs v Δ hv (by omega)) (by repeat (first | exact needs0 | (refine needsC ?_ ?_; · (repeat (first | exact List.mem_cons_self | assumption | refine List.mem_cons_of_mem _ ?_))))) ?_)
  clear hS; rintro v4 _ w ⟨D4, rfl, ho4⟩ hS; (try simp only [List.cons_append, List.nil_append] at hS)
  refine wl_op rfl rfl (ow_buildSliceD (m := 1) (len := 1) (vs := [.int .i64 _]) (cs := [.int .i64 _]) hS Try.underlying55 if_3 rfl (by decide) (by decide) rfl rfl (by simp [Value.cells]) rfl ?_)
  clear hS; intro b5 w hS
  refine wl_op rfl rfl (ow_append (v := v4) hS Try.underlying55 Try.underlying55 if_3 rfl (by decide) rfl rfl (by assumption) (View.single (x := (-77)) rfl rfl (by decide)) (by first | exact HasC.here | exact HasC.there (HasC.here) | exact HasC.there (HasC.there (HasC.here)) | exact HasC.there (HasC.there (HasC.there (HasC.here))) | exact HasC.there (HasC.there (HasC.there (HasC.there (HasC.here)))) | exact HasC.there (HasC.there (HasC.there (HasC.there (HasC.there (HasC.here))))) | exact HasC.there (HasC.there (HasC.there (HasC.there (HasC.there (HasC.there (HasC.here)))))) | exact HasC.there (HasC.there (HasC.there (HasC.there (HasC.there (HasC.there (HasC.there (HasC.here))))))) | exact HasC.there (HasC.there (HasC.there (HasC.there (HasC.there (HasC.there (HasC.there (HasC.there (HasC.here))))))))) (by repeat (first | exact List.mem_cons_self | assumption | refine List.mem_cons_of_mem _ ?_)) (by exact fun _ => rfl) (by exact fun _ => rfl) (by first | omega | (simp [maxLen] <;> omega) | (simp <;> omega)) (by first | omega | (simp [maxLen] <;> omega) | (simp <;> omega)) ?_)
  clear hS; intro v6 D6 w ho6 hS
  refine wl_op rfl rfl (ow_vr (vr_move (v := v) rfl) ?_)
  refine wl_op rfl rfl (ow_vr (vr_len_v (v := v) Try.underlying55 rfl hv) ?_)
  refine wl_op rfl rfl (ow_vr (vr_slice_v (v := v6) (l := 0) (h := xs.length) Try.underlying55 sz_3 rfl (Own.view (by exact fun _ => rfl) ho6) rfl (by exact ⟨_, rfl⟩) (by omega) (by simp)) ?_)
  refine wl_op rfl rfl (ow_vr (vr_assign (v := subSl v6 1 0 xs.length) rfl) ?_)
  refine wl_nil ?_
  refine hK2 _ _ ?_
  refine cw_ret ?_
  refine ret_one (fn := Try.f27) (n := 10) (t := 2) (.inl rfl) rfl rfl ?_
  exact ⟨[D6], ⟨D6, rfl, v6, ho6, rfl⟩, hS.tail1⟩
theorem book_StaysInts (xs ys : List Int) (v u : Value) (Δ Δ' : Chunk) (hl : LentAt 3 1 encI (-77) v xs Δ) (hu : View 1 encI u ys Δ') (hn : xs.length ≤ 900000) (hn' : ys.length ≤ 900000) :
    FnG Try.prog 32 [v, u] [Δ, Δ'] (fun r Δs => r = .bool (decide (xs = ys)) ∧ Δs = []) := by
  refine FnG.mk fun E F w hS hF => ?_
  have hF0 : Δ ∈ F := hF _ (by simp)
  have hF1 : Δ' ∈ F := hF _ (by simp)
  have hvl := hl.view (by exact fun _ => rfl)
  obtain ⟨v9, g9, cp, rfl, rfl, hcp, hvw⟩ := hl.full (by exact fun _ => rfl)
  refine returns_enter Try.func32 rfl Try.ntmps32 rfl ?_
  refine cw_seq fun K1 hK1 => ?_
  refine cw_region ?_
  refine wl_op rfl rfl (ow_vr (vr_assign (v := .bool false) rfl) ?_)
  refine wl_nil ?_
  refine hK1 _ _ ?_
  refine cw_seq fun K2 hK2 => ?_
  refine cw_region ?_
  refine wl_op rfl rfl (ow_vr (vr_move (v := .slice (some ⟨g9, 0, none⟩) xs.length cp) rfl) ?_)
  refine wl_op rfl rfl (ow_vr (vr_move (v := u) rfl) ?_)
  refine wl_op rfl rfl (ow_fng (vs := [.slice (some ⟨g9, 0, none⟩) xs.length cp, u]) en_38 rfl hS (book_SameInts xs ys _ u Δ Δ' hvl hu (by omega) (by omega)) (by repeat (first | exact needs0 | (refine needsC ?_ ?_; · (repeat (first | exact List.mem_cons_self | assumption | refine List.mem_cons_of_mem _ ?_))))) ?_)
  clear hS; rintro v7 _ w ⟨rfl, rfl⟩ hS; (try simp only [List.cons_append, List.nil_append] at hS)
  refine wl_op rfl rfl (ow_vr (vr_move (v := .bool _) rfl) ?_)
  refine wl_split 8 rfl (fun hc => ?_) (fun hc => ?_)
  · (try simp only [decide_eq_true_eq, decide_eq_false_iff_not, Bool.not_eq_true, Bool.not_eq_false, Bool.not_eq_true', Bool.not_eq_false', Bool.and_eq_true, Bool.or_eq_true, Bool.and_eq_false_iff, Bool.or_eq_false_iff, Int.not_lt, Int.not_le, gt_iff_lt, ge_iff_le, ne_eq, Decidable.not_not, beq_iff_eq] at hc)
    have hg8 := hc; clear hc
    refine wl_yes rfl rfl rfl rfl rfl (ow_vr (vr_move (v := .slice (some ⟨g9, 0, none⟩) xs.length cp) rfl) ?_)
    refine wl_yes rfl rfl rfl rfl rfl (ow_vr (vr_move (v := .slice (some ⟨g9, 0, none⟩) xs.length cp) rfl) ?_)
    first | (refine wl_yes rfl rfl rfl rfl rfl (ow_vr (vr_len_sl Try.underlying55 rfl) ?_)) | (refine wl_yes rfl rfl rfl rfl rfl (ow_vr (vr_len_v (v := .slice (some ⟨g9, 0, none⟩) xs.length cp) Try.underlying55 rfl (by first | assumption | (refine Own.view ?_ (by assumption); exact fun _ => rfl) | exact OwnB.view (by assumption))) ?_))
    refine wl_yes rfl rfl rfl rfl rfl (ow_vr (vr_as (v' := .int .i64 ((xs.length + 1 : Nat) : Int)) (vr_addi rfl rfl (by unfold inI64; omega)) (i64_as (by omega))) ?_)
    refine wl_yes rfl rfl rfl rfl rfl (ow_vr (vr_slice_re (a := some ⟨g9, 0, none⟩) (c := cp) (h := xs.length + 1) Try.underlying55 sz_3 rfl rfl hcp (by omega) (fun _ h => by cases h; rfl)) ?_)
    refine wl_yes rfl rfl rfl rfl rfl (ow_vr (vr_move (v := .slice (some ⟨g9, 0, none⟩) xs.length cp) rfl) ?_)
    first | (refine wl_yes rfl rfl rfl rfl rfl (ow_vr (vr_len_sl Try.underlying55 rfl) ?_)) | (refine wl_yes rfl rfl rfl rfl rfl (ow_vr (vr_len_v (v := .slice (some ⟨g9, 0, none⟩) xs.length cp) Try.underlying55 rfl (by first | assumption | (refine Own.view ?_ (by assumption); exact fun _ => rfl) | exact OwnB.view (by assumption))) ?_))
    refine wl_yes rfl rfl rfl rfl rfl (ow_vr (vr_indexV (v := .slice (some ⟨g9, 0, none⟩) (xs.length + 1) cp) Try.underlying55 sz_3 rfl hvw rfl (by omega) (by simp; omega)) ?_)
    refine wl_yes rfl rfl rfl rfl rfl (ow_lr (S := Sat _ _) (lr_loadV1 (u := .int .i64 _) Try.underlying3 rfl rfl hvw (by repeat (first | exact List.mem_cons_self | assumption | refine List.mem_cons_of_mem _ ?_)) (at_end) (by exact fun _ => rfl) (by rfl)) hS ?_)
    refine wl_yes rfl rfl rfl rfl rfl (ow_vr (vr_eql rfl rfl) ?_)
    refine wl_op rfl rfl (ow_vr (vr_pick (b := true) (v := .bool _) rfl rfl) ?_)
    refine wl_op rfl rfl (ow_vr (vr_assign (v := .bool _) rfl) ?_)
    refine wl_nil ?_
    refine hK2 _ _ ?_
    refine cw_ret ?_
    refine ret_one (fn := Try.f32) (n := 20) (t := 4) (.inl rfl) rfl rfl ?_
    exact ⟨[], ⟨congrArg Value.bool (by first | (symm; exact decide_eq_false hg8) | (rw [decide_eq_true hg8]; rfl)), rfl⟩, hS⟩
  · (try simp only [decide_eq_true_eq, decide_eq_false_iff_not, Bool.not_eq_true, Bool.not_eq_false, Bool.not_eq_true', Bool.not_eq_false', Bool.and_eq_true, Bool.or_eq_true, Bool.and_eq_false_iff, Bool.or_eq_false_iff, Int.not_lt, Int.not_le, gt_iff_lt, ge_iff_le, ne_eq, Decidable.not_not, beq_iff_eq] at hc)
    have hg8 := hc; clear hc
    refine wl_noD rfl rfl rfl rfl rfl rfl ?_
    refine wl_noD rfl rfl rfl rfl rfl rfl ?_
    refine wl_noD rfl rfl rfl rfl rfl rfl ?_
    refine wl_noD rfl rfl rfl rfl rfl rfl ?_
    refine wl_noD rfl rfl rfl rfl rfl rfl ?_
    refine wl_noD rfl rfl rfl rfl rfl rfl ?_
    refine wl_noD rfl rfl rfl rfl rfl rfl ?_
    refine wl_noD rfl rfl rfl rfl rfl rfl ?_
    refine wl_noD rfl rfl rfl rfl rfl rfl ?_
    refine wl_noD rfl rfl rfl rfl rfl rfl ?_
    refine wl_op rfl rfl (ow_vr (vr_pick (b := false) (v := .bool _) rfl rfl) ?_)
    refine wl_op rfl rfl (ow_vr (vr_assign (v := .bool _) rfl) ?_)
    refine wl_nil ?_
    refine hK2 _ _ ?_
    refine cw_ret ?_
    refine ret_one (fn := Try.f32) (n := 20) (t := 4) (.inl rfl) rfl rfl ?_
    exact ⟨[], ⟨congrArg Value.bool (by first | (symm; exact decide_eq_false hg8) | (rw [decide_eq_true hg8]; rfl)), rfl⟩, hS⟩
theorem book_LentChanges (xs : List (Int × Int)) (v : Value) (Δ : Chunk) (hv : View 2 encC v xs Δ) (hn : xs.length ≤ 900000) :
    FnG Try.prog 12 [v] [Δ] (fun r Δs => ∃ D, Δs = [D] ∧ LentAt 71 2 encC ((-77, 0) : Int × Int) r xs D) := by
  refine FnG.mk fun E F w hS hF => ?_
  have hF0 : Δ ∈ F := hF _ (by simp)
  refine returns_enter Try.func12 rfl Try.ntmps12 rfl ?_
  refine cw_seq fun K1 hK1 => ?_
  refine cw_region ?_
  refine wl_op rfl rfl (ow_vr (vr_assign (v := .slice none 0 0) rfl) ?_)
  refine wl_nil ?_
  refine hK1 _ _ ?_
  refine cw_seq fun K2 hK2 => ?_
  refine cw_region ?_
  refine wl_op rfl rfl (ow_vr (vr_move (v := v) rfl) ?_)
  refine wl_op rfl rfl (ow_fng (vs := [v]) en_50 rfl hS (book_copyChanges xs v Δ hv (by omega)) (by repeat (first | exact needs0 | (refine needsC ?_ ?_; · (repeat (first | exact List.mem_cons_self | assumption | refine List.mem_cons_of_mem _ ?_))))) ?_)
  clear hS; rintro v4 _ w ⟨D4, rfl, ho4⟩ hS; (try simp only [List.cons_append, List.nil_append] at hS)
  refine wl_op rfl rfl (ow_vr (vr_build (vs := [(0, .int .i64 _)]) (cs := [.int .i64 _, .int .i64 _]) zr_71 pl_71 rfl rfl) ?_)
  refine wl_op rfl rfl (ow_buildSliceD (m := 2) (len := 1) (vs := [.agg #[.int .i64 _, .int .i64 _]]) (cs := [.int .i64 _, .int .i64 _]) hS Try.underlying24 if_71 rfl (by decide) (by decide) rfl rfl (by simp [Value.cells]) rfl ?_)
  clear hS; intro b6 w hS
  refine wl_op rfl rfl (ow_append (v := v4) hS Try.underlying24 Try.underlying24 if_71 rfl (by decide) rfl rfl (by assumption) (View.single (x := ((-77, 0) : Int × Int)) rfl rfl (by decide)) (by first | exact HasC.here | exact HasC.there (HasC.here) | exact HasC.there (HasC.there (HasC.here)) | exact HasC.there (HasC.there (HasC.there (HasC.here))) | exact HasC.there (HasC.there (HasC.there (HasC.there (HasC.here)))) | exact HasC.there (HasC.there (HasC.there (HasC.there (HasC.there (HasC.here))))) | exact HasC.there (HasC.there (HasC.there (HasC.there (HasC.there (HasC.there (HasC.here)))))) | exact HasC.there (HasC.there (HasC.there (HasC.there (HasC.there (HasC.there (HasC.there (HasC.here))))))) | exact HasC.there (HasC.there (HasC.there (HasC.there (HasC.there (HasC.there (HasC.there (HasC.there (HasC.here))))))))) (by repeat (first | exact List.mem_cons_self | assumption | refine List.mem_cons_of_mem _ ?_)) (by exact fun _ => rfl) (by exact fun _ => rfl) (by first | omega | (simp [maxLen] <;> omega) | (simp <;> omega)) (by first | omega | (simp [maxLen] <;> omega) | (simp <;> omega)) ?_)
  clear hS; intro v7 D7 w ho7 hS
  refine wl_op rfl rfl (ow_vr (vr_move (v := v) rfl) ?_)
  refine wl_op rfl rfl (ow_vr (vr_len_v (v := v) Try.underlying24 rfl hv) ?_)
  refine wl_op rfl rfl (ow_vr (vr_slice_v (v := v7) (l := 0) (h := xs.length) Try.underlying24 sz_71 rfl (Own.view (by exact fun _ => rfl) ho7) rfl (by exact ⟨_, rfl⟩) (by omega) (by simp)) ?_)
  refine wl_op rfl rfl (ow_vr (vr_assign (v := subSl v7 2 0 xs.length) rfl) ?_)
  refine wl_nil ?_
  refine hK2 _ _ ?_
  refine cw_ret ?_
  refine ret_one (fn := Try.f12) (n := 11) (t := 2) (.inl rfl) rfl rfl ?_
  exact ⟨[D7], ⟨D7, rfl, v7, ho7, rfl⟩, hS.tail1⟩
theorem book_StaysChanges (xs ys : List (Int × Int)) (v u : Value) (Δ Δ' : Chunk) (hl : LentAt 71 2 encC ((-77, 0) : Int × Int) v xs Δ) (hu : View 2 encC u ys Δ') (hn : xs.length ≤ 900000) (hn' : ys.length ≤ 900000) :
    FnG Try.prog 22 [v, u] [Δ, Δ'] (fun r Δs => r = .bool (decide (xs = ys)) ∧ Δs = []) := by
  refine FnG.mk fun E F w hS hF => ?_
  have hF0 : Δ ∈ F := hF _ (by simp)
  have hF1 : Δ' ∈ F := hF _ (by simp)
  have hvl := hl.view (by exact fun _ => rfl)
  obtain ⟨v9, g9, cp, rfl, rfl, hcp, hvw⟩ := hl.full (by exact fun _ => rfl)
  refine returns_enter Try.func22 rfl Try.ntmps22 rfl ?_
  refine cw_seq fun K1 hK1 => ?_
  refine cw_region ?_
  refine wl_op rfl rfl (ow_vr (vr_assign (v := .bool false) rfl) ?_)
  refine wl_nil ?_
  refine hK1 _ _ ?_
  refine cw_seq fun K2 hK2 => ?_
  refine cw_region ?_
  refine wl_op rfl rfl (ow_vr (vr_move (v := .slice (some ⟨g9, 0, none⟩) xs.length cp) rfl) ?_)
  refine wl_op rfl rfl (ow_vr (vr_move (v := u) rfl) ?_)
  refine wl_op rfl rfl (ow_fng (vs := [.slice (some ⟨g9, 0, none⟩) xs.length cp, u]) en_21 rfl hS (book_SameChanges xs ys _ u Δ Δ' hvl hu (by omega) (by omega)) (by repeat (first | exact needs0 | (refine needsC ?_ ?_; · (repeat (first | exact List.mem_cons_self | assumption | refine List.mem_cons_of_mem _ ?_))))) ?_)
  clear hS; rintro v7 _ w ⟨rfl, rfl⟩ hS; (try simp only [List.cons_append, List.nil_append] at hS)
  refine wl_op rfl rfl (ow_vr (vr_move (v := .bool _) rfl) ?_)
  refine wl_split 8 rfl (fun hc => ?_) (fun hc => ?_)
  · (try simp only [decide_eq_true_eq, decide_eq_false_iff_not, Bool.not_eq_true, Bool.not_eq_false, Bool.not_eq_true', Bool.not_eq_false', Bool.and_eq_true, Bool.or_eq_true, Bool.and_eq_false_iff, Bool.or_eq_false_iff, Int.not_lt, Int.not_le, gt_iff_lt, ge_iff_le, ne_eq, Decidable.not_not, beq_iff_eq] at hc)
    have hg8 := hc; clear hc
    refine wl_yes rfl rfl rfl rfl rfl (ow_vr (vr_move (v := .slice (some ⟨g9, 0, none⟩) xs.length cp) rfl) ?_)
    refine wl_yes rfl rfl rfl rfl rfl (ow_vr (vr_move (v := .slice (some ⟨g9, 0, none⟩) xs.length cp) rfl) ?_)
    first | (refine wl_yes rfl rfl rfl rfl rfl (ow_vr (vr_len_sl Try.underlying24 rfl) ?_)) | (refine wl_yes rfl rfl rfl rfl rfl (ow_vr (vr_len_v (v := .slice (some ⟨g9, 0, none⟩) xs.length cp) Try.underlying24 rfl (by first | assumption | (refine Own.view ?_ (by assumption); exact fun _ => rfl) | exact OwnB.view (by assumption))) ?_))
    refine wl_yes rfl rfl rfl rfl rfl (ow_vr (vr_as (v' := .int .i64 ((xs.length + 1 : Nat) : Int)) (vr_addi rfl rfl (by unfold inI64; omega)) (i64_as (by omega))) ?_)
    refine wl_yes rfl rfl rfl rfl rfl (ow_vr (vr_slice_re (a := some ⟨g9, 0, none⟩) (c := cp) (h := xs.length + 1) Try.underlying24 sz_71 rfl rfl hcp (by omega) (fun _ h => by cases h; rfl)) ?_)
    refine wl_yes rfl rfl rfl rfl rfl (ow_vr (vr_move (v := .slice (some ⟨g9, 0, none⟩) xs.length cp) rfl) ?_)
    first | (refine wl_yes rfl rfl rfl rfl rfl (ow_vr (vr_len_sl Try.underlying24 rfl) ?_)) | (refine wl_yes rfl rfl rfl rfl rfl (ow_vr (vr_len_v (v := .slice (some ⟨g9, 0, none⟩) xs.length cp) Try.underlying24 rfl (by first | assumption | (refine Own.view ?_ (by assumption); exact fun _ => rfl) | exact OwnB.view (by assumption))) ?_))
    refine wl_yes rfl rfl rfl rfl rfl (ow_vr (vr_indexV (v := .slice (some ⟨g9, 0, none⟩) (xs.length + 1) cp) Try.underlying24 sz_71 rfl hvw rfl (by omega) (by simp; omega)) ?_)
    first | (refine wl_yes rfl rfl rfl rfl rfl (ow_vr (vr_fieldAddr fo_71_0 rfl) ?_)) | (refine wl_yes rfl rfl rfl rfl rfl (ow_vr (vr_fieldAddrV fo_71_0 rfl (by first | assumption | (refine Own.view ?_ (by assumption); exact fun _ => rfl) | exact OwnB.view (by assumption)) (by first | omega | (simp <;> omega))) ?_))
    refine wl_yes rfl rfl rfl rfl rfl (ow_lr (S := Sat _ _) (lr_loadV1 (u := .int .i64 _) Try.underlying3 rfl rfl hvw (by repeat (first | exact List.mem_cons_self | assumption | refine List.mem_cons_of_mem _ ?_)) (at_end) (by exact fun _ => rfl) (by rfl)) hS ?_)
    refine wl_yes rfl rfl rfl rfl rfl (ow_vr (vr_eql rfl rfl) ?_)
    refine wl_op rfl rfl (ow_vr (vr_pick (b := true) (v := .bool _) rfl rfl) ?_)
    refine wl_op rfl rfl (ow_vr (vr_assign (v := .bool _) rfl) ?_)
    refine wl_nil ?_
    refine hK2 _ _ ?_
    refine cw_ret ?_
    refine ret_one (fn := Try.f22) (n := 21) (t := 4) (.inl rfl) rfl rfl ?_
    exact ⟨[], ⟨congrArg Value.bool (by first | (symm; exact decide_eq_false hg8) | (rw [decide_eq_true hg8]; rfl)), rfl⟩, hS⟩
  · (try simp only [decide_eq_true_eq, decide_eq_false_iff_not, Bool.not_eq_true, Bool.not_eq_false, Bool.not_eq_true', Bool.not_eq_false', Bool.and_eq_true, Bool.or_eq_true, Bool.and_eq_false_iff, Bool.or_eq_false_iff, Int.not_lt, Int.not_le, gt_iff_lt, ge_iff_le, ne_eq, Decidable.not_not, beq_iff_eq] at hc)
    have hg8 := hc; clear hc
    refine wl_noD rfl rfl rfl rfl rfl rfl ?_
    refine wl_noD rfl rfl rfl rfl rfl rfl ?_
    refine wl_noD rfl rfl rfl rfl rfl rfl ?_
    refine wl_noD rfl rfl rfl rfl rfl rfl ?_
    refine wl_noD rfl rfl rfl rfl rfl rfl ?_
    refine wl_noD rfl rfl rfl rfl rfl rfl ?_
    refine wl_noD rfl rfl rfl rfl rfl rfl ?_
    refine wl_noD rfl rfl rfl rfl rfl rfl ?_
    refine wl_noD rfl rfl rfl rfl rfl rfl ?_
    refine wl_noD rfl rfl rfl rfl rfl rfl ?_
    refine wl_noD rfl rfl rfl rfl rfl rfl ?_
    refine wl_op rfl rfl (ow_vr (vr_pick (b := false) (v := .bool _) rfl rfl) ?_)
    refine wl_op rfl rfl (ow_vr (vr_assign (v := .bool _) rfl) ?_)
    refine wl_nil ?_
    refine hK2 _ _ ?_
    refine cw_ret ?_
    refine ret_one (fn := Try.f22) (n := 21) (t := 4) (.inl rfl) rfl rfl ?_
    exact ⟨[], ⟨congrArg Value.bool (by first | (symm; exact decide_eq_false hg8) | (rw [decide_eq_true hg8]; rfl)), rfl⟩, hS⟩
theorem book_LentEntries (xs : List Entr) (v : Value) (Δ : Chunk) (hv : View 5 encE v xs Δ) (hn : xs.length ≤ 900000) :
    FnG Try.prog 13 [v] [Δ] (fun r Δs => ∃ D, Δs = [D] ∧ LentAt 23 5 encE (⟨-77, 0, 0, 0, 0⟩ : Entr) r xs D) := by
  refine FnG.mk fun E F w hS hF => ?_
  have hF0 : Δ ∈ F := hF _ (by simp)
  refine returns_enter Try.func13 rfl Try.ntmps13 rfl ?_
  refine cw_seq fun K1 hK1 => ?_
  refine cw_region ?_
  refine wl_op rfl rfl (ow_vr (vr_assign (v := .slice none 0 0) rfl) ?_)
  refine wl_nil ?_
  refine hK1 _ _ ?_
  refine cw_seq fun K2 hK2 => ?_
  refine cw_region ?_
  refine wl_op rfl rfl (ow_vr (vr_move (v := v) rfl) ?_)
  refine wl_op rfl rfl (ow_fng (vs := [v]) en_51 rfl hS (book_copyEntries xs v Δ hv (by omega)) (by repeat (first | exact needs0 | (refine needsC ?_ ?_; · (repeat (first | exact List.mem_cons_self | assumption | refine List.mem_cons_of_mem _ ?_))))) ?_)
  clear hS; rintro v4 _ w ⟨D4, rfl, ho4⟩ hS; (try simp only [List.cons_append, List.nil_append] at hS)
  refine wl_op rfl rfl (ow_vr (vr_build (vs := [(0, .int .i64 _)]) (cs := [.int .i64 _, .int .i64 _, .int .i64 _, .int .i64 _, .int .i64 _]) zr_23 pl_23 rfl rfl) ?_)
  refine wl_op rfl rfl (ow_buildSliceD (m := 5) (len := 1) (vs := [.agg #[.int .i64 _, .int .i64 _, .int .i64 _, .int .i64 _, .int .i64 _]]) (cs := [.int .i64 _, .int .i64 _, .int .i64 _, .int .i64 _, .int .i64 _]) hS Try.underlying25 if_23 rfl (by decide) (by decide) rfl rfl (by simp [Value.cells]) rfl ?_)
  clear hS; intro b6 w hS
  refine wl_op rfl rfl (ow_append (v := v4) hS Try.underlying25 Try.underlying25 if_23 rfl (by decide) rfl rfl (by assumption) (View.single (x := (⟨-77, 0, 0, 0, 0⟩ : Entr)) rfl rfl (by decide)) (by first | exact HasC.here | exact HasC.there (HasC.here) | exact HasC.there (HasC.there (HasC.here)) | exact HasC.there (HasC.there (HasC.there (HasC.here))) | exact HasC.there (HasC.there (HasC.there (HasC.there (HasC.here)))) | exact HasC.there (HasC.there (HasC.there (HasC.there (HasC.there (HasC.here))))) | exact HasC.there (HasC.there (HasC.there (HasC.there (HasC.there (HasC.there (HasC.here)))))) | exact HasC.there (HasC.there (HasC.there (HasC.there (HasC.there (HasC.there (HasC.there (HasC.here))))))) | exact HasC.there (HasC.there (HasC.there (HasC.there (HasC.there (HasC.there (HasC.there (HasC.there (HasC.here))))))))) (by repeat (first | exact List.mem_cons_self | assumption | refine List.mem_cons_of_mem _ ?_)) (by exact fun _ => rfl) (by exact fun _ => rfl) (by first | omega | (simp [maxLen] <;> omega) | (simp <;> omega)) (by first | omega | (simp [maxLen] <;> omega) | (simp <;> omega)) ?_)
  clear hS; intro v7 D7 w ho7 hS
  refine wl_op rfl rfl (ow_vr (vr_move (v := v) rfl) ?_)
  refine wl_op rfl rfl (ow_vr (vr_len_v (v := v) Try.underlying25 rfl hv) ?_)
  refine wl_op rfl rfl (ow_vr (vr_slice_v (v := v7) (l := 0) (h := xs.length) Try.underlying25 sz_23 rfl (Own.view (by exact fun _ => rfl) ho7) rfl (by exact ⟨_, rfl⟩) (by omega) (by simp)) ?_)
  refine wl_op rfl rfl (ow_vr (vr_assign (v := subSl v7 5 0 xs.length) rfl) ?_)
  refine wl_nil ?_
  refine hK2 _ _ ?_
  refine cw_ret ?_
  refine ret_one (fn := Try.f13) (n := 11) (t := 2) (.inl rfl) rfl rfl ?_
  exact ⟨[D7], ⟨D7, rfl, v7, ho7, rfl⟩, hS.tail1⟩
theorem book_StaysEntries (xs ys : List Entr) (v u : Value) (Δ Δ' : Chunk) (hl : LentAt 23 5 encE (⟨-77, 0, 0, 0, 0⟩ : Entr) v xs Δ) (hu : View 5 encE u ys Δ') (hn : xs.length ≤ 900000) (hn' : ys.length ≤ 900000) :
    FnG Try.prog 23 [v, u] [Δ, Δ'] (fun r Δs => r = .bool (decide (xs = ys)) ∧ Δs = []) := by
  refine FnG.mk fun E F w hS hF => ?_
  have hF0 : Δ ∈ F := hF _ (by simp)
  have hF1 : Δ' ∈ F := hF _ (by simp)
  have hvl := hl.view (by exact fun _ => rfl)
  obtain ⟨v9, g9, cp, rfl, rfl, hcp, hvw⟩ := hl.full (by exact fun _ => rfl)
  refine returns_enter Try.func23 rfl Try.ntmps23 rfl ?_
  refine cw_seq fun K1 hK1 => ?_
  refine cw_region ?_
  refine wl_op rfl rfl (ow_vr (vr_assign (v := .bool false) rfl) ?_)
  refine wl_nil ?_
  refine hK1 _ _ ?_
  refine cw_seq fun K2 hK2 => ?_
  refine cw_region ?_
  refine wl_op rfl rfl (ow_vr (vr_move (v := .slice (some ⟨g9, 0, none⟩) xs.length cp) rfl) ?_)
  refine wl_op rfl rfl (ow_vr (vr_move (v := u) rfl) ?_)
  refine wl_op rfl rfl (ow_fng (vs := [.slice (some ⟨g9, 0, none⟩) xs.length cp, u]) en_20 rfl hS (book_SameEntries xs ys _ u Δ Δ' hvl hu (by omega) (by omega)) (by repeat (first | exact needs0 | (refine needsC ?_ ?_; · (repeat (first | exact List.mem_cons_self | assumption | refine List.mem_cons_of_mem _ ?_))))) ?_)
  clear hS; rintro v7 _ w ⟨rfl, rfl⟩ hS; (try simp only [List.cons_append, List.nil_append] at hS)
  refine wl_op rfl rfl (ow_vr (vr_move (v := .bool _) rfl) ?_)
  refine wl_split 8 rfl (fun hc => ?_) (fun hc => ?_)
  · (try simp only [decide_eq_true_eq, decide_eq_false_iff_not, Bool.not_eq_true, Bool.not_eq_false, Bool.not_eq_true', Bool.not_eq_false', Bool.and_eq_true, Bool.or_eq_true, Bool.and_eq_false_iff, Bool.or_eq_false_iff, Int.not_lt, Int.not_le, gt_iff_lt, ge_iff_le, ne_eq, Decidable.not_not, beq_iff_eq] at hc)
    have hg8 := hc; clear hc
    refine wl_yes rfl rfl rfl rfl rfl (ow_vr (vr_move (v := .slice (some ⟨g9, 0, none⟩) xs.length cp) rfl) ?_)
    refine wl_yes rfl rfl rfl rfl rfl (ow_vr (vr_move (v := .slice (some ⟨g9, 0, none⟩) xs.length cp) rfl) ?_)
    first | (refine wl_yes rfl rfl rfl rfl rfl (ow_vr (vr_len_sl Try.underlying25 rfl) ?_)) | (refine wl_yes rfl rfl rfl rfl rfl (ow_vr (vr_len_v (v := .slice (some ⟨g9, 0, none⟩) xs.length cp) Try.underlying25 rfl (by first | assumption | (refine Own.view ?_ (by assumption); exact fun _ => rfl) | exact OwnB.view (by assumption))) ?_))
    refine wl_yes rfl rfl rfl rfl rfl (ow_vr (vr_as (v' := .int .i64 ((xs.length + 1 : Nat) : Int)) (vr_addi rfl rfl (by unfold inI64; omega)) (i64_as (by omega))) ?_)
    refine wl_yes rfl rfl rfl rfl rfl (ow_vr (vr_slice_re (a := some ⟨g9, 0, none⟩) (c := cp) (h := xs.length + 1) Try.underlying25 sz_23 rfl rfl hcp (by omega) (fun _ h => by cases h; rfl)) ?_)
    refine wl_yes rfl rfl rfl rfl rfl (ow_vr (vr_move (v := .slice (some ⟨g9, 0, none⟩) xs.length cp) rfl) ?_)
    first | (refine wl_yes rfl rfl rfl rfl rfl (ow_vr (vr_len_sl Try.underlying25 rfl) ?_)) | (refine wl_yes rfl rfl rfl rfl rfl (ow_vr (vr_len_v (v := .slice (some ⟨g9, 0, none⟩) xs.length cp) Try.underlying25 rfl (by first | assumption | (refine Own.view ?_ (by assumption); exact fun _ => rfl) | exact OwnB.view (by assumption))) ?_))
    refine wl_yes rfl rfl rfl rfl rfl (ow_vr (vr_indexV (v := .slice (some ⟨g9, 0, none⟩) (xs.length + 1) cp) Try.underlying25 sz_23 rfl hvw rfl (by omega) (by simp; omega)) ?_)
    first | (refine wl_yes rfl rfl rfl rfl rfl (ow_vr (vr_fieldAddr fo_23_0 rfl) ?_)) | (refine wl_yes rfl rfl rfl rfl rfl (ow_vr (vr_fieldAddrV fo_23_0 rfl (by first | assumption | (refine Own.view ?_ (by assumption); exact fun _ => rfl) | exact OwnB.view (by assumption)) (by first | omega | (simp <;> omega))) ?_))
    refine wl_yes rfl rfl rfl rfl rfl (ow_lr (S := Sat _ _) (lr_loadV1 (u := .int .i64 _) Try.underlying3 rfl rfl hvw (by repeat (first | exact List.mem_cons_self | assumption | refine List.mem_cons_of_mem _ ?_)) (at_end) (by exact fun _ => rfl) (by rfl)) hS ?_)
    refine wl_yes rfl rfl rfl rfl rfl (ow_vr (vr_eql rfl rfl) ?_)
    refine wl_op rfl rfl (ow_vr (vr_pick (b := true) (v := .bool _) rfl rfl) ?_)
    refine wl_op rfl rfl (ow_vr (vr_assign (v := .bool _) rfl) ?_)
    refine wl_nil ?_
    refine hK2 _ _ ?_
    refine cw_ret ?_
    refine ret_one (fn := Try.f23) (n := 21) (t := 4) (.inl rfl) rfl rfl ?_
    exact ⟨[], ⟨congrArg Value.bool (by first | (symm; exact decide_eq_false hg8) | (rw [decide_eq_true hg8]; rfl)), rfl⟩, hS⟩
  · (try simp only [decide_eq_true_eq, decide_eq_false_iff_not, Bool.not_eq_true, Bool.not_eq_false, Bool.not_eq_true', Bool.not_eq_false', Bool.and_eq_true, Bool.or_eq_true, Bool.and_eq_false_iff, Bool.or_eq_false_iff, Int.not_lt, Int.not_le, gt_iff_lt, ge_iff_le, ne_eq, Decidable.not_not, beq_iff_eq] at hc)
    have hg8 := hc; clear hc
    refine wl_noD rfl rfl rfl rfl rfl rfl ?_
    refine wl_noD rfl rfl rfl rfl rfl rfl ?_
    refine wl_noD rfl rfl rfl rfl rfl rfl ?_
    refine wl_noD rfl rfl rfl rfl rfl rfl ?_
    refine wl_noD rfl rfl rfl rfl rfl rfl ?_
    refine wl_noD rfl rfl rfl rfl rfl rfl ?_
    refine wl_noD rfl rfl rfl rfl rfl rfl ?_
    refine wl_noD rfl rfl rfl rfl rfl rfl ?_
    refine wl_noD rfl rfl rfl rfl rfl rfl ?_
    refine wl_noD rfl rfl rfl rfl rfl rfl ?_
    refine wl_noD rfl rfl rfl rfl rfl rfl ?_
    refine wl_op rfl rfl (ow_vr (vr_pick (b := false) (v := .bool _) rfl rfl) ?_)
    refine wl_op rfl rfl (ow_vr (vr_assign (v := .bool _) rfl) ?_)
    refine wl_nil ?_
    refine hK2 _ _ ?_
    refine cw_ret ?_
    refine ret_one (fn := Try.f23) (n := 21) (t := 4) (.inl rfl) rfl rfl ?_
    exact ⟨[], ⟨congrArg Value.bool (by first | (symm; exact decide_eq_false hg8) | (rw [decide_eq_true hg8]; rfl)), rfl⟩, hS⟩
end Go.Proofs.Ytjcagoighpmdkaa
