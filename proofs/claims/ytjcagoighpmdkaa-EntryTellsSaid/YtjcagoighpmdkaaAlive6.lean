/- Chapter 6's first call. -/
import Derived.Test.YtjcagoighpmdkaaEntry
namespace Go.Proofs.Ytjcagoighpmdkaa
open Go Go.RowKit
set_option linter.unusedVariables false
set_option linter.unusedSimpArgs false
attribute [local irreducible] actF WL CW OW PL SW VR LR yes Returns Fn
theorem alive6_group (v : Value) (Δ : Chunk) (hv : View 2 encC v [(1, 7), (2, 8)] Δ) :
    FnG Try.prog 14 [.int .i64 5, .int .i64 2, v] [Δ] (fun u Δs => ∃ v' D, u = .tuple #[v', .bool true] ∧ Δs = [D] ∧ Own 23 5 encE v' [⟨1, 5, 2, 1, 7⟩, ⟨1, 6, 2, 2, 8⟩, ⟨2, 7, 2, 2, 0⟩] D) := by
  have h := entry_Group 5 2 [(1, 7), (2, 8)] v Δ hv (by simp) (by omega) (by omega)
  rw [show groupL 5 2 [(1, 7), (2, 8)] = [⟨1, 5, 2, 1, 7⟩, ⟨1, 6, 2, 2, 8⟩, ⟨2, 7, 2, 2, 0⟩] from rfl, show List.all _ rightE = true from by decide] at h
  exact h
theorem alive6 : FnV Try.prog 5 [] (.bool true) := by
  refine FnV.mk fun E F w hS => ?_
  refine returns_enter Try.func5 rfl Try.ntmps5 rfl ?_
  refine cw_seq fun K1 hK1 => ?_
  refine cw_region ?_
  refine wl_op rfl rfl (ow_vr (vr_assign (v := .bool false) rfl) ?_)
  refine wl_nil ?_
  refine hK1 _ _ ?_
  refine cw_seq fun K2 hK2 => ?_
  refine cw_region ?_
  refine wl_op rfl rfl (ow_vr (vr_build (vs := [(0, .int .i64 _), (1, .int .i64 _)]) (cs := [.int .i64 _, .int .i64 _]) zr_71 pl_71 rfl rfl) ?_)
  refine wl_op rfl rfl (ow_vr (vr_build (vs := [(0, .int .i64 _), (1, .int .i64 _)]) (cs := [.int .i64 _, .int .i64 _]) zr_71 pl_71 rfl rfl) ?_)
  refine wl_op rfl rfl (ow_buildSliceD (m := 2) (len := 2) (vs := [.agg #[.int .i64 _, .int .i64 _], .agg #[.int .i64 _, .int .i64 _]]) (cs := [.int .i64 _, .int .i64 _, .int .i64 _, .int .i64 _]) hS Try.underlying24 if_71 rfl (by decide) (by decide) rfl rfl (by simp [Value.cells]) rfl ?_)
  clear hS; intro b8 w hS
  refine wl_op rfl rfl (ow_fng (vs := [.int .i64 _, .int .i64 _, .slice _ _ _]) en_14 rfl hS (alive6_group _ _ (View.lits rfl rfl rfl)) (by repeat (first | exact needs0 | (refine needsC ?_ ?_; · (repeat (first | exact List.mem_cons_self | assumption | refine List.mem_cons_of_mem _ ?_))))) ?_)
  clear hS; rintro v9 _ w ⟨v9, D9, rfl, rfl, ho9⟩ hS; (try simp only [List.cons_append, List.nil_append] at hS)
  refine wl_op rfl rfl (ow_vr (vr_move (v := .tuple _) rfl) ?_)
  refine wl_op rfl rfl (ow_vr (vr_extract (v := v9) rfl rfl) ?_)
  refine wl_op rfl rfl (ow_vr (vr_extract (v := .bool _) rfl rfl) ?_)
  refine wl_op rfl rfl (ow_vr (vr_assign (v := v9) rfl) ?_)
  refine wl_op rfl rfl (ow_vr (vr_assign (v := .bool _) rfl) ?_)
  refine wl_nil ?_
  refine hK2 _ _ ?_
  refine cw_seq fun K3 hK3 => ?_
  refine cw_seq fun K4 hK4 => ?_
  refine cw_region ?_
  refine wl_op rfl rfl (ow_vr (vr_move (v := .bool _) rfl) ?_)
  refine wl_op rfl rfl (ow_vr (vr_not rfl) ?_)
  refine wl_op rfl rfl (ow_vr (vr_move (v := .bool _) rfl) ?_)
  refine wl_known 14 rfl (c := false) (rfl) ?_
  refine wl_yes rfl rfl rfl rfl rfl (ow_vr (vr_move (v := v9) rfl) ?_)
  first | (refine wl_yes rfl rfl rfl rfl rfl (ow_vr (vr_len_sl Try.underlying25 rfl) ?_)) | (refine wl_yes rfl rfl rfl rfl rfl (ow_vr (vr_len_v (v := v9) Try.underlying25 rfl (by first | assumption | (refine Own.view ?_ (by assumption); exact fun _ => rfl) | exact OwnB.view (by assumption))) ?_))
  refine wl_yes rfl rfl rfl rfl rfl (ow_vr (vr_neq rfl rfl) ?_)
  refine wl_op rfl rfl (ow_vr (vr_pick (b := false) (v := .bool _) rfl rfl) ?_)
  refine wl_nil ?_
  refine hK4 _ _ ?_
  refine cw_cond_f rfl rfl (by decide) ?_
  refine cw_skip ?_
  refine hK3 _ _ ?_
  refine cw_seq fun K5 hK5 => ?_
  refine cw_region ?_
  refine wl_op rfl rfl (ow_vr (vr_move (v := v9) rfl) ?_)
  refine wl_op rfl rfl (ow_vr (vr_build (vs := [(0, .int .i64 _)]) (cs := [.int .i64 _, .int .i64 _, .int .i64 _, .int .i64 _, .int .i64 _]) zr_23 pl_23 rfl rfl) ?_)
  refine wl_op rfl rfl (ow_buildSliceD (m := 5) (len := 1) (vs := [.agg #[.int .i64 _, .int .i64 _, .int .i64 _, .int .i64 _, .int .i64 _]]) (cs := [.int .i64 _, .int .i64 _, .int .i64 _, .int .i64 _, .int .i64 _]) hS Try.underlying25 if_23 rfl (by decide) (by decide) rfl rfl (by simp [Value.cells]) rfl ?_)
  clear hS; intro b22 w hS
  refine wl_op rfl rfl (ow_append_keep (v := v9) hS Try.underlying25 Try.underlying25 if_23 rfl (by decide) rfl rfl (by assumption) (View.single (x := (⟨1, 0, 0, 0, 0⟩ : Entr)) rfl rfl (by decide)) (by first | exact HasC.here | exact HasC.there (HasC.here) | exact HasC.there (HasC.there (HasC.here)) | exact HasC.there (HasC.there (HasC.there (HasC.here))) | exact HasC.there (HasC.there (HasC.there (HasC.there (HasC.here)))) | exact HasC.there (HasC.there (HasC.there (HasC.there (HasC.there (HasC.here))))) | exact HasC.there (HasC.there (HasC.there (HasC.there (HasC.there (HasC.there (HasC.here)))))) | exact HasC.there (HasC.there (HasC.there (HasC.there (HasC.there (HasC.there (HasC.there (HasC.here))))))) | exact HasC.there (HasC.there (HasC.there (HasC.there (HasC.there (HasC.there (HasC.there (HasC.there (HasC.here))))))))) (by repeat (first | exact List.mem_cons_self | assumption | refine List.mem_cons_of_mem _ ?_)) (by exact fun _ => rfl) (by exact fun _ => rfl) (by first | omega | (simp [maxLen] <;> omega) | (simp <;> omega)) (by first | omega | (simp [maxLen] <;> omega) | (simp <;> omega)) ?_)
  clear hS; intro v23 D23 w hv23_old hv23 hS
  refine wl_op rfl rfl (ow_fng (vs := [v23]) en_16 rfl hS (entry_Changes _ _ _ hv23 (by simp)) (by repeat (first | exact needs0 | (refine needsC ?_ ?_; · (repeat (first | exact List.mem_cons_self | assumption | refine List.mem_cons_of_mem _ ?_))))) ?_)
  clear hS; rintro v24 _ w ⟨v24, D24, rfl, rfl, ho24⟩ hS; (try simp only [List.cons_append, List.nil_append] at hS)
  refine wl_op rfl rfl (ow_vr (vr_move (v := .tuple _) rfl) ?_)
  refine wl_op rfl rfl (ow_vr (vr_extract (v := v24) rfl rfl) ?_)
  refine wl_op rfl rfl (ow_vr (vr_extract (v := .int .i64 _) rfl rfl) ?_)
  refine wl_op rfl rfl (ow_vr (vr_assign (v := v24) rfl) ?_)
  refine wl_op rfl rfl (ow_vr (vr_assign (v := .int .i64 _) rfl) ?_)
  refine wl_nil ?_
  refine hK5 _ _ ?_
  refine cw_seq fun K6 hK6 => ?_
  refine cw_region ?_
  refine wl_op rfl rfl (ow_vr (vr_move (v := v24) rfl) ?_)
  first | (refine wl_op rfl rfl (ow_vr (vr_len_sl Try.underlying24 rfl) ?_)) | (refine wl_op rfl rfl (ow_vr (vr_len_v (v := v24) Try.underlying24 rfl (by first | assumption | (refine Own.view ?_ (by assumption); exact fun _ => rfl) | exact OwnB.view (by assumption))) ?_))
  refine wl_op rfl rfl (ow_vr (vr_eql rfl rfl) ?_)
  refine wl_op rfl rfl (ow_vr (vr_move (v := .bool _) rfl) ?_)
  refine wl_known 30 rfl (c := true) (by decide) ?_
  refine wl_yes rfl rfl rfl rfl rfl (ow_vr (vr_move (v := .int .i64 _) rfl) ?_)
  refine wl_yes rfl rfl rfl rfl rfl (ow_vr (vr_eql rfl rfl) ?_)
  refine wl_op rfl rfl (ow_vr (vr_pick (b := true) (v := .bool _) rfl rfl) ?_)
  refine wl_op rfl rfl (ow_vr (vr_move (v := .bool _) rfl) ?_)
  refine wl_known 34 rfl (c := true) (by decide) ?_
  refine wl_yes rfl rfl rfl rfl rfl (ow_vr (vr_move (v := v9) rfl) ?_)
  first | (refine wl_yes rfl rfl rfl rfl rfl (ow_vr (vr_indexAddr Try.underlying25 sz_23 rfl rfl (by omega) (by omega)) ?_)) | (refine wl_yes rfl rfl rfl rfl rfl (ow_vr (vr_indexV (v := v9) Try.underlying25 sz_23 rfl (by first | assumption | (refine Own.view ?_ (by assumption); exact fun _ => rfl) | exact OwnB.view (by assumption)) rfl (by omega) (by first | omega | (simp <;> omega))) ?_))
  first | (refine wl_yes rfl rfl rfl rfl rfl (ow_vr (vr_fieldAddr fo_23_0 rfl) ?_)) | (refine wl_yes rfl rfl rfl rfl rfl (ow_vr (vr_fieldAddrV fo_23_0 rfl (by first | assumption | (refine Own.view ?_ (by assumption); exact fun _ => rfl) | exact OwnB.view (by assumption)) (by first | omega | (simp <;> omega))) ?_))
  refine wl_yes rfl rfl rfl rfl rfl (ow_lr (S := Sat _ _) (lr_loadV1 (u := .int .i64 _) Try.underlying3 rfl rfl hv23_old (by repeat (first | exact List.mem_cons_self | assumption | refine List.mem_cons_of_mem _ ?_)) (rfl) (by exact fun _ => rfl) (by rfl)) hS ?_)
  refine wl_yes rfl rfl rfl rfl rfl (ow_vr (vr_eql rfl rfl) ?_)
  refine wl_op rfl rfl (ow_vr (vr_pick (b := true) (v := .bool _) rfl rfl) ?_)
  refine wl_op rfl rfl (ow_vr (vr_move (v := .bool _) rfl) ?_)
  refine wl_known 41 rfl (c := true) (by decide) ?_
  refine wl_yes rfl rfl rfl rfl rfl (ow_vr (vr_move (v := v9) rfl) ?_)
  first | (refine wl_yes rfl rfl rfl rfl rfl (ow_vr (vr_indexAddr Try.underlying25 sz_23 rfl rfl (by omega) (by omega)) ?_)) | (refine wl_yes rfl rfl rfl rfl rfl (ow_vr (vr_indexV (v := v9) Try.underlying25 sz_23 rfl (by first | assumption | (refine Own.view ?_ (by assumption); exact fun _ => rfl) | exact OwnB.view (by assumption)) rfl (by omega) (by first | omega | (simp <;> omega))) ?_))
  first | (refine wl_yes rfl rfl rfl rfl rfl (ow_vr (vr_fieldAddr fo_23_3 rfl) ?_)) | (refine wl_yes rfl rfl rfl rfl rfl (ow_vr (vr_fieldAddrV fo_23_3 rfl (by first | assumption | (refine Own.view ?_ (by assumption); exact fun _ => rfl) | exact OwnB.view (by assumption)) (by first | omega | (simp <;> omega))) ?_))
  refine wl_yes rfl rfl rfl rfl rfl (ow_lr (S := Sat _ _) (lr_loadV1 (u := .int .i64 _) Try.underlying3 rfl rfl hv23_old (by repeat (first | exact List.mem_cons_self | assumption | refine List.mem_cons_of_mem _ ?_)) (rfl) (by exact fun _ => rfl) (by rfl)) hS ?_)
  refine wl_yes rfl rfl rfl rfl rfl (ow_vr (vr_eql rfl rfl) ?_)
  refine wl_op rfl rfl (ow_vr (vr_pick (b := true) (v := .bool _) rfl rfl) ?_)
  refine wl_op rfl rfl (ow_vr (vr_move (v := .bool _) rfl) ?_)
  refine wl_known 48 rfl (c := true) (by decide) ?_
  refine wl_yes rfl rfl rfl rfl rfl (ow_vr (vr_move (v := v9) rfl) ?_)
  first | (refine wl_yes rfl rfl rfl rfl rfl (ow_vr (vr_indexAddr Try.underlying25 sz_23 rfl rfl (by omega) (by omega)) ?_)) | (refine wl_yes rfl rfl rfl rfl rfl (ow_vr (vr_indexV (v := v9) Try.underlying25 sz_23 rfl (by first | assumption | (refine Own.view ?_ (by assumption); exact fun _ => rfl) | exact OwnB.view (by assumption)) rfl (by omega) (by first | omega | (simp <;> omega))) ?_))
  first | (refine wl_yes rfl rfl rfl rfl rfl (ow_vr (vr_fieldAddr fo_23_1 rfl) ?_)) | (refine wl_yes rfl rfl rfl rfl rfl (ow_vr (vr_fieldAddrV fo_23_1 rfl (by first | assumption | (refine Own.view ?_ (by assumption); exact fun _ => rfl) | exact OwnB.view (by assumption)) (by first | omega | (simp <;> omega))) ?_))
  refine wl_yes rfl rfl rfl rfl rfl (ow_lr (S := Sat _ _) (lr_loadV1 (u := .int .i64 _) Try.underlying3 rfl rfl hv23_old (by repeat (first | exact List.mem_cons_self | assumption | refine List.mem_cons_of_mem _ ?_)) (rfl) (by exact fun _ => rfl) (by rfl)) hS ?_)
  refine wl_yes rfl rfl rfl rfl rfl (ow_vr (vr_eql rfl rfl) ?_)
  refine wl_op rfl rfl (ow_vr (vr_pick (b := true) (v := .bool _) rfl rfl) ?_)
  refine wl_op rfl rfl (ow_vr (vr_assign (v := .bool _) rfl) ?_)
  refine wl_nil ?_
  refine hK6 _ _ ?_
  refine cw_ret ?_
  refine ret_one (fn := Try.f5) (n := 55) (t := 0) (.inl rfl) rfl rfl ?_
  exact ⟨congrArg Value.bool (by decide), hS.tail1.tail1.tail1.tail1⟩
end Go.Proofs.Ytjcagoighpmdkaa
