/- The laws of chapter 6: groups cut anywhere. -/
import Derived.Test.YtfekgjdahckdhaaBook
import Derived.Test.YtfekgjdahckdhaaArgs
namespace Go.Proofs.Ytfekgjdahckdhaa
open Go Go.RowKit
set_option linter.unusedVariables false
set_option linter.unusedSimpArgs false
attribute [local irreducible] actF WL CW OW PL SW VR LR yes Returns Fn
theorem alive6_group (v : Value) (Δ : Chunk) (hv : View 2 encC v [(1, 7), (2, 8)] Δ) :
    FnG Try.prog 32 [.int .i64 5, .int .i64 2, v] [Δ] (fun u Δs => ∃ v' D, u = .tuple #[v', .bool true] ∧ Δs = [D] ∧ Own 72 5 encE v' [⟨1, 5, 2, 1, 7⟩, ⟨1, 6, 2, 2, 8⟩, ⟨2, 7, 2, 2, 0⟩] D) := by
  have h := entry_Group 5 2 [(1, 7), (2, 8)] v Δ hv (by simp) (by omega) (by omega)
  rw [show groupL 5 2 [(1, 7), (2, 8)] = [⟨1, 5, 2, 1, 7⟩, ⟨1, 6, 2, 2, 8⟩, ⟨2, 7, 2, 2, 0⟩] from rfl, show List.all _ rightE = true from by decide] at h
  exact h
theorem alive6 : FnV Try.prog 31 [] (.bool true) := by
  refine FnV.mk fun E F w hS => ?_
  refine returns_enter Try.func31 rfl Try.ntmps31 rfl ?_
  refine cw_seq fun K1 hK1 => ?_
  refine cw_region ?_
  refine wl_op rfl rfl (ow_vr (vr_assign rfl) ?_)
  refine wl_nil ?_
  refine hK1 _ _ ?_
  refine cw_seq fun K2 hK2 => ?_
  refine cw_region ?_
  refine wl_op rfl rfl (ow_vr (vr_build (vs := [(0, .int .i64 _), (1, .int .i64 _)]) (cs := [.int .i64 _, .int .i64 _]) zr_70 pl_70 rfl rfl) ?_)
  refine wl_op rfl rfl (ow_vr (vr_build (vs := [(0, .int .i64 _), (1, .int .i64 _)]) (cs := [.int .i64 _, .int .i64 _]) zr_70 pl_70 rfl rfl) ?_)
  refine wl_op rfl rfl (ow_buildSliceD (m := 2) (len := 2) (vs := [.agg #[.int .i64 _, .int .i64 _], .agg #[.int .i64 _, .int .i64 _]]) (cs := [.int .i64 _, .int .i64 _, .int .i64 _, .int .i64 _]) hS Try.underlying35 if_70 rfl (by decide) (by decide) rfl rfl (by simp [Value.cells]) rfl ?_)
  clear hS; intro b8 w hS
  refine wl_op rfl rfl (ow_fng (vs := [.int .i64 _, .int .i64 _, .slice _ _ _]) en_32 rfl hS (alive6_group _ _ (View.lits rfl rfl rfl)) (by first | exact needs1 (by first | exact List.Mem.head _ | exact List.Mem.tail _ (List.Mem.head _) | exact List.Mem.tail _ (List.Mem.tail _ (List.Mem.head _)) | exact List.Mem.tail _ (List.Mem.tail _ (List.Mem.tail _ (List.Mem.head _))) | exact List.Mem.tail _ (List.Mem.tail _ (List.Mem.tail _ (List.Mem.tail _ (List.Mem.head _)))) | exact List.Mem.tail _ (List.Mem.tail _ (List.Mem.tail _ (List.Mem.tail _ (List.Mem.tail _ (List.Mem.head _))))) | exact List.Mem.tail _ (List.Mem.tail _ (List.Mem.tail _ (List.Mem.tail _ (List.Mem.tail _ (List.Mem.tail _ (List.Mem.head _)))))) | exact List.Mem.tail _ (List.Mem.tail _ (List.Mem.tail _ (List.Mem.tail _ (List.Mem.tail _ (List.Mem.tail _ (List.Mem.tail _ (List.Mem.head _))))))) | exact List.Mem.tail _ (List.Mem.tail _ (List.Mem.tail _ (List.Mem.tail _ (List.Mem.tail _ (List.Mem.tail _ (List.Mem.tail _ (List.Mem.tail _ (List.Mem.head _)))))))) | exact (by assumption) | exact List.Mem.tail _ ((by assumption)) | exact List.Mem.tail _ (List.Mem.tail _ ((by assumption))) | exact List.Mem.tail _ (List.Mem.tail _ (List.Mem.tail _ ((by assumption)))) | exact List.Mem.tail _ (List.Mem.tail _ (List.Mem.tail _ (List.Mem.tail _ ((by assumption))))) | exact List.Mem.tail _ (List.Mem.tail _ (List.Mem.tail _ (List.Mem.tail _ (List.Mem.tail _ ((by assumption))))))) | exact needs0 | exact needs2 (by first | exact List.Mem.head _ | exact List.Mem.tail _ (List.Mem.head _) | exact List.Mem.tail _ (List.Mem.tail _ (List.Mem.head _)) | exact List.Mem.tail _ (List.Mem.tail _ (List.Mem.tail _ (List.Mem.head _))) | exact List.Mem.tail _ (List.Mem.tail _ (List.Mem.tail _ (List.Mem.tail _ (List.Mem.head _)))) | exact List.Mem.tail _ (List.Mem.tail _ (List.Mem.tail _ (List.Mem.tail _ (List.Mem.tail _ (List.Mem.head _))))) | exact List.Mem.tail _ (List.Mem.tail _ (List.Mem.tail _ (List.Mem.tail _ (List.Mem.tail _ (List.Mem.tail _ (List.Mem.head _)))))) | exact List.Mem.tail _ (List.Mem.tail _ (List.Mem.tail _ (List.Mem.tail _ (List.Mem.tail _ (List.Mem.tail _ (List.Mem.tail _ (List.Mem.head _))))))) | exact List.Mem.tail _ (List.Mem.tail _ (List.Mem.tail _ (List.Mem.tail _ (List.Mem.tail _ (List.Mem.tail _ (List.Mem.tail _ (List.Mem.tail _ (List.Mem.head _)))))))) | exact (by assumption) | exact List.Mem.tail _ ((by assumption)) | exact List.Mem.tail _ (List.Mem.tail _ ((by assumption))) | exact List.Mem.tail _ (List.Mem.tail _ (List.Mem.tail _ ((by assumption)))) | exact List.Mem.tail _ (List.Mem.tail _ (List.Mem.tail _ (List.Mem.tail _ ((by assumption))))) | exact List.Mem.tail _ (List.Mem.tail _ (List.Mem.tail _ (List.Mem.tail _ (List.Mem.tail _ ((by assumption))))))) (by first | exact List.Mem.head _ | exact List.Mem.tail _ (List.Mem.head _) | exact List.Mem.tail _ (List.Mem.tail _ (List.Mem.head _)) | exact List.Mem.tail _ (List.Mem.tail _ (List.Mem.tail _ (List.Mem.head _))) | exact List.Mem.tail _ (List.Mem.tail _ (List.Mem.tail _ (List.Mem.tail _ (List.Mem.head _)))) | exact List.Mem.tail _ (List.Mem.tail _ (List.Mem.tail _ (List.Mem.tail _ (List.Mem.tail _ (List.Mem.head _))))) | exact List.Mem.tail _ (List.Mem.tail _ (List.Mem.tail _ (List.Mem.tail _ (List.Mem.tail _ (List.Mem.tail _ (List.Mem.head _)))))) | exact List.Mem.tail _ (List.Mem.tail _ (List.Mem.tail _ (List.Mem.tail _ (List.Mem.tail _ (List.Mem.tail _ (List.Mem.tail _ (List.Mem.head _))))))) | exact List.Mem.tail _ (List.Mem.tail _ (List.Mem.tail _ (List.Mem.tail _ (List.Mem.tail _ (List.Mem.tail _ (List.Mem.tail _ (List.Mem.tail _ (List.Mem.head _)))))))) | exact (by assumption) | exact List.Mem.tail _ ((by assumption)) | exact List.Mem.tail _ (List.Mem.tail _ ((by assumption))) | exact List.Mem.tail _ (List.Mem.tail _ (List.Mem.tail _ ((by assumption)))) | exact List.Mem.tail _ (List.Mem.tail _ (List.Mem.tail _ (List.Mem.tail _ ((by assumption))))) | exact List.Mem.tail _ (List.Mem.tail _ (List.Mem.tail _ (List.Mem.tail _ (List.Mem.tail _ ((by assumption))))))) | exact needs3 (by first | exact List.Mem.head _ | exact List.Mem.tail _ (List.Mem.head _) | exact List.Mem.tail _ (List.Mem.tail _ (List.Mem.head _)) | exact List.Mem.tail _ (List.Mem.tail _ (List.Mem.tail _ (List.Mem.head _))) | exact List.Mem.tail _ (List.Mem.tail _ (List.Mem.tail _ (List.Mem.tail _ (List.Mem.head _)))) | exact List.Mem.tail _ (List.Mem.tail _ (List.Mem.tail _ (List.Mem.tail _ (List.Mem.tail _ (List.Mem.head _))))) | exact List.Mem.tail _ (List.Mem.tail _ (List.Mem.tail _ (List.Mem.tail _ (List.Mem.tail _ (List.Mem.tail _ (List.Mem.head _)))))) | exact List.Mem.tail _ (List.Mem.tail _ (List.Mem.tail _ (List.Mem.tail _ (List.Mem.tail _ (List.Mem.tail _ (List.Mem.tail _ (List.Mem.head _))))))) | exact List.Mem.tail _ (List.Mem.tail _ (List.Mem.tail _ (List.Mem.tail _ (List.Mem.tail _ (List.Mem.tail _ (List.Mem.tail _ (List.Mem.tail _ (List.Mem.head _)))))))) | exact (by assumption) | exact List.Mem.tail _ ((by assumption)) | exact List.Mem.tail _ (List.Mem.tail _ ((by assumption))) | exact List.Mem.tail _ (List.Mem.tail _ (List.Mem.tail _ ((by assumption)))) | exact List.Mem.tail _ (List.Mem.tail _ (List.Mem.tail _ (List.Mem.tail _ ((by assumption))))) | exact List.Mem.tail _ (List.Mem.tail _ (List.Mem.tail _ (List.Mem.tail _ (List.Mem.tail _ ((by assumption))))))) (by first | exact List.Mem.head _ | exact List.Mem.tail _ (List.Mem.head _) | exact List.Mem.tail _ (List.Mem.tail _ (List.Mem.head _)) | exact List.Mem.tail _ (List.Mem.tail _ (List.Mem.tail _ (List.Mem.head _))) | exact List.Mem.tail _ (List.Mem.tail _ (List.Mem.tail _ (List.Mem.tail _ (List.Mem.head _)))) | exact List.Mem.tail _ (List.Mem.tail _ (List.Mem.tail _ (List.Mem.tail _ (List.Mem.tail _ (List.Mem.head _))))) | exact List.Mem.tail _ (List.Mem.tail _ (List.Mem.tail _ (List.Mem.tail _ (List.Mem.tail _ (List.Mem.tail _ (List.Mem.head _)))))) | exact List.Mem.tail _ (List.Mem.tail _ (List.Mem.tail _ (List.Mem.tail _ (List.Mem.tail _ (List.Mem.tail _ (List.Mem.tail _ (List.Mem.head _))))))) | exact List.Mem.tail _ (List.Mem.tail _ (List.Mem.tail _ (List.Mem.tail _ (List.Mem.tail _ (List.Mem.tail _ (List.Mem.tail _ (List.Mem.tail _ (List.Mem.head _)))))))) | exact (by assumption) | exact List.Mem.tail _ ((by assumption)) | exact List.Mem.tail _ (List.Mem.tail _ ((by assumption))) | exact List.Mem.tail _ (List.Mem.tail _ (List.Mem.tail _ ((by assumption)))) | exact List.Mem.tail _ (List.Mem.tail _ (List.Mem.tail _ (List.Mem.tail _ ((by assumption))))) | exact List.Mem.tail _ (List.Mem.tail _ (List.Mem.tail _ (List.Mem.tail _ (List.Mem.tail _ ((by assumption))))))) (by first | exact List.Mem.head _ | exact List.Mem.tail _ (List.Mem.head _) | exact List.Mem.tail _ (List.Mem.tail _ (List.Mem.head _)) | exact List.Mem.tail _ (List.Mem.tail _ (List.Mem.tail _ (List.Mem.head _))) | exact List.Mem.tail _ (List.Mem.tail _ (List.Mem.tail _ (List.Mem.tail _ (List.Mem.head _)))) | exact List.Mem.tail _ (List.Mem.tail _ (List.Mem.tail _ (List.Mem.tail _ (List.Mem.tail _ (List.Mem.head _))))) | exact List.Mem.tail _ (List.Mem.tail _ (List.Mem.tail _ (List.Mem.tail _ (List.Mem.tail _ (List.Mem.tail _ (List.Mem.head _)))))) | exact List.Mem.tail _ (List.Mem.tail _ (List.Mem.tail _ (List.Mem.tail _ (List.Mem.tail _ (List.Mem.tail _ (List.Mem.tail _ (List.Mem.head _))))))) | exact List.Mem.tail _ (List.Mem.tail _ (List.Mem.tail _ (List.Mem.tail _ (List.Mem.tail _ (List.Mem.tail _ (List.Mem.tail _ (List.Mem.tail _ (List.Mem.head _)))))))) | exact (by assumption) | exact List.Mem.tail _ ((by assumption)) | exact List.Mem.tail _ (List.Mem.tail _ ((by assumption))) | exact List.Mem.tail _ (List.Mem.tail _ (List.Mem.tail _ ((by assumption)))) | exact List.Mem.tail _ (List.Mem.tail _ (List.Mem.tail _ (List.Mem.tail _ ((by assumption))))) | exact List.Mem.tail _ (List.Mem.tail _ (List.Mem.tail _ (List.Mem.tail _ (List.Mem.tail _ ((by assumption)))))))) ?_)
  clear hS; rintro _ _ w ⟨v9, D9, rfl, rfl, ho9⟩ hS; (try simp only [List.cons_append, List.nil_append] at hS)
  refine wl_op rfl rfl (ow_vr (vr_move (v := .tuple _) rfl) ?_)
  refine wl_op rfl rfl (ow_vr (vr_extract (v := v9) rfl rfl) ?_)
  refine wl_op rfl rfl (ow_vr (vr_extract rfl rfl) ?_)
  refine wl_op rfl rfl (ow_vr (vr_assign (v := v9) rfl) ?_)
  refine wl_op rfl rfl (ow_vr (vr_assign (v := .bool _) rfl) ?_)
  refine wl_nil ?_
  refine hK2 _ _ ?_
  refine cw_seq fun K3 hK3 => ?_
  refine cw_seq fun K4 hK4 => ?_
  refine cw_region ?_
  refine wl_op rfl rfl (ow_vr (vr_move (v := .bool _) rfl) ?_)
  refine wl_op rfl rfl (ow_vr (vr_not rfl) ?_)
  refine wl_op rfl rfl (ow_vr (vr_move (v := .bool _) rfl) ?_)
  refine wl_known 14 rfl (c := false) (rfl) ?_
  refine wl_yes rfl rfl rfl rfl rfl (ow_vr (vr_move (v := v9) rfl) ?_)
  first | (refine wl_yes rfl rfl rfl rfl rfl (ow_vr (vr_len_sl Try.underlying33 rfl) ?_)) | (refine wl_yes rfl rfl rfl rfl rfl (ow_vr (vr_len_v (v := v9) Try.underlying33 rfl (by first | assumption | (refine Own.view ?_ (by assumption); exact fun _ => rfl))) ?_))
  refine wl_yes rfl rfl rfl rfl rfl (ow_vr (vr_neq rfl rfl) ?_)
  refine wl_op rfl rfl (ow_vr (vr_pick (b := false) rfl rfl) ?_)
  refine wl_nil ?_
  refine hK4 _ _ ?_
  refine cw_cond_f rfl rfl (by decide) ?_
  refine cw_skip ?_
  refine hK3 _ _ ?_
  refine cw_seq fun K5 hK5 => ?_
  refine cw_region ?_
  refine wl_op rfl rfl (ow_vr (vr_move (v := v9) rfl) ?_)
  refine wl_op rfl rfl (ow_vr (vr_build (vs := [(0, .int .i64 _)]) (cs := [.int .i64 _, .int .i64 _, .int .i64 _, .int .i64 _, .int .i64 _]) zr_72 pl_72 rfl rfl) ?_)
  refine wl_op rfl rfl (ow_buildSliceD (m := 5) (len := 1) (vs := [.agg #[.int .i64 _, .int .i64 _, .int .i64 _, .int .i64 _, .int .i64 _]]) (cs := [.int .i64 _, .int .i64 _, .int .i64 _, .int .i64 _, .int .i64 _]) hS Try.underlying33 if_72 rfl (by decide) (by decide) rfl rfl (by simp [Value.cells]) rfl ?_)
  clear hS; intro b22 w hS
  refine wl_op rfl rfl (ow_append_keep (v := v9) hS Try.underlying33 Try.underlying33 if_72 rfl (by decide) rfl rfl (by assumption) (View.single (x := (⟨1, 0, 0, 0, 0⟩ : Entr)) rfl rfl (by decide)) (by first | exact HasC.here | exact HasC.there (HasC.here) | exact HasC.there (HasC.there (HasC.here)) | exact HasC.there (HasC.there (HasC.there (HasC.here))) | exact HasC.there (HasC.there (HasC.there (HasC.there (HasC.here)))) | exact HasC.there (HasC.there (HasC.there (HasC.there (HasC.there (HasC.here))))) | exact HasC.there (HasC.there (HasC.there (HasC.there (HasC.there (HasC.there (HasC.here)))))) | exact HasC.there (HasC.there (HasC.there (HasC.there (HasC.there (HasC.there (HasC.there (HasC.here))))))) | exact HasC.there (HasC.there (HasC.there (HasC.there (HasC.there (HasC.there (HasC.there (HasC.there (HasC.here))))))))) (by first | exact List.Mem.head _ | exact List.Mem.tail _ (List.Mem.head _) | exact List.Mem.tail _ (List.Mem.tail _ (List.Mem.head _)) | exact List.Mem.tail _ (List.Mem.tail _ (List.Mem.tail _ (List.Mem.head _))) | exact List.Mem.tail _ (List.Mem.tail _ (List.Mem.tail _ (List.Mem.tail _ (List.Mem.head _)))) | exact List.Mem.tail _ (List.Mem.tail _ (List.Mem.tail _ (List.Mem.tail _ (List.Mem.tail _ (List.Mem.head _))))) | exact List.Mem.tail _ (List.Mem.tail _ (List.Mem.tail _ (List.Mem.tail _ (List.Mem.tail _ (List.Mem.tail _ (List.Mem.head _)))))) | exact List.Mem.tail _ (List.Mem.tail _ (List.Mem.tail _ (List.Mem.tail _ (List.Mem.tail _ (List.Mem.tail _ (List.Mem.tail _ (List.Mem.head _))))))) | exact List.Mem.tail _ (List.Mem.tail _ (List.Mem.tail _ (List.Mem.tail _ (List.Mem.tail _ (List.Mem.tail _ (List.Mem.tail _ (List.Mem.tail _ (List.Mem.head _)))))))) | exact (by assumption) | exact List.Mem.tail _ ((by assumption)) | exact List.Mem.tail _ (List.Mem.tail _ ((by assumption))) | exact List.Mem.tail _ (List.Mem.tail _ (List.Mem.tail _ ((by assumption)))) | exact List.Mem.tail _ (List.Mem.tail _ (List.Mem.tail _ (List.Mem.tail _ ((by assumption))))) | exact List.Mem.tail _ (List.Mem.tail _ (List.Mem.tail _ (List.Mem.tail _ (List.Mem.tail _ ((by assumption))))))) (by exact fun _ => rfl) (by exact fun _ => rfl) (by first | omega | (simp [maxLen] <;> omega) | (simp <;> omega)) (by first | omega | (simp [maxLen] <;> omega) | (simp <;> omega)) ?_)
  clear hS; intro v23 D23 w hv23_old hv23 hS
  refine wl_op rfl rfl (ow_fng (vs := [v23]) en_33 rfl hS (entry_Changes _ _ _ hv23 (by simp)) (by first | exact needs1 (by first | exact List.Mem.head _ | exact List.Mem.tail _ (List.Mem.head _) | exact List.Mem.tail _ (List.Mem.tail _ (List.Mem.head _)) | exact List.Mem.tail _ (List.Mem.tail _ (List.Mem.tail _ (List.Mem.head _))) | exact List.Mem.tail _ (List.Mem.tail _ (List.Mem.tail _ (List.Mem.tail _ (List.Mem.head _)))) | exact List.Mem.tail _ (List.Mem.tail _ (List.Mem.tail _ (List.Mem.tail _ (List.Mem.tail _ (List.Mem.head _))))) | exact List.Mem.tail _ (List.Mem.tail _ (List.Mem.tail _ (List.Mem.tail _ (List.Mem.tail _ (List.Mem.tail _ (List.Mem.head _)))))) | exact List.Mem.tail _ (List.Mem.tail _ (List.Mem.tail _ (List.Mem.tail _ (List.Mem.tail _ (List.Mem.tail _ (List.Mem.tail _ (List.Mem.head _))))))) | exact List.Mem.tail _ (List.Mem.tail _ (List.Mem.tail _ (List.Mem.tail _ (List.Mem.tail _ (List.Mem.tail _ (List.Mem.tail _ (List.Mem.tail _ (List.Mem.head _)))))))) | exact (by assumption) | exact List.Mem.tail _ ((by assumption)) | exact List.Mem.tail _ (List.Mem.tail _ ((by assumption))) | exact List.Mem.tail _ (List.Mem.tail _ (List.Mem.tail _ ((by assumption)))) | exact List.Mem.tail _ (List.Mem.tail _ (List.Mem.tail _ (List.Mem.tail _ ((by assumption))))) | exact List.Mem.tail _ (List.Mem.tail _ (List.Mem.tail _ (List.Mem.tail _ (List.Mem.tail _ ((by assumption))))))) | exact needs0 | exact needs2 (by first | exact List.Mem.head _ | exact List.Mem.tail _ (List.Mem.head _) | exact List.Mem.tail _ (List.Mem.tail _ (List.Mem.head _)) | exact List.Mem.tail _ (List.Mem.tail _ (List.Mem.tail _ (List.Mem.head _))) | exact List.Mem.tail _ (List.Mem.tail _ (List.Mem.tail _ (List.Mem.tail _ (List.Mem.head _)))) | exact List.Mem.tail _ (List.Mem.tail _ (List.Mem.tail _ (List.Mem.tail _ (List.Mem.tail _ (List.Mem.head _))))) | exact List.Mem.tail _ (List.Mem.tail _ (List.Mem.tail _ (List.Mem.tail _ (List.Mem.tail _ (List.Mem.tail _ (List.Mem.head _)))))) | exact List.Mem.tail _ (List.Mem.tail _ (List.Mem.tail _ (List.Mem.tail _ (List.Mem.tail _ (List.Mem.tail _ (List.Mem.tail _ (List.Mem.head _))))))) | exact List.Mem.tail _ (List.Mem.tail _ (List.Mem.tail _ (List.Mem.tail _ (List.Mem.tail _ (List.Mem.tail _ (List.Mem.tail _ (List.Mem.tail _ (List.Mem.head _)))))))) | exact (by assumption) | exact List.Mem.tail _ ((by assumption)) | exact List.Mem.tail _ (List.Mem.tail _ ((by assumption))) | exact List.Mem.tail _ (List.Mem.tail _ (List.Mem.tail _ ((by assumption)))) | exact List.Mem.tail _ (List.Mem.tail _ (List.Mem.tail _ (List.Mem.tail _ ((by assumption))))) | exact List.Mem.tail _ (List.Mem.tail _ (List.Mem.tail _ (List.Mem.tail _ (List.Mem.tail _ ((by assumption))))))) (by first | exact List.Mem.head _ | exact List.Mem.tail _ (List.Mem.head _) | exact List.Mem.tail _ (List.Mem.tail _ (List.Mem.head _)) | exact List.Mem.tail _ (List.Mem.tail _ (List.Mem.tail _ (List.Mem.head _))) | exact List.Mem.tail _ (List.Mem.tail _ (List.Mem.tail _ (List.Mem.tail _ (List.Mem.head _)))) | exact List.Mem.tail _ (List.Mem.tail _ (List.Mem.tail _ (List.Mem.tail _ (List.Mem.tail _ (List.Mem.head _))))) | exact List.Mem.tail _ (List.Mem.tail _ (List.Mem.tail _ (List.Mem.tail _ (List.Mem.tail _ (List.Mem.tail _ (List.Mem.head _)))))) | exact List.Mem.tail _ (List.Mem.tail _ (List.Mem.tail _ (List.Mem.tail _ (List.Mem.tail _ (List.Mem.tail _ (List.Mem.tail _ (List.Mem.head _))))))) | exact List.Mem.tail _ (List.Mem.tail _ (List.Mem.tail _ (List.Mem.tail _ (List.Mem.tail _ (List.Mem.tail _ (List.Mem.tail _ (List.Mem.tail _ (List.Mem.head _)))))))) | exact (by assumption) | exact List.Mem.tail _ ((by assumption)) | exact List.Mem.tail _ (List.Mem.tail _ ((by assumption))) | exact List.Mem.tail _ (List.Mem.tail _ (List.Mem.tail _ ((by assumption)))) | exact List.Mem.tail _ (List.Mem.tail _ (List.Mem.tail _ (List.Mem.tail _ ((by assumption))))) | exact List.Mem.tail _ (List.Mem.tail _ (List.Mem.tail _ (List.Mem.tail _ (List.Mem.tail _ ((by assumption))))))) | exact needs3 (by first | exact List.Mem.head _ | exact List.Mem.tail _ (List.Mem.head _) | exact List.Mem.tail _ (List.Mem.tail _ (List.Mem.head _)) | exact List.Mem.tail _ (List.Mem.tail _ (List.Mem.tail _ (List.Mem.head _))) | exact List.Mem.tail _ (List.Mem.tail _ (List.Mem.tail _ (List.Mem.tail _ (List.Mem.head _)))) | exact List.Mem.tail _ (List.Mem.tail _ (List.Mem.tail _ (List.Mem.tail _ (List.Mem.tail _ (List.Mem.head _))))) | exact List.Mem.tail _ (List.Mem.tail _ (List.Mem.tail _ (List.Mem.tail _ (List.Mem.tail _ (List.Mem.tail _ (List.Mem.head _)))))) | exact List.Mem.tail _ (List.Mem.tail _ (List.Mem.tail _ (List.Mem.tail _ (List.Mem.tail _ (List.Mem.tail _ (List.Mem.tail _ (List.Mem.head _))))))) | exact List.Mem.tail _ (List.Mem.tail _ (List.Mem.tail _ (List.Mem.tail _ (List.Mem.tail _ (List.Mem.tail _ (List.Mem.tail _ (List.Mem.tail _ (List.Mem.head _)))))))) | exact (by assumption) | exact List.Mem.tail _ ((by assumption)) | exact List.Mem.tail _ (List.Mem.tail _ ((by assumption))) | exact List.Mem.tail _ (List.Mem.tail _ (List.Mem.tail _ ((by assumption)))) | exact List.Mem.tail _ (List.Mem.tail _ (List.Mem.tail _ (List.Mem.tail _ ((by assumption))))) | exact List.Mem.tail _ (List.Mem.tail _ (List.Mem.tail _ (List.Mem.tail _ (List.Mem.tail _ ((by assumption))))))) (by first | exact List.Mem.head _ | exact List.Mem.tail _ (List.Mem.head _) | exact List.Mem.tail _ (List.Mem.tail _ (List.Mem.head _)) | exact List.Mem.tail _ (List.Mem.tail _ (List.Mem.tail _ (List.Mem.head _))) | exact List.Mem.tail _ (List.Mem.tail _ (List.Mem.tail _ (List.Mem.tail _ (List.Mem.head _)))) | exact List.Mem.tail _ (List.Mem.tail _ (List.Mem.tail _ (List.Mem.tail _ (List.Mem.tail _ (List.Mem.head _))))) | exact List.Mem.tail _ (List.Mem.tail _ (List.Mem.tail _ (List.Mem.tail _ (List.Mem.tail _ (List.Mem.tail _ (List.Mem.head _)))))) | exact List.Mem.tail _ (List.Mem.tail _ (List.Mem.tail _ (List.Mem.tail _ (List.Mem.tail _ (List.Mem.tail _ (List.Mem.tail _ (List.Mem.head _))))))) | exact List.Mem.tail _ (List.Mem.tail _ (List.Mem.tail _ (List.Mem.tail _ (List.Mem.tail _ (List.Mem.tail _ (List.Mem.tail _ (List.Mem.tail _ (List.Mem.head _)))))))) | exact (by assumption) | exact List.Mem.tail _ ((by assumption)) | exact List.Mem.tail _ (List.Mem.tail _ ((by assumption))) | exact List.Mem.tail _ (List.Mem.tail _ (List.Mem.tail _ ((by assumption)))) | exact List.Mem.tail _ (List.Mem.tail _ (List.Mem.tail _ (List.Mem.tail _ ((by assumption))))) | exact List.Mem.tail _ (List.Mem.tail _ (List.Mem.tail _ (List.Mem.tail _ (List.Mem.tail _ ((by assumption))))))) (by first | exact List.Mem.head _ | exact List.Mem.tail _ (List.Mem.head _) | exact List.Mem.tail _ (List.Mem.tail _ (List.Mem.head _)) | exact List.Mem.tail _ (List.Mem.tail _ (List.Mem.tail _ (List.Mem.head _))) | exact List.Mem.tail _ (List.Mem.tail _ (List.Mem.tail _ (List.Mem.tail _ (List.Mem.head _)))) | exact List.Mem.tail _ (List.Mem.tail _ (List.Mem.tail _ (List.Mem.tail _ (List.Mem.tail _ (List.Mem.head _))))) | exact List.Mem.tail _ (List.Mem.tail _ (List.Mem.tail _ (List.Mem.tail _ (List.Mem.tail _ (List.Mem.tail _ (List.Mem.head _)))))) | exact List.Mem.tail _ (List.Mem.tail _ (List.Mem.tail _ (List.Mem.tail _ (List.Mem.tail _ (List.Mem.tail _ (List.Mem.tail _ (List.Mem.head _))))))) | exact List.Mem.tail _ (List.Mem.tail _ (List.Mem.tail _ (List.Mem.tail _ (List.Mem.tail _ (List.Mem.tail _ (List.Mem.tail _ (List.Mem.tail _ (List.Mem.head _)))))))) | exact (by assumption) | exact List.Mem.tail _ ((by assumption)) | exact List.Mem.tail _ (List.Mem.tail _ ((by assumption))) | exact List.Mem.tail _ (List.Mem.tail _ (List.Mem.tail _ ((by assumption)))) | exact List.Mem.tail _ (List.Mem.tail _ (List.Mem.tail _ (List.Mem.tail _ ((by assumption))))) | exact List.Mem.tail _ (List.Mem.tail _ (List.Mem.tail _ (List.Mem.tail _ (List.Mem.tail _ ((by assumption)))))))) ?_)
  clear hS; rintro _ _ w ⟨v24, D24, rfl, rfl, ho24⟩ hS; (try simp only [List.cons_append, List.nil_append] at hS)
  refine wl_op rfl rfl (ow_vr (vr_move (v := .tuple _) rfl) ?_)
  refine wl_op rfl rfl (ow_vr (vr_extract (v := v24) rfl rfl) ?_)
  refine wl_op rfl rfl (ow_vr (vr_extract rfl rfl) ?_)
  refine wl_op rfl rfl (ow_vr (vr_assign (v := v24) rfl) ?_)
  refine wl_op rfl rfl (ow_vr (vr_assign (v := .int .i64 _) rfl) ?_)
  refine wl_nil ?_
  refine hK5 _ _ ?_
  refine cw_seq fun K6 hK6 => ?_
  refine cw_region ?_
  refine wl_op rfl rfl (ow_vr (vr_move (v := v24) rfl) ?_)
  first | (refine wl_op rfl rfl (ow_vr (vr_len_sl Try.underlying35 rfl) ?_)) | (refine wl_op rfl rfl (ow_vr (vr_len_v (v := v24) Try.underlying35 rfl (by first | assumption | (refine Own.view ?_ (by assumption); exact fun _ => rfl))) ?_))
  refine wl_op rfl rfl (ow_vr (vr_eql rfl rfl) ?_)
  refine wl_op rfl rfl (ow_vr (vr_move (v := .bool _) rfl) ?_)
  refine wl_known 30 rfl (c := true) (by decide) ?_
  refine wl_yes rfl rfl rfl rfl rfl (ow_vr (vr_move (v := .int .i64 _) rfl) ?_)
  refine wl_yes rfl rfl rfl rfl rfl (ow_vr (vr_eql rfl rfl) ?_)
  refine wl_op rfl rfl (ow_vr (vr_pick (b := true) rfl rfl) ?_)
  refine wl_op rfl rfl (ow_vr (vr_move (v := .bool _) rfl) ?_)
  refine wl_known 34 rfl (c := true) (by decide) ?_
  refine wl_yes rfl rfl rfl rfl rfl (ow_vr (vr_move (v := v9) rfl) ?_)
  first | (refine wl_yes rfl rfl rfl rfl rfl (ow_vr (vr_indexAddr Try.underlying33 sz_72 rfl rfl (by omega) (by omega)) ?_)) | (refine wl_yes rfl rfl rfl rfl rfl (ow_vr (vr_indexV (v := v9) Try.underlying33 sz_72 rfl (by first | assumption | (refine Own.view ?_ (by assumption); exact fun _ => rfl)) rfl (by omega) (by first | omega | (simp <;> omega))) ?_))
  first | (refine wl_yes rfl rfl rfl rfl rfl (ow_vr (vr_fieldAddr fo_72_0 rfl) ?_)) | (refine wl_yes rfl rfl rfl rfl rfl (ow_vr (vr_fieldAddrV fo_72_0 rfl (by first | assumption | (refine Own.view ?_ (by assumption); exact fun _ => rfl)) (by first | omega | (simp <;> omega))) ?_))
  refine wl_yes rfl rfl rfl rfl rfl (ow_lr (S := Sat _ _) (lr_loadV1 (u := .int .i64 _) Try.underlying3 rfl rfl hv23_old (by first | exact List.Mem.head _ | exact List.Mem.tail _ (List.Mem.head _) | exact List.Mem.tail _ (List.Mem.tail _ (List.Mem.head _)) | exact List.Mem.tail _ (List.Mem.tail _ (List.Mem.tail _ (List.Mem.head _))) | exact List.Mem.tail _ (List.Mem.tail _ (List.Mem.tail _ (List.Mem.tail _ (List.Mem.head _)))) | exact List.Mem.tail _ (List.Mem.tail _ (List.Mem.tail _ (List.Mem.tail _ (List.Mem.tail _ (List.Mem.head _))))) | exact List.Mem.tail _ (List.Mem.tail _ (List.Mem.tail _ (List.Mem.tail _ (List.Mem.tail _ (List.Mem.tail _ (List.Mem.head _)))))) | exact List.Mem.tail _ (List.Mem.tail _ (List.Mem.tail _ (List.Mem.tail _ (List.Mem.tail _ (List.Mem.tail _ (List.Mem.tail _ (List.Mem.head _))))))) | exact List.Mem.tail _ (List.Mem.tail _ (List.Mem.tail _ (List.Mem.tail _ (List.Mem.tail _ (List.Mem.tail _ (List.Mem.tail _ (List.Mem.tail _ (List.Mem.head _)))))))) | exact (by assumption) | exact List.Mem.tail _ ((by assumption)) | exact List.Mem.tail _ (List.Mem.tail _ ((by assumption))) | exact List.Mem.tail _ (List.Mem.tail _ (List.Mem.tail _ ((by assumption)))) | exact List.Mem.tail _ (List.Mem.tail _ (List.Mem.tail _ (List.Mem.tail _ ((by assumption))))) | exact List.Mem.tail _ (List.Mem.tail _ (List.Mem.tail _ (List.Mem.tail _ (List.Mem.tail _ ((by assumption))))))) (rfl) (by exact fun _ => rfl) (by rfl)) hS ?_)
  refine wl_yes rfl rfl rfl rfl rfl (ow_vr (vr_eql rfl rfl) ?_)
  refine wl_op rfl rfl (ow_vr (vr_pick (b := true) rfl rfl) ?_)
  refine wl_op rfl rfl (ow_vr (vr_move (v := .bool _) rfl) ?_)
  refine wl_known 41 rfl (c := true) (by decide) ?_
  refine wl_yes rfl rfl rfl rfl rfl (ow_vr (vr_move (v := v9) rfl) ?_)
  first | (refine wl_yes rfl rfl rfl rfl rfl (ow_vr (vr_indexAddr Try.underlying33 sz_72 rfl rfl (by omega) (by omega)) ?_)) | (refine wl_yes rfl rfl rfl rfl rfl (ow_vr (vr_indexV (v := v9) Try.underlying33 sz_72 rfl (by first | assumption | (refine Own.view ?_ (by assumption); exact fun _ => rfl)) rfl (by omega) (by first | omega | (simp <;> omega))) ?_))
  first | (refine wl_yes rfl rfl rfl rfl rfl (ow_vr (vr_fieldAddr fo_72_3 rfl) ?_)) | (refine wl_yes rfl rfl rfl rfl rfl (ow_vr (vr_fieldAddrV fo_72_3 rfl (by first | assumption | (refine Own.view ?_ (by assumption); exact fun _ => rfl)) (by first | omega | (simp <;> omega))) ?_))
  refine wl_yes rfl rfl rfl rfl rfl (ow_lr (S := Sat _ _) (lr_loadV1 (u := .int .i64 _) Try.underlying3 rfl rfl hv23_old (by first | exact List.Mem.head _ | exact List.Mem.tail _ (List.Mem.head _) | exact List.Mem.tail _ (List.Mem.tail _ (List.Mem.head _)) | exact List.Mem.tail _ (List.Mem.tail _ (List.Mem.tail _ (List.Mem.head _))) | exact List.Mem.tail _ (List.Mem.tail _ (List.Mem.tail _ (List.Mem.tail _ (List.Mem.head _)))) | exact List.Mem.tail _ (List.Mem.tail _ (List.Mem.tail _ (List.Mem.tail _ (List.Mem.tail _ (List.Mem.head _))))) | exact List.Mem.tail _ (List.Mem.tail _ (List.Mem.tail _ (List.Mem.tail _ (List.Mem.tail _ (List.Mem.tail _ (List.Mem.head _)))))) | exact List.Mem.tail _ (List.Mem.tail _ (List.Mem.tail _ (List.Mem.tail _ (List.Mem.tail _ (List.Mem.tail _ (List.Mem.tail _ (List.Mem.head _))))))) | exact List.Mem.tail _ (List.Mem.tail _ (List.Mem.tail _ (List.Mem.tail _ (List.Mem.tail _ (List.Mem.tail _ (List.Mem.tail _ (List.Mem.tail _ (List.Mem.head _)))))))) | exact (by assumption) | exact List.Mem.tail _ ((by assumption)) | exact List.Mem.tail _ (List.Mem.tail _ ((by assumption))) | exact List.Mem.tail _ (List.Mem.tail _ (List.Mem.tail _ ((by assumption)))) | exact List.Mem.tail _ (List.Mem.tail _ (List.Mem.tail _ (List.Mem.tail _ ((by assumption))))) | exact List.Mem.tail _ (List.Mem.tail _ (List.Mem.tail _ (List.Mem.tail _ (List.Mem.tail _ ((by assumption))))))) (rfl) (by exact fun _ => rfl) (by rfl)) hS ?_)
  refine wl_yes rfl rfl rfl rfl rfl (ow_vr (vr_eql rfl rfl) ?_)
  refine wl_op rfl rfl (ow_vr (vr_pick (b := true) rfl rfl) ?_)
  refine wl_op rfl rfl (ow_vr (vr_move (v := .bool _) rfl) ?_)
  refine wl_known 48 rfl (c := true) (by decide) ?_
  refine wl_yes rfl rfl rfl rfl rfl (ow_vr (vr_move (v := v9) rfl) ?_)
  first | (refine wl_yes rfl rfl rfl rfl rfl (ow_vr (vr_indexAddr Try.underlying33 sz_72 rfl rfl (by omega) (by omega)) ?_)) | (refine wl_yes rfl rfl rfl rfl rfl (ow_vr (vr_indexV (v := v9) Try.underlying33 sz_72 rfl (by first | assumption | (refine Own.view ?_ (by assumption); exact fun _ => rfl)) rfl (by omega) (by first | omega | (simp <;> omega))) ?_))
  first | (refine wl_yes rfl rfl rfl rfl rfl (ow_vr (vr_fieldAddr fo_72_1 rfl) ?_)) | (refine wl_yes rfl rfl rfl rfl rfl (ow_vr (vr_fieldAddrV fo_72_1 rfl (by first | assumption | (refine Own.view ?_ (by assumption); exact fun _ => rfl)) (by first | omega | (simp <;> omega))) ?_))
  refine wl_yes rfl rfl rfl rfl rfl (ow_lr (S := Sat _ _) (lr_loadV1 (u := .int .i64 _) Try.underlying3 rfl rfl hv23_old (by first | exact List.Mem.head _ | exact List.Mem.tail _ (List.Mem.head _) | exact List.Mem.tail _ (List.Mem.tail _ (List.Mem.head _)) | exact List.Mem.tail _ (List.Mem.tail _ (List.Mem.tail _ (List.Mem.head _))) | exact List.Mem.tail _ (List.Mem.tail _ (List.Mem.tail _ (List.Mem.tail _ (List.Mem.head _)))) | exact List.Mem.tail _ (List.Mem.tail _ (List.Mem.tail _ (List.Mem.tail _ (List.Mem.tail _ (List.Mem.head _))))) | exact List.Mem.tail _ (List.Mem.tail _ (List.Mem.tail _ (List.Mem.tail _ (List.Mem.tail _ (List.Mem.tail _ (List.Mem.head _)))))) | exact List.Mem.tail _ (List.Mem.tail _ (List.Mem.tail _ (List.Mem.tail _ (List.Mem.tail _ (List.Mem.tail _ (List.Mem.tail _ (List.Mem.head _))))))) | exact List.Mem.tail _ (List.Mem.tail _ (List.Mem.tail _ (List.Mem.tail _ (List.Mem.tail _ (List.Mem.tail _ (List.Mem.tail _ (List.Mem.tail _ (List.Mem.head _)))))))) | exact (by assumption) | exact List.Mem.tail _ ((by assumption)) | exact List.Mem.tail _ (List.Mem.tail _ ((by assumption))) | exact List.Mem.tail _ (List.Mem.tail _ (List.Mem.tail _ ((by assumption)))) | exact List.Mem.tail _ (List.Mem.tail _ (List.Mem.tail _ (List.Mem.tail _ ((by assumption))))) | exact List.Mem.tail _ (List.Mem.tail _ (List.Mem.tail _ (List.Mem.tail _ (List.Mem.tail _ ((by assumption))))))) (rfl) (by exact fun _ => rfl) (by rfl)) hS ?_)
  refine wl_yes rfl rfl rfl rfl rfl (ow_vr (vr_eql rfl rfl) ?_)
  refine wl_op rfl rfl (ow_vr (vr_pick (b := true) rfl rfl) ?_)
  refine wl_op rfl rfl (ow_vr (vr_assign (v := .bool _) rfl) ?_)
  refine wl_nil ?_
  refine hK6 _ _ ?_
  refine cw_ret ?_
  refine ret_one (fn := Try.f31) (n := 55) (t := 0) (.inl rfl) rfl rfl ?_
  exact ⟨congrArg Value.bool (by decide), hS.tail1.tail1.tail1.tail1⟩
/-! groups one behind the other -/
abbrev Ch := Int × Int
abbrev VL := Value × List Ch
def sumL (ls : List VL) : Nat := (ls.map fun x => x.2.length + 1).sum
theorem sumL_snoc (ls : List VL) (x : VL) : sumL (ls ++ [x]) = sumL ls + (x.2.length + 1) := by simp [sumL]
def allE : Nat → List VL → List Entr
  | _, [] => []
  | s, x :: ls => groupL (s : Int) 1 x.2 ++ allE (s + (x.2.length + 1)) ls
theorem allE_length : ∀ (ls : List VL) (s : Nat), (allE s ls).length = sumL ls
  | [], _ => rfl
  | x :: ls, s => by rw [allE, List.length_append, groupL_length, allE_length ls]; simp [sumL]
theorem allE_snoc (x : VL) : ∀ (ls : List VL) (s : Nat), allE s (ls ++ [x]) = allE s ls ++ groupL ((s + sumL ls : Nat) : Int) 1 x.2
  | [], s => by simp [allE, sumL]
  | y :: ls, s => by
    rw [List.cons_append, allE, allE_snoc x ls, allE, List.append_assoc]
    congr 3
    simp [sumL]; omega
def endsE (ls : List VL) : List Int := (List.range ls.length).map fun i => (sumL (ls.take (i + 1)) : Int)
theorem endsE_snoc (ls : List VL) (x : VL) : endsE (ls ++ [x]) = endsE ls ++ [(sumL (ls ++ [x]) : Int)] := by
  unfold endsE
  rw [List.length_append, List.length_singleton, List.range_succ, List.map_append, List.map_singleton]
  congr 1
  · apply List.map_congr_left
    intro i hi
    have : i < ls.length := by simpa using hi
    rw [List.take_append_of_le_length (by omega)]
  · rw [show ls.length + 1 = (ls ++ [x]).length by simp, List.take_length]
theorem endsE_get (ls : List VL) {i : Nat} (h : i < ls.length) : (endsE ls)[i]? = some (sumL (ls.take (i + 1)) : Int) := by simp [endsE, h]
def wantE (K : Nat) : Nat → List VL → List Ch
  | _, [] => []
  | s, x :: ls => (if s + (x.2.length + 1) ≤ K then x.2 else []) ++ wantE K (s + (x.2.length + 1)) ls
def endE (K : Nat) : Nat → Int → List VL → Int
  | _, e, [] => e
  | s, e, x :: ls => endE K (s + (x.2.length + 1)) (if s + (x.2.length + 1) ≤ K then ((s + (x.2.length + 1) : Nat) : Int) else e) ls
theorem wantE_past {K : Nat} : ∀ (ls : List VL) (s : Nat), K < s → wantE K s ls = []
  | [], _, _ => rfl
  | x :: ls, s, h => by rw [wantE, if_neg (by omega), wantE_past ls _ (by omega)]; rfl
theorem endE_past {K : Nat} : ∀ (ls : List VL) (s : Nat) (e : Int), K < s → endE K s e ls = e
  | [], _, _, _ => rfl
  | x :: ls, s, e, h => by rw [endE, if_neg (by omega), endE_past ls _ _ (by omega)]
/-- Changes alone are put by. -/
theorem go_chE (ep : Int) : ∀ (l : List Ch) (lsn : Int) (i : Nat) (out grp : List Ch) (n : Int) (rest : List Entr), changesGo (chE ep lsn l ++ rest) i out grp n = changesGo rest (i + l.length) out (grp ++ l) n
  | [], lsn, i, out, grp, n, rest => by simp [chE]
  | c :: l, lsn, i, out, grp, n, rest => by
    rw [chE, List.cons_append, changesGo, if_pos rfl, go_chE ep l]
    simp only [List.length_cons, List.append_assoc, List.singleton_append]
    rw [show i + 1 + l.length = i + (l.length + 1) by omega]
theorem go_chE_take (ep : Int) : ∀ (l : List Ch) (lsn : Int) (j i : Nat) (out grp : List Ch) (n : Int), changesGo ((chE ep lsn l).take j) i out grp n = (out, n)
  | [], lsn, j, i, out, grp, n => by simp [chE, changesGo]
  | c :: l, lsn, 0, i, out, grp, n => by simp [changesGo]
  | c :: l, lsn, j + 1, i, out, grp, n => by rw [chE, List.take_succ_cons, changesGo, if_pos rfl, go_chE_take ep l]
/-- The law: groups cut anywhere. -/
theorem groups_cut (K : Nat) : ∀ (ls : List VL) (s : Nat) (out : List Ch) (n : Int), changesGo ((allE s ls).take (K - s)) s out [] n = (out ++ wantE K s ls, endE K s n ls)
  | [], s, out, n => by simp [allE, changesGo, wantE, endE]
  | x :: ls, s, out, n => by
    have hl := groupL_length (s : Int) 1 x.2
    rw [allE, wantE, endE]
    by_cases h : s + (x.2.length + 1) ≤ K
    · rw [if_pos h, if_pos h, List.take_append, hl, List.take_of_length_le (by rw [hl]; omega), groupL, List.append_assoc, go_chE, List.singleton_append, changesGo, if_neg (show ¬ (2 : Int) = 1 by decide), if_pos ⟨rfl, by simp⟩,
        show K - s - (x.2.length + 1) = K - (s + (x.2.length + 1)) by omega, show s + x.2.length + 1 = s + (x.2.length + 1) by omega, groups_cut K ls]
      simp [Nat.add_assoc, Int.add_assoc]
    · rw [if_neg h, if_neg h, wantE_past _ _ (by omega), endE_past _ _ _ (by omega), List.take_append_of_le_length (by rw [hl]; omega), groupL, List.take_append_of_le_length (by rw [chE_length]; omega), go_chE_take]
      simp
theorem tmod_bd (a : Int) {n : Int} (h : 0 < n) : -n < a.tmod n ∧ a.tmod n < n := by
  have h1 := Int.tmod_lt_of_pos a h
  have h2 := Int.lt_tmod_of_pos a h
  omega
theorem entry_groups (l : List VL) (cut : Int) (v : Value) (Δ : Chunk) (hv : View 1 (fun y : VL => [y.1]) v l Δ) (hvs : ∀ y ∈ l, View 2 encC y.1 y.2 Δ) (hn : l.length ≤ 9223372036854775807) (hns : ∀ y ∈ l, y.2.length ≤ 9223372036854775807) (hcut : inI64 cut) :
    FnG Try.prog 6 [v, .int .i64 cut] [Δ] (fun u Δs => u = .bool true ∧ Δs = []) := by
  refine FnG.mk fun E F w hS hF => ?_
  have hF0 : Δ ∈ F := hF _ (by simp)
  refine returns_enter Try.func6 rfl Try.ntmps6 rfl ?_
  refine cw_seq fun K1 hK1 => ?_
  refine cw_region ?_
  refine wl_op rfl rfl (ow_vr (vr_assign rfl) ?_)
  refine wl_nil ?_
  refine hK1 _ _ ?_
  refine cw_seq fun K2 hK2 => ?_
  refine cw_seq fun K3 hK3 => ?_
  refine cw_region ?_
  refine wl_op rfl rfl (ow_vr (vr_move (v := v) rfl) ?_)
  first | (refine wl_op rfl rfl (ow_vr (vr_len_sl Try.underlying32 rfl) ?_)) | (refine wl_op rfl rfl (ow_vr (vr_len_v (v := v) Try.underlying32 rfl (by first | assumption | (refine Own.view ?_ (by assumption); exact fun _ => rfl))) ?_))
  refine wl_op rfl rfl (ow_vr (vr_gtr rfl rfl) ?_)
  refine wl_op rfl rfl (ow_vr (vr_move (v := .bool _) rfl) ?_)
  refine wl_split 19 rfl (fun hc => ?_) (fun hc => ?_)
  · (try simp only [decide_eq_true_eq, decide_eq_false_iff_not, Bool.not_eq_true, Bool.not_eq_false, Bool.not_eq_true', Bool.not_eq_false', Bool.and_eq_true, Bool.or_eq_true, Bool.and_eq_false_iff, Bool.or_eq_false_iff, Int.not_lt, Int.not_le, gt_iff_lt, ge_iff_le, ne_eq, Decidable.not_not, beq_iff_eq] at hc)
    have hg19 := hc; clear hc
    refine wl_no rfl rfl rfl rfl rfl rfl ?_
    refine wl_no rfl rfl rfl rfl rfl rfl ?_
    refine wl_op rfl rfl (ow_vr (vr_pick (b := true) rfl rfl) ?_)
    refine wl_nil ?_
    refine hK3 _ _ ?_
    refine cw_cond_t rfl rfl (rfl) ?_
    refine cw_seq fun K4 hK4 => ?_
    refine cw_region ?_
    refine wl_op rfl rfl (ow_fn (vs := []) en_31 rfl hS (alive6) ?_)
    clear hS; rintro _ _ w ⟨rfl, rfl⟩ hS; (try simp only [List.cons_append, List.nil_append] at hS)
    refine wl_op rfl rfl (ow_vr (vr_assign (v := .bool _) rfl) ?_)
    refine wl_nil ?_
    refine hK4 _ _ ?_
    refine cw_ret ?_
    refine thenF_ret (?_)
    refine ret_one (fn := Try.f6) (n := 106) (t := 4) (.inl rfl) rfl rfl ?_
    exact ⟨[], ⟨congrArg Value.bool (by first | rfl | simp [hw]), rfl⟩, (by first | exact hS | exact hS.tail1.tail1 | exact hS.tail1.tail1.tail1 | exact hS.tail1.tail1.tail1.tail1)⟩
  · (try simp only [decide_eq_true_eq, decide_eq_false_iff_not, Bool.not_eq_true, Bool.not_eq_false, Bool.not_eq_true', Bool.not_eq_false', Bool.and_eq_true, Bool.or_eq_true, Bool.and_eq_false_iff, Bool.or_eq_false_iff, Int.not_lt, Int.not_le, gt_iff_lt, ge_iff_le, ne_eq, Decidable.not_not, beq_iff_eq] at hc)
    have hg19 := hc; clear hc
    refine wl_yes rfl rfl rfl rfl rfl (ow_fn (vs := []) en_31 rfl hS (alive6) ?_)
    clear hS; rintro _ _ w ⟨rfl, rfl⟩ hS; (try simp only [List.cons_append, List.nil_append] at hS)
    refine wl_yes rfl rfl rfl rfl rfl (ow_vr (vr_not rfl) ?_)
    refine wl_op rfl rfl (ow_vr (vr_pick (b := false) rfl rfl) ?_)
    refine wl_nil ?_
    refine hK3 _ _ ?_
    refine cw_cond_f rfl rfl (rfl) ?_
    refine cw_skip ?_
    refine hK2 _ _ ?_
    refine cw_seq fun K5 hK5 => ?_
    refine cw_region ?_
    refine wl_op rfl rfl (ow_vr (vr_assign rfl) ?_)
    refine wl_nil ?_
    refine hK5 _ _ ?_
    refine cw_seq fun K6 hK6 => ?_
    refine cw_region ?_
    refine wl_op rfl rfl (ow_vr (vr_assign rfl) ?_)
    refine wl_nil ?_
    refine hK6 _ _ ?_
    refine cw_seq fun K7 hK7 => ?_
    refine cw_seq fun K8 hK8 => ?_
    have hS := Sat.nilc.2 (Sat.nilc.2 hS)
    refine cw_region ?_
    refine wl_op rfl rfl (ow_vr (vr_assign rfl) ?_)
    refine wl_nil ?_
    refine hK8 _ _ ?_
    refine cw_block ?_
    refine cw_loop (fun m f w => ∃ (i : Nat) (v5 : Value) (D5 : Chunk) (v6 : Value) (D6 : Chunk) (g : Nat → Value), f = (upd (upd (upd (upd (upd g 0 (v)) 1 (.int .i64 cut)) 5 (v5)) 6 (v6)) 7 (.int .i64 (i : Int))) ∧ (i ≤ l.length ∧ Own 72 5 encE v5 (allE 0 (l.take i)) D5 ∧ Own 3 1 encI v6 (endsE (l.take i)) D6 ∧ sumL (l.take i) ≤ 21 * i ∧ (∀ y ∈ l.take i, y.2.length ≤ 20)) ∧ m = l.length - i ∧ Sat E (D5 :: D6 :: F) w) ⟨0, .slice none 0 0, [], .slice none 0 0, [], _, (reb (reb (reb (reb (reb rfl rfl) rfl) rfl) rfl) rfl), ?_, rfl, hS⟩ ?_
    · exact ⟨by omega, Own.nil, Own.nil, by simp [sumL], by simp⟩
    clear hS; rintro m f w ⟨i, v5, D5, v6, D6, g, rfl, hI0, rfl, hS⟩
    obtain ⟨hi, ho5, ho6, hs, hle⟩ := hI0
    have hal := allE_length (l.take i) 0
    refine cw_seq fun K9 hK9 => ?_
    refine cw_seq fun K10 hK10 => ?_
    refine cw_region ?_
    refine wl_op rfl rfl (ow_vr (vr_move (v := .int .i64 (i : Int)) rfl) ?_)
    refine wl_op rfl rfl (ow_vr (vr_move (v := v) rfl) ?_)
    first | (refine wl_op rfl rfl (ow_vr (vr_len_sl Try.underlying32 rfl) ?_)) | (refine wl_op rfl rfl (ow_vr (vr_len_v (v := v) Try.underlying32 rfl (by first | assumption | (refine Own.view ?_ (by assumption); exact fun _ => rfl))) ?_))
    refine wl_op rfl rfl (ow_vr (vr_lss rfl rfl) ?_)
    refine wl_nil ?_
    refine hK10 _ _ ?_
    refine cw_cond rfl rfl (fun hc => ?_) (fun hc => ?_)
    · (try simp only [decide_eq_true_eq, decide_eq_false_iff_not, Bool.not_eq_true, Bool.not_eq_false, Bool.not_eq_true', Bool.not_eq_false', Bool.and_eq_true, Bool.or_eq_true, Bool.and_eq_false_iff, Bool.or_eq_false_iff, Int.not_lt, Int.not_le, gt_iff_lt, ge_iff_le, ne_eq, Decidable.not_not, beq_iff_eq] at hc)
      have hc1 := hc; clear hc
      refine cw_skip ?_
      refine hK9 _ _ ?_
      refine cw_seq fun K11 hK11 => ?_
      refine cw_block ?_
      refine cw_seq fun K12 hK12 => ?_
      refine cw_seq fun K13 hK13 => ?_
      obtain ⟨x, hx⟩ := get_lt (xs := l) (k := i) (by omega)
      have hvx := hvs x (List.mem_of_getElem? hx)
      refine cw_region ?_
      refine wl_op rfl rfl (ow_vr (vr_move (v := v) rfl) ?_)
      refine wl_op rfl rfl (ow_vr (vr_move (v := .int .i64 (i : Int)) rfl) ?_)
      first | (refine wl_op rfl rfl (ow_vr (vr_indexAddr Try.underlying32 sz_35 rfl rfl (by omega) (by omega)) ?_)) | (refine wl_op rfl rfl (ow_vr (vr_indexV (v := v) Try.underlying32 sz_35 rfl (by first | assumption | (refine Own.view ?_ (by assumption); exact fun _ => rfl)) rfl (by omega) (by first | omega | (simp <;> omega))) ?_))
      refine wl_op rfl rfl (ow_lr (S := Sat _ _) (lr_loadV1 (u := x.1) Try.underlying35 rfl rfl hv (by first | exact List.Mem.head _ | exact List.Mem.tail _ (List.Mem.head _) | exact List.Mem.tail _ (List.Mem.tail _ (List.Mem.head _)) | exact List.Mem.tail _ (List.Mem.tail _ (List.Mem.tail _ (List.Mem.head _))) | exact List.Mem.tail _ (List.Mem.tail _ (List.Mem.tail _ (List.Mem.tail _ (List.Mem.head _)))) | exact List.Mem.tail _ (List.Mem.tail _ (List.Mem.tail _ (List.Mem.tail _ (List.Mem.tail _ (List.Mem.head _))))) | exact List.Mem.tail _ (List.Mem.tail _ (List.Mem.tail _ (List.Mem.tail _ (List.Mem.tail _ (List.Mem.tail _ (List.Mem.head _)))))) | exact List.Mem.tail _ (List.Mem.tail _ (List.Mem.tail _ (List.Mem.tail _ (List.Mem.tail _ (List.Mem.tail _ (List.Mem.tail _ (List.Mem.head _))))))) | exact List.Mem.tail _ (List.Mem.tail _ (List.Mem.tail _ (List.Mem.tail _ (List.Mem.tail _ (List.Mem.tail _ (List.Mem.tail _ (List.Mem.tail _ (List.Mem.head _)))))))) | exact (by assumption) | exact List.Mem.tail _ ((by assumption)) | exact List.Mem.tail _ (List.Mem.tail _ ((by assumption))) | exact List.Mem.tail _ (List.Mem.tail _ (List.Mem.tail _ ((by assumption)))) | exact List.Mem.tail _ (List.Mem.tail _ (List.Mem.tail _ (List.Mem.tail _ ((by assumption))))) | exact List.Mem.tail _ (List.Mem.tail _ (List.Mem.tail _ (List.Mem.tail _ (List.Mem.tail _ ((by assumption))))))) (hx) (by exact fun _ => rfl) (by rfl)) hS ?_)
      first | (refine wl_op rfl rfl (ow_vr (vr_len_sl Try.underlying35 rfl) ?_)) | (refine wl_op rfl rfl (ow_vr (vr_len_v (v := x.1) Try.underlying35 rfl (by first | assumption | (refine Own.view ?_ (by assumption); exact fun _ => rfl))) ?_))
      refine wl_op rfl rfl (ow_vr (vr_gtr rfl rfl) ?_)
      refine wl_nil ?_
      refine hK13 _ _ ?_
      refine cw_cond rfl rfl (fun hc => ?_) (fun hc => ?_)
      · (try simp only [decide_eq_true_eq, decide_eq_false_iff_not, Bool.not_eq_true, Bool.not_eq_false, Bool.not_eq_true', Bool.not_eq_false', Bool.and_eq_true, Bool.or_eq_true, Bool.and_eq_false_iff, Bool.or_eq_false_iff, Int.not_lt, Int.not_le, gt_iff_lt, ge_iff_le, ne_eq, Decidable.not_not, beq_iff_eq] at hc)
        have hc2 := hc; clear hc
        refine cw_seq fun K14 hK14 => ?_
        refine cw_region ?_
        refine wl_op rfl rfl (ow_vr (vr_assign rfl) ?_)
        refine wl_nil ?_
        refine hK14 _ _ ?_
        refine cw_ret ?_
        refine thenF_ret (inB_ret (thenF_ret (thenF_ret (inB_ret (thenF_ret (?_))))))
        refine ret_one (fn := Try.f6) (n := 106) (t := 4) (.inl rfl) rfl rfl ?_
        exact ⟨[], ⟨congrArg Value.bool (by first | rfl | simp [hw]), rfl⟩, (by first | exact hS | exact hS.tail1.tail1 | exact hS.tail1.tail1.tail1 | exact hS.tail1.tail1.tail1.tail1)⟩
      · (try simp only [decide_eq_true_eq, decide_eq_false_iff_not, Bool.not_eq_true, Bool.not_eq_false, Bool.not_eq_true', Bool.not_eq_false', Bool.and_eq_true, Bool.or_eq_true, Bool.and_eq_false_iff, Bool.or_eq_false_iff, Int.not_lt, Int.not_le, gt_iff_lt, ge_iff_le, ne_eq, Decidable.not_not, beq_iff_eq] at hc)
        have hc2 := hc; clear hc
        refine cw_skip ?_
        refine hK12 _ _ ?_
        refine cw_seq fun K15 hK15 => ?_
        refine cw_region ?_
        refine wl_op rfl rfl (ow_vr (vr_move (v := v5) rfl) ?_)
        first | (refine wl_op rfl rfl (ow_vr (vr_len_sl Try.underlying33 rfl) ?_)) | (refine wl_op rfl rfl (ow_vr (vr_len_v (v := v5) Try.underlying33 rfl (by first | assumption | (refine Own.view ?_ (by assumption); exact fun _ => rfl))) ?_))
        refine wl_op rfl rfl (ow_vr (vr_move (v := v) rfl) ?_)
        refine wl_op rfl rfl (ow_vr (vr_move (v := .int .i64 (i : Int)) rfl) ?_)
        first | (refine wl_op rfl rfl (ow_vr (vr_indexAddr Try.underlying32 sz_35 rfl rfl (by omega) (by omega)) ?_)) | (refine wl_op rfl rfl (ow_vr (vr_indexV (v := v) Try.underlying32 sz_35 rfl (by first | assumption | (refine Own.view ?_ (by assumption); exact fun _ => rfl)) rfl (by omega) (by first | omega | (simp <;> omega))) ?_))
        refine wl_op rfl rfl (ow_lr (S := Sat _ _) (lr_loadV1 (u := x.1) Try.underlying35 rfl rfl hv (by first | exact List.Mem.head _ | exact List.Mem.tail _ (List.Mem.head _) | exact List.Mem.tail _ (List.Mem.tail _ (List.Mem.head _)) | exact List.Mem.tail _ (List.Mem.tail _ (List.Mem.tail _ (List.Mem.head _))) | exact List.Mem.tail _ (List.Mem.tail _ (List.Mem.tail _ (List.Mem.tail _ (List.Mem.head _)))) | exact List.Mem.tail _ (List.Mem.tail _ (List.Mem.tail _ (List.Mem.tail _ (List.Mem.tail _ (List.Mem.head _))))) | exact List.Mem.tail _ (List.Mem.tail _ (List.Mem.tail _ (List.Mem.tail _ (List.Mem.tail _ (List.Mem.tail _ (List.Mem.head _)))))) | exact List.Mem.tail _ (List.Mem.tail _ (List.Mem.tail _ (List.Mem.tail _ (List.Mem.tail _ (List.Mem.tail _ (List.Mem.tail _ (List.Mem.head _))))))) | exact List.Mem.tail _ (List.Mem.tail _ (List.Mem.tail _ (List.Mem.tail _ (List.Mem.tail _ (List.Mem.tail _ (List.Mem.tail _ (List.Mem.tail _ (List.Mem.head _)))))))) | exact (by assumption) | exact List.Mem.tail _ ((by assumption)) | exact List.Mem.tail _ (List.Mem.tail _ ((by assumption))) | exact List.Mem.tail _ (List.Mem.tail _ (List.Mem.tail _ ((by assumption)))) | exact List.Mem.tail _ (List.Mem.tail _ (List.Mem.tail _ (List.Mem.tail _ ((by assumption))))) | exact List.Mem.tail _ (List.Mem.tail _ (List.Mem.tail _ (List.Mem.tail _ (List.Mem.tail _ ((by assumption))))))) (hx) (by exact fun _ => rfl) (by rfl)) hS ?_)
        refine wl_op rfl rfl (ow_fng (vs := [.int .i64 _, .int .i64 _, x.1]) en_32 rfl hS (entry_Group ((allE 0 (l.take i)).length : Int) 1 x.2 _ _ hvx (by omega) (by omega) (by omega)) (by first | exact needs1 (by first | exact List.Mem.head _ | exact List.Mem.tail _ (List.Mem.head _) | exact List.Mem.tail _ (List.Mem.tail _ (List.Mem.head _)) | exact List.Mem.tail _ (List.Mem.tail _ (List.Mem.tail _ (List.Mem.head _))) | exact List.Mem.tail _ (List.Mem.tail _ (List.Mem.tail _ (List.Mem.tail _ (List.Mem.head _)))) | exact List.Mem.tail _ (List.Mem.tail _ (List.Mem.tail _ (List.Mem.tail _ (List.Mem.tail _ (List.Mem.head _))))) | exact List.Mem.tail _ (List.Mem.tail _ (List.Mem.tail _ (List.Mem.tail _ (List.Mem.tail _ (List.Mem.tail _ (List.Mem.head _)))))) | exact List.Mem.tail _ (List.Mem.tail _ (List.Mem.tail _ (List.Mem.tail _ (List.Mem.tail _ (List.Mem.tail _ (List.Mem.tail _ (List.Mem.head _))))))) | exact List.Mem.tail _ (List.Mem.tail _ (List.Mem.tail _ (List.Mem.tail _ (List.Mem.tail _ (List.Mem.tail _ (List.Mem.tail _ (List.Mem.tail _ (List.Mem.head _)))))))) | exact (by assumption) | exact List.Mem.tail _ ((by assumption)) | exact List.Mem.tail _ (List.Mem.tail _ ((by assumption))) | exact List.Mem.tail _ (List.Mem.tail _ (List.Mem.tail _ ((by assumption)))) | exact List.Mem.tail _ (List.Mem.tail _ (List.Mem.tail _ (List.Mem.tail _ ((by assumption))))) | exact List.Mem.tail _ (List.Mem.tail _ (List.Mem.tail _ (List.Mem.tail _ (List.Mem.tail _ ((by assumption))))))) | exact needs0 | exact needs2 (by first | exact List.Mem.head _ | exact List.Mem.tail _ (List.Mem.head _) | exact List.Mem.tail _ (List.Mem.tail _ (List.Mem.head _)) | exact List.Mem.tail _ (List.Mem.tail _ (List.Mem.tail _ (List.Mem.head _))) | exact List.Mem.tail _ (List.Mem.tail _ (List.Mem.tail _ (List.Mem.tail _ (List.Mem.head _)))) | exact List.Mem.tail _ (List.Mem.tail _ (List.Mem.tail _ (List.Mem.tail _ (List.Mem.tail _ (List.Mem.head _))))) | exact List.Mem.tail _ (List.Mem.tail _ (List.Mem.tail _ (List.Mem.tail _ (List.Mem.tail _ (List.Mem.tail _ (List.Mem.head _)))))) | exact List.Mem.tail _ (List.Mem.tail _ (List.Mem.tail _ (List.Mem.tail _ (List.Mem.tail _ (List.Mem.tail _ (List.Mem.tail _ (List.Mem.head _))))))) | exact List.Mem.tail _ (List.Mem.tail _ (List.Mem.tail _ (List.Mem.tail _ (List.Mem.tail _ (List.Mem.tail _ (List.Mem.tail _ (List.Mem.tail _ (List.Mem.head _)))))))) | exact (by assumption) | exact List.Mem.tail _ ((by assumption)) | exact List.Mem.tail _ (List.Mem.tail _ ((by assumption))) | exact List.Mem.tail _ (List.Mem.tail _ (List.Mem.tail _ ((by assumption)))) | exact List.Mem.tail _ (List.Mem.tail _ (List.Mem.tail _ (List.Mem.tail _ ((by assumption))))) | exact List.Mem.tail _ (List.Mem.tail _ (List.Mem.tail _ (List.Mem.tail _ (List.Mem.tail _ ((by assumption))))))) (by first | exact List.Mem.head _ | exact List.Mem.tail _ (List.Mem.head _) | exact List.Mem.tail _ (List.Mem.tail _ (List.Mem.head _)) | exact List.Mem.tail _ (List.Mem.tail _ (List.Mem.tail _ (List.Mem.head _))) | exact List.Mem.tail _ (List.Mem.tail _ (List.Mem.tail _ (List.Mem.tail _ (List.Mem.head _)))) | exact List.Mem.tail _ (List.Mem.tail _ (List.Mem.tail _ (List.Mem.tail _ (List.Mem.tail _ (List.Mem.head _))))) | exact List.Mem.tail _ (List.Mem.tail _ (List.Mem.tail _ (List.Mem.tail _ (List.Mem.tail _ (List.Mem.tail _ (List.Mem.head _)))))) | exact List.Mem.tail _ (List.Mem.tail _ (List.Mem.tail _ (List.Mem.tail _ (List.Mem.tail _ (List.Mem.tail _ (List.Mem.tail _ (List.Mem.head _))))))) | exact List.Mem.tail _ (List.Mem.tail _ (List.Mem.tail _ (List.Mem.tail _ (List.Mem.tail _ (List.Mem.tail _ (List.Mem.tail _ (List.Mem.tail _ (List.Mem.head _)))))))) | exact (by assumption) | exact List.Mem.tail _ ((by assumption)) | exact List.Mem.tail _ (List.Mem.tail _ ((by assumption))) | exact List.Mem.tail _ (List.Mem.tail _ (List.Mem.tail _ ((by assumption)))) | exact List.Mem.tail _ (List.Mem.tail _ (List.Mem.tail _ (List.Mem.tail _ ((by assumption))))) | exact List.Mem.tail _ (List.Mem.tail _ (List.Mem.tail _ (List.Mem.tail _ (List.Mem.tail _ ((by assumption))))))) | exact needs3 (by first | exact List.Mem.head _ | exact List.Mem.tail _ (List.Mem.head _) | exact List.Mem.tail _ (List.Mem.tail _ (List.Mem.head _)) | exact List.Mem.tail _ (List.Mem.tail _ (List.Mem.tail _ (List.Mem.head _))) | exact List.Mem.tail _ (List.Mem.tail _ (List.Mem.tail _ (List.Mem.tail _ (List.Mem.head _)))) | exact List.Mem.tail _ (List.Mem.tail _ (List.Mem.tail _ (List.Mem.tail _ (List.Mem.tail _ (List.Mem.head _))))) | exact List.Mem.tail _ (List.Mem.tail _ (List.Mem.tail _ (List.Mem.tail _ (List.Mem.tail _ (List.Mem.tail _ (List.Mem.head _)))))) | exact List.Mem.tail _ (List.Mem.tail _ (List.Mem.tail _ (List.Mem.tail _ (List.Mem.tail _ (List.Mem.tail _ (List.Mem.tail _ (List.Mem.head _))))))) | exact List.Mem.tail _ (List.Mem.tail _ (List.Mem.tail _ (List.Mem.tail _ (List.Mem.tail _ (List.Mem.tail _ (List.Mem.tail _ (List.Mem.tail _ (List.Mem.head _)))))))) | exact (by assumption) | exact List.Mem.tail _ ((by assumption)) | exact List.Mem.tail _ (List.Mem.tail _ ((by assumption))) | exact List.Mem.tail _ (List.Mem.tail _ (List.Mem.tail _ ((by assumption)))) | exact List.Mem.tail _ (List.Mem.tail _ (List.Mem.tail _ (List.Mem.tail _ ((by assumption))))) | exact List.Mem.tail _ (List.Mem.tail _ (List.Mem.tail _ (List.Mem.tail _ (List.Mem.tail _ ((by assumption))))))) (by first | exact List.Mem.head _ | exact List.Mem.tail _ (List.Mem.head _) | exact List.Mem.tail _ (List.Mem.tail _ (List.Mem.head _)) | exact List.Mem.tail _ (List.Mem.tail _ (List.Mem.tail _ (List.Mem.head _))) | exact List.Mem.tail _ (List.Mem.tail _ (List.Mem.tail _ (List.Mem.tail _ (List.Mem.head _)))) | exact List.Mem.tail _ (List.Mem.tail _ (List.Mem.tail _ (List.Mem.tail _ (List.Mem.tail _ (List.Mem.head _))))) | exact List.Mem.tail _ (List.Mem.tail _ (List.Mem.tail _ (List.Mem.tail _ (List.Mem.tail _ (List.Mem.tail _ (List.Mem.head _)))))) | exact List.Mem.tail _ (List.Mem.tail _ (List.Mem.tail _ (List.Mem.tail _ (List.Mem.tail _ (List.Mem.tail _ (List.Mem.tail _ (List.Mem.head _))))))) | exact List.Mem.tail _ (List.Mem.tail _ (List.Mem.tail _ (List.Mem.tail _ (List.Mem.tail _ (List.Mem.tail _ (List.Mem.tail _ (List.Mem.tail _ (List.Mem.head _)))))))) | exact (by assumption) | exact List.Mem.tail _ ((by assumption)) | exact List.Mem.tail _ (List.Mem.tail _ ((by assumption))) | exact List.Mem.tail _ (List.Mem.tail _ (List.Mem.tail _ ((by assumption)))) | exact List.Mem.tail _ (List.Mem.tail _ (List.Mem.tail _ (List.Mem.tail _ ((by assumption))))) | exact List.Mem.tail _ (List.Mem.tail _ (List.Mem.tail _ (List.Mem.tail _ (List.Mem.tail _ ((by assumption))))))) (by first | exact List.Mem.head _ | exact List.Mem.tail _ (List.Mem.head _) | exact List.Mem.tail _ (List.Mem.tail _ (List.Mem.head _)) | exact List.Mem.tail _ (List.Mem.tail _ (List.Mem.tail _ (List.Mem.head _))) | exact List.Mem.tail _ (List.Mem.tail _ (List.Mem.tail _ (List.Mem.tail _ (List.Mem.head _)))) | exact List.Mem.tail _ (List.Mem.tail _ (List.Mem.tail _ (List.Mem.tail _ (List.Mem.tail _ (List.Mem.head _))))) | exact List.Mem.tail _ (List.Mem.tail _ (List.Mem.tail _ (List.Mem.tail _ (List.Mem.tail _ (List.Mem.tail _ (List.Mem.head _)))))) | exact List.Mem.tail _ (List.Mem.tail _ (List.Mem.tail _ (List.Mem.tail _ (List.Mem.tail _ (List.Mem.tail _ (List.Mem.tail _ (List.Mem.head _))))))) | exact List.Mem.tail _ (List.Mem.tail _ (List.Mem.tail _ (List.Mem.tail _ (List.Mem.tail _ (List.Mem.tail _ (List.Mem.tail _ (List.Mem.tail _ (List.Mem.head _)))))))) | exact (by assumption) | exact List.Mem.tail _ ((by assumption)) | exact List.Mem.tail _ (List.Mem.tail _ ((by assumption))) | exact List.Mem.tail _ (List.Mem.tail _ (List.Mem.tail _ ((by assumption)))) | exact List.Mem.tail _ (List.Mem.tail _ (List.Mem.tail _ (List.Mem.tail _ ((by assumption))))) | exact List.Mem.tail _ (List.Mem.tail _ (List.Mem.tail _ (List.Mem.tail _ (List.Mem.tail _ ((by assumption)))))))) ?_)
        clear hS; rintro _ _ w ⟨vg, Dg, rfl, rfl, hog⟩ hS; (try simp only [List.cons_append, List.nil_append] at hS)
        refine wl_op rfl rfl (ow_vr (vr_move (v := .tuple _) rfl) ?_)
        refine wl_op rfl rfl (ow_vr (vr_extract (v := vg) rfl rfl) ?_)
        refine wl_op rfl rfl (ow_vr (vr_extract rfl rfl) ?_)
        refine wl_op rfl rfl (ow_vr (vr_assign (v := vg) rfl) ?_)
        refine wl_op rfl rfl (ow_vr (vr_assign (v := .bool _) rfl) ?_)
        refine wl_nil ?_
        refine hK15 _ _ ?_
        refine cw_seq fun K16 hK16 => ?_
        refine cw_seq fun K17 hK17 => ?_
        refine cw_region ?_
        refine wl_op rfl rfl (ow_vr (vr_move (v := .bool _) rfl) ?_)
        refine wl_op rfl rfl (ow_vr (vr_not rfl) ?_)
        refine wl_nil ?_
        refine hK17 _ _ ?_
        refine cw_cond rfl rfl (fun hc => ?_) (fun hc => ?_)
        · (try simp only [decide_eq_true_eq, decide_eq_false_iff_not, Bool.not_eq_true, Bool.not_eq_false, Bool.not_eq_true', Bool.not_eq_false', Bool.and_eq_true, Bool.or_eq_true, Bool.and_eq_false_iff, Bool.or_eq_false_iff, Int.not_lt, Int.not_le, gt_iff_lt, ge_iff_le, ne_eq, Decidable.not_not, beq_iff_eq] at hc)
          have hc3 := hc; clear hc
          refine cw_seq fun K18 hK18 => ?_
          refine cw_region ?_
          refine wl_op rfl rfl (ow_vr (vr_assign rfl) ?_)
          refine wl_nil ?_
          refine hK18 _ _ ?_
          refine cw_ret ?_
          refine thenF_ret (inB_ret (thenF_ret (thenF_ret (inB_ret (thenF_ret (?_))))))
          refine ret_one (fn := Try.f6) (n := 106) (t := 4) (.inl rfl) rfl rfl ?_
          exact ⟨[], ⟨congrArg Value.bool (by first | rfl | simp [hw]), rfl⟩, (by first | exact hS | exact hS.tail1.tail1 | exact hS.tail1.tail1.tail1 | exact hS.tail1.tail1.tail1.tail1)⟩
        · (try simp only [decide_eq_true_eq, decide_eq_false_iff_not, Bool.not_eq_true, Bool.not_eq_false, Bool.not_eq_true', Bool.not_eq_false', Bool.and_eq_true, Bool.or_eq_true, Bool.and_eq_false_iff, Bool.or_eq_false_iff, Int.not_lt, Int.not_le, gt_iff_lt, ge_iff_le, ne_eq, Decidable.not_not, beq_iff_eq] at hc)
          have hc3 := hc; clear hc
          refine cw_skip ?_
          refine hK16 _ _ ?_
          refine cw_seq fun K19 hK19 => ?_
          rw [if_pos hc3] at hog
          have hgl := groupL_length ((allE 0 (l.take i)).length : Int) 1 x.2
          have hel : (endsE (l.take i)).length = i := by simp [endsE]; omega
          refine cw_region ?_
          refine wl_op rfl rfl (ow_vr (vr_move (v := v5) rfl) ?_)
          refine wl_op rfl rfl (ow_vr (vr_move (v := vg) rfl) ?_)
          refine wl_op rfl rfl (ow_append (v := v5) (u := vg) hS Try.underlying33 Try.underlying33 if_72 rfl (by decide) rfl rfl (by assumption) (by first | assumption | (refine Own.view ?_ (by assumption); exact fun _ => rfl)) (by first | exact HasC.here | exact HasC.there (HasC.here) | exact HasC.there (HasC.there (HasC.here)) | exact HasC.there (HasC.there (HasC.there (HasC.here))) | exact HasC.there (HasC.there (HasC.there (HasC.there (HasC.here)))) | exact HasC.there (HasC.there (HasC.there (HasC.there (HasC.there (HasC.here))))) | exact HasC.there (HasC.there (HasC.there (HasC.there (HasC.there (HasC.there (HasC.here)))))) | exact HasC.there (HasC.there (HasC.there (HasC.there (HasC.there (HasC.there (HasC.there (HasC.here))))))) | exact HasC.there (HasC.there (HasC.there (HasC.there (HasC.there (HasC.there (HasC.there (HasC.there (HasC.here))))))))) (by first | exact List.Mem.head _ | exact List.Mem.tail _ (List.Mem.head _) | exact List.Mem.tail _ (List.Mem.tail _ (List.Mem.head _)) | exact List.Mem.tail _ (List.Mem.tail _ (List.Mem.tail _ (List.Mem.head _))) | exact List.Mem.tail _ (List.Mem.tail _ (List.Mem.tail _ (List.Mem.tail _ (List.Mem.head _)))) | exact List.Mem.tail _ (List.Mem.tail _ (List.Mem.tail _ (List.Mem.tail _ (List.Mem.tail _ (List.Mem.head _))))) | exact List.Mem.tail _ (List.Mem.tail _ (List.Mem.tail _ (List.Mem.tail _ (List.Mem.tail _ (List.Mem.tail _ (List.Mem.head _)))))) | exact List.Mem.tail _ (List.Mem.tail _ (List.Mem.tail _ (List.Mem.tail _ (List.Mem.tail _ (List.Mem.tail _ (List.Mem.tail _ (List.Mem.head _))))))) | exact List.Mem.tail _ (List.Mem.tail _ (List.Mem.tail _ (List.Mem.tail _ (List.Mem.tail _ (List.Mem.tail _ (List.Mem.tail _ (List.Mem.tail _ (List.Mem.head _)))))))) | exact (by assumption) | exact List.Mem.tail _ ((by assumption)) | exact List.Mem.tail _ (List.Mem.tail _ ((by assumption))) | exact List.Mem.tail _ (List.Mem.tail _ (List.Mem.tail _ ((by assumption)))) | exact List.Mem.tail _ (List.Mem.tail _ (List.Mem.tail _ (List.Mem.tail _ ((by assumption))))) | exact List.Mem.tail _ (List.Mem.tail _ (List.Mem.tail _ (List.Mem.tail _ (List.Mem.tail _ ((by assumption))))))) (by exact fun _ => rfl) (by exact fun _ => rfl) (by first | omega | (simp [maxLen] <;> omega) | (simp <;> omega)) (by first | omega | (simp [maxLen] <;> omega) | (simp <;> omega)) ?_)
          clear hS; intro v50 D50 w ho50 hS
          refine wl_op rfl rfl (ow_vr (vr_assign (v := v50) rfl) ?_)
          refine wl_nil ?_
          refine hK19 _ _ ?_
          refine cw_region ?_
          refine wl_op rfl rfl (ow_vr (vr_move (v := v6) rfl) ?_)
          refine wl_op rfl rfl (ow_vr (vr_move (v := v50) rfl) ?_)
          first | (refine wl_op rfl rfl (ow_vr (vr_len_sl Try.underlying33 rfl) ?_)) | (refine wl_op rfl rfl (ow_vr (vr_len_v (v := v50) Try.underlying33 rfl (by first | assumption | (refine Own.view ?_ (by assumption); exact fun _ => rfl))) ?_))
          refine wl_op rfl rfl (ow_buildSliceD (m := 1) (len := 1) (vs := [.int .i64 _]) (cs := [.int .i64 _]) hS Try.underlying34 if_3 rfl (by decide) (by decide) rfl rfl (by simp [Value.cells]) rfl ?_)
          clear hS; intro b54 w hS
          refine wl_op rfl rfl (ow_append (v := v6) hS Try.underlying34 Try.underlying34 if_3 rfl (by decide) rfl rfl (by assumption) (View.single (x := (((allE 0 (l.take i) ++ groupL ((allE 0 (l.take i)).length : Int) 1 x.2).length : Nat) : Int)) rfl rfl (by decide)) (by first | exact HasC.here | exact HasC.there (HasC.here) | exact HasC.there (HasC.there (HasC.here)) | exact HasC.there (HasC.there (HasC.there (HasC.here))) | exact HasC.there (HasC.there (HasC.there (HasC.there (HasC.here)))) | exact HasC.there (HasC.there (HasC.there (HasC.there (HasC.there (HasC.here))))) | exact HasC.there (HasC.there (HasC.there (HasC.there (HasC.there (HasC.there (HasC.here)))))) | exact HasC.there (HasC.there (HasC.there (HasC.there (HasC.there (HasC.there (HasC.there (HasC.here))))))) | exact HasC.there (HasC.there (HasC.there (HasC.there (HasC.there (HasC.there (HasC.there (HasC.there (HasC.here))))))))) (by first | exact List.Mem.head _ | exact List.Mem.tail _ (List.Mem.head _) | exact List.Mem.tail _ (List.Mem.tail _ (List.Mem.head _)) | exact List.Mem.tail _ (List.Mem.tail _ (List.Mem.tail _ (List.Mem.head _))) | exact List.Mem.tail _ (List.Mem.tail _ (List.Mem.tail _ (List.Mem.tail _ (List.Mem.head _)))) | exact List.Mem.tail _ (List.Mem.tail _ (List.Mem.tail _ (List.Mem.tail _ (List.Mem.tail _ (List.Mem.head _))))) | exact List.Mem.tail _ (List.Mem.tail _ (List.Mem.tail _ (List.Mem.tail _ (List.Mem.tail _ (List.Mem.tail _ (List.Mem.head _)))))) | exact List.Mem.tail _ (List.Mem.tail _ (List.Mem.tail _ (List.Mem.tail _ (List.Mem.tail _ (List.Mem.tail _ (List.Mem.tail _ (List.Mem.head _))))))) | exact List.Mem.tail _ (List.Mem.tail _ (List.Mem.tail _ (List.Mem.tail _ (List.Mem.tail _ (List.Mem.tail _ (List.Mem.tail _ (List.Mem.tail _ (List.Mem.head _)))))))) | exact (by assumption) | exact List.Mem.tail _ ((by assumption)) | exact List.Mem.tail _ (List.Mem.tail _ ((by assumption))) | exact List.Mem.tail _ (List.Mem.tail _ (List.Mem.tail _ ((by assumption)))) | exact List.Mem.tail _ (List.Mem.tail _ (List.Mem.tail _ (List.Mem.tail _ ((by assumption))))) | exact List.Mem.tail _ (List.Mem.tail _ (List.Mem.tail _ (List.Mem.tail _ (List.Mem.tail _ ((by assumption))))))) (by exact fun _ => rfl) (by exact fun _ => rfl) (by first | omega | (simp [maxLen] <;> omega) | (simp <;> omega)) (by first | omega | (simp [maxLen] <;> omega) | (simp <;> omega)) ?_)
          clear hS; intro v55 D55 w ho55 hS
          refine wl_op rfl rfl (ow_vr (vr_assign (v := v55) rfl) ?_)
          refine wl_nil ?_
          replace hS := hS.tail1.tail1
          have e1 : allE 0 (l.take (i + 1)) = allE 0 (l.take i) ++ groupL ((allE 0 (l.take i)).length : Int) 1 x.2 := by rw [take_snoc hx, allE_snoc, allE_length, Nat.zero_add]
          have e2 : endsE (l.take (i + 1)) = endsE (l.take i) ++ [((allE 0 (l.take i) ++ groupL ((allE 0 (l.take i)).length : Int) 1 x.2).length : Int)] := by rw [← e1, allE_length, take_snoc hx, endsE_snoc]
          rw [← e1] at ho50
          rw [← e2] at ho55
          have e3 : sumL (l.take (i + 1)) = sumL (l.take i) + (x.2.length + 1) := by rw [take_snoc hx, sumL_snoc]
          refine hK11 _ _ ?_
          refine cw_region ?_
          refine wl_op rfl rfl (ow_vr (vr_move (v := .int .i64 (i : Int)) rfl) ?_)
          first | (refine wl_op rfl rfl (ow_vr (vr_addi rfl rfl (by unfold inI64; omega)) ?_)) | (refine wl_op rfl rfl (ow_vr (vr_add rfl rfl) ?_))
          refine wl_op rfl rfl (ow_vr (vr_assign (v := .int .i64 _) rfl) ?_)
          refine wl_nil ?_
          refine thenF_normal ⟨_, ?_, i + 1, v50, D50, v55, D55, _, (reb (reb (reb (reb (reb rfl rfl) rfl) rfl) rfl) rfl), ?_, rfl, hS⟩
          · omega
          · exact ⟨by omega, ho50, ho55, by omega, fun y hy => (List.mem_append.1 (take_snoc hx ▸ hy)).elim (hle y) (fun h => by cases List.mem_singleton.1 h; omega)⟩
    · (try simp only [decide_eq_true_eq, decide_eq_false_iff_not, Bool.not_eq_true, Bool.not_eq_false, Bool.not_eq_true', Bool.not_eq_false', Bool.and_eq_true, Bool.or_eq_true, Bool.and_eq_false_iff, Bool.or_eq_false_iff, Int.not_lt, Int.not_le, gt_iff_lt, ge_iff_le, ne_eq, Decidable.not_not, beq_iff_eq] at hc)
      have hc1 := hc; clear hc
      refine cw_exit ?_
      refine hK7 _ _ ?_
      refine cw_seq fun K20 hK20 => ?_
      obtain rfl : i = l.length := by omega
      rw [List.take_length] at ho5 ho6 hs hal hle
      have h60 := tmod_bd cut (n := ((allE 0 l).length : Int) + 1) (by omega)
      have h68 : 0 ≤ (cut.tmod (((allE 0 l).length : Int) + 1) + ((allE 0 l).length : Int) + 1) % (((allE 0 l).length : Int) + 1) ∧ (cut.tmod (((allE 0 l).length : Int) + 1) + ((allE 0 l).length : Int) + 1) % (((allE 0 l).length : Int) + 1) < ((allE 0 l).length : Int) + 1 := ⟨Int.emod_nonneg _ (by omega), Int.emod_lt_of_pos _ (by omega)⟩
      refine cw_region ?_
      refine wl_op rfl rfl (ow_vr (vr_move (v := .int .i64 cut) rfl) ?_)
      refine wl_op rfl rfl (ow_vr (vr_move (v := v5) rfl) ?_)
      first | (refine wl_op rfl rfl (ow_vr (vr_len_sl Try.underlying33 rfl) ?_)) | (refine wl_op rfl rfl (ow_vr (vr_len_v (v := v5) Try.underlying33 rfl (by first | assumption | (refine Own.view ?_ (by assumption); exact fun _ => rfl))) ?_))
      first | (refine wl_op rfl rfl (ow_vr (vr_addi rfl rfl (by unfold inI64; omega)) ?_)) | (refine wl_op rfl rfl (ow_vr (vr_add rfl rfl) ?_))
      refine wl_op rfl rfl (ow_vr (vr_remt rfl rfl (by omega)) ?_)
      refine wl_op rfl rfl (ow_vr (vr_move (v := v5) rfl) ?_)
      first | (refine wl_op rfl rfl (ow_vr (vr_len_sl Try.underlying33 rfl) ?_)) | (refine wl_op rfl rfl (ow_vr (vr_len_v (v := v5) Try.underlying33 rfl (by first | assumption | (refine Own.view ?_ (by assumption); exact fun _ => rfl))) ?_))
      first | (refine wl_op rfl rfl (ow_vr (vr_addi rfl rfl (by unfold inI64; omega)) ?_)) | (refine wl_op rfl rfl (ow_vr (vr_add rfl rfl) ?_))
      first | (refine wl_op rfl rfl (ow_vr (vr_addi rfl rfl (by unfold inI64; omega)) ?_)) | (refine wl_op rfl rfl (ow_vr (vr_add rfl rfl) ?_))
      refine wl_op rfl rfl (ow_vr (vr_move (v := v5) rfl) ?_)
      first | (refine wl_op rfl rfl (ow_vr (vr_len_sl Try.underlying33 rfl) ?_)) | (refine wl_op rfl rfl (ow_vr (vr_len_v (v := v5) Try.underlying33 rfl (by first | assumption | (refine Own.view ?_ (by assumption); exact fun _ => rfl))) ?_))
      first | (refine wl_op rfl rfl (ow_vr (vr_addi rfl rfl (by unfold inI64; omega)) ?_)) | (refine wl_op rfl rfl (ow_vr (vr_add rfl rfl) ?_))
      refine wl_op rfl rfl (ow_vr (vr_rem rfl rfl (by omega) (by omega)) ?_)
      refine wl_op rfl rfl (ow_vr (vr_assign (v := .int .i64 _) rfl) ?_)
      refine wl_nil ?_
      have hel2 : (endsE l).length = l.length := by simp [endsE]
      generalize (cut.tmod (((allE 0 l).length : Int) + 1) + ((allE 0 l).length : Int) + 1) % (((allE 0 l).length : Int) + 1) = kk at h68 ⊢
      obtain ⟨K, rfl⟩ := Int.eq_ofNat_of_zero_le h68.1
      have hKl : K ≤ (allE 0 l).length := by omega
      have hsub : View 5 encE (subSl v5 5 0 K) ((allE 0 l).take K) D5 := by simpa using View.sub (h := K) (m := 5) (enc := encE) (fun _ => rfl) (ho5.view fun _ => rfl) (Nat.zero_le K) hKl
      have hlaw : changesE ((allE 0 l).take K) = (wantE K 0 l, endE K 0 0 l) := by simpa [changesE] using groups_cut K l 0 [] 0
      have hch := entry_Changes _ _ _ hsub (by rw [List.length_take]; omega)
      rw [hlaw] at hch
      refine hK20 _ _ ?_
      refine cw_seq fun K21 hK21 => ?_
      refine cw_region ?_
      refine wl_op rfl rfl (ow_vr (vr_move (v := v5) rfl) ?_)
      refine wl_op rfl rfl (ow_vr (vr_move (v := .int .i64 _) rfl) ?_)
      refine wl_op rfl rfl (ow_vr (vr_slice_v (v := v5) Try.underlying33 sz_72 rfl (by first | assumption | (refine Own.view ?_ (by assumption); exact fun _ => rfl)) (by first | rfl | exact ⟨_, rfl⟩) (by first | rfl | exact ⟨_, rfl⟩) (by omega) (by omega)) ?_)
      refine wl_op rfl rfl (ow_fng (vs := [subSl v5 5 0 K]) en_33 rfl hS (hch) (by first | exact needs1 (by first | exact List.Mem.head _ | exact List.Mem.tail _ (List.Mem.head _) | exact List.Mem.tail _ (List.Mem.tail _ (List.Mem.head _)) | exact List.Mem.tail _ (List.Mem.tail _ (List.Mem.tail _ (List.Mem.head _))) | exact List.Mem.tail _ (List.Mem.tail _ (List.Mem.tail _ (List.Mem.tail _ (List.Mem.head _)))) | exact List.Mem.tail _ (List.Mem.tail _ (List.Mem.tail _ (List.Mem.tail _ (List.Mem.tail _ (List.Mem.head _))))) | exact List.Mem.tail _ (List.Mem.tail _ (List.Mem.tail _ (List.Mem.tail _ (List.Mem.tail _ (List.Mem.tail _ (List.Mem.head _)))))) | exact List.Mem.tail _ (List.Mem.tail _ (List.Mem.tail _ (List.Mem.tail _ (List.Mem.tail _ (List.Mem.tail _ (List.Mem.tail _ (List.Mem.head _))))))) | exact List.Mem.tail _ (List.Mem.tail _ (List.Mem.tail _ (List.Mem.tail _ (List.Mem.tail _ (List.Mem.tail _ (List.Mem.tail _ (List.Mem.tail _ (List.Mem.head _)))))))) | exact (by assumption) | exact List.Mem.tail _ ((by assumption)) | exact List.Mem.tail _ (List.Mem.tail _ ((by assumption))) | exact List.Mem.tail _ (List.Mem.tail _ (List.Mem.tail _ ((by assumption)))) | exact List.Mem.tail _ (List.Mem.tail _ (List.Mem.tail _ (List.Mem.tail _ ((by assumption))))) | exact List.Mem.tail _ (List.Mem.tail _ (List.Mem.tail _ (List.Mem.tail _ (List.Mem.tail _ ((by assumption))))))) | exact needs0 | exact needs2 (by first | exact List.Mem.head _ | exact List.Mem.tail _ (List.Mem.head _) | exact List.Mem.tail _ (List.Mem.tail _ (List.Mem.head _)) | exact List.Mem.tail _ (List.Mem.tail _ (List.Mem.tail _ (List.Mem.head _))) | exact List.Mem.tail _ (List.Mem.tail _ (List.Mem.tail _ (List.Mem.tail _ (List.Mem.head _)))) | exact List.Mem.tail _ (List.Mem.tail _ (List.Mem.tail _ (List.Mem.tail _ (List.Mem.tail _ (List.Mem.head _))))) | exact List.Mem.tail _ (List.Mem.tail _ (List.Mem.tail _ (List.Mem.tail _ (List.Mem.tail _ (List.Mem.tail _ (List.Mem.head _)))))) | exact List.Mem.tail _ (List.Mem.tail _ (List.Mem.tail _ (List.Mem.tail _ (List.Mem.tail _ (List.Mem.tail _ (List.Mem.tail _ (List.Mem.head _))))))) | exact List.Mem.tail _ (List.Mem.tail _ (List.Mem.tail _ (List.Mem.tail _ (List.Mem.tail _ (List.Mem.tail _ (List.Mem.tail _ (List.Mem.tail _ (List.Mem.head _)))))))) | exact (by assumption) | exact List.Mem.tail _ ((by assumption)) | exact List.Mem.tail _ (List.Mem.tail _ ((by assumption))) | exact List.Mem.tail _ (List.Mem.tail _ (List.Mem.tail _ ((by assumption)))) | exact List.Mem.tail _ (List.Mem.tail _ (List.Mem.tail _ (List.Mem.tail _ ((by assumption))))) | exact List.Mem.tail _ (List.Mem.tail _ (List.Mem.tail _ (List.Mem.tail _ (List.Mem.tail _ ((by assumption))))))) (by first | exact List.Mem.head _ | exact List.Mem.tail _ (List.Mem.head _) | exact List.Mem.tail _ (List.Mem.tail _ (List.Mem.head _)) | exact List.Mem.tail _ (List.Mem.tail _ (List.Mem.tail _ (List.Mem.head _))) | exact List.Mem.tail _ (List.Mem.tail _ (List.Mem.tail _ (List.Mem.tail _ (List.Mem.head _)))) | exact List.Mem.tail _ (List.Mem.tail _ (List.Mem.tail _ (List.Mem.tail _ (List.Mem.tail _ (List.Mem.head _))))) | exact List.Mem.tail _ (List.Mem.tail _ (List.Mem.tail _ (List.Mem.tail _ (List.Mem.tail _ (List.Mem.tail _ (List.Mem.head _)))))) | exact List.Mem.tail _ (List.Mem.tail _ (List.Mem.tail _ (List.Mem.tail _ (List.Mem.tail _ (List.Mem.tail _ (List.Mem.tail _ (List.Mem.head _))))))) | exact List.Mem.tail _ (List.Mem.tail _ (List.Mem.tail _ (List.Mem.tail _ (List.Mem.tail _ (List.Mem.tail _ (List.Mem.tail _ (List.Mem.tail _ (List.Mem.head _)))))))) | exact (by assumption) | exact List.Mem.tail _ ((by assumption)) | exact List.Mem.tail _ (List.Mem.tail _ ((by assumption))) | exact List.Mem.tail _ (List.Mem.tail _ (List.Mem.tail _ ((by assumption)))) | exact List.Mem.tail _ (List.Mem.tail _ (List.Mem.tail _ (List.Mem.tail _ ((by assumption))))) | exact List.Mem.tail _ (List.Mem.tail _ (List.Mem.tail _ (List.Mem.tail _ (List.Mem.tail _ ((by assumption))))))) | exact needs3 (by first | exact List.Mem.head _ | exact List.Mem.tail _ (List.Mem.head _) | exact List.Mem.tail _ (List.Mem.tail _ (List.Mem.head _)) | exact List.Mem.tail _ (List.Mem.tail _ (List.Mem.tail _ (List.Mem.head _))) | exact List.Mem.tail _ (List.Mem.tail _ (List.Mem.tail _ (List.Mem.tail _ (List.Mem.head _)))) | exact List.Mem.tail _ (List.Mem.tail _ (List.Mem.tail _ (List.Mem.tail _ (List.Mem.tail _ (List.Mem.head _))))) | exact List.Mem.tail _ (List.Mem.tail _ (List.Mem.tail _ (List.Mem.tail _ (List.Mem.tail _ (List.Mem.tail _ (List.Mem.head _)))))) | exact List.Mem.tail _ (List.Mem.tail _ (List.Mem.tail _ (List.Mem.tail _ (List.Mem.tail _ (List.Mem.tail _ (List.Mem.tail _ (List.Mem.head _))))))) | exact List.Mem.tail _ (List.Mem.tail _ (List.Mem.tail _ (List.Mem.tail _ (List.Mem.tail _ (List.Mem.tail _ (List.Mem.tail _ (List.Mem.tail _ (List.Mem.head _)))))))) | exact (by assumption) | exact List.Mem.tail _ ((by assumption)) | exact List.Mem.tail _ (List.Mem.tail _ ((by assumption))) | exact List.Mem.tail _ (List.Mem.tail _ (List.Mem.tail _ ((by assumption)))) | exact List.Mem.tail _ (List.Mem.tail _ (List.Mem.tail _ (List.Mem.tail _ ((by assumption))))) | exact List.Mem.tail _ (List.Mem.tail _ (List.Mem.tail _ (List.Mem.tail _ (List.Mem.tail _ ((by assumption))))))) (by first | exact List.Mem.head _ | exact List.Mem.tail _ (List.Mem.head _) | exact List.Mem.tail _ (List.Mem.tail _ (List.Mem.head _)) | exact List.Mem.tail _ (List.Mem.tail _ (List.Mem.tail _ (List.Mem.head _))) | exact List.Mem.tail _ (List.Mem.tail _ (List.Mem.tail _ (List.Mem.tail _ (List.Mem.head _)))) | exact List.Mem.tail _ (List.Mem.tail _ (List.Mem.tail _ (List.Mem.tail _ (List.Mem.tail _ (List.Mem.head _))))) | exact List.Mem.tail _ (List.Mem.tail _ (List.Mem.tail _ (List.Mem.tail _ (List.Mem.tail _ (List.Mem.tail _ (List.Mem.head _)))))) | exact List.Mem.tail _ (List.Mem.tail _ (List.Mem.tail _ (List.Mem.tail _ (List.Mem.tail _ (List.Mem.tail _ (List.Mem.tail _ (List.Mem.head _))))))) | exact List.Mem.tail _ (List.Mem.tail _ (List.Mem.tail _ (List.Mem.tail _ (List.Mem.tail _ (List.Mem.tail _ (List.Mem.tail _ (List.Mem.tail _ (List.Mem.head _)))))))) | exact (by assumption) | exact List.Mem.tail _ ((by assumption)) | exact List.Mem.tail _ (List.Mem.tail _ ((by assumption))) | exact List.Mem.tail _ (List.Mem.tail _ (List.Mem.tail _ ((by assumption)))) | exact List.Mem.tail _ (List.Mem.tail _ (List.Mem.tail _ (List.Mem.tail _ ((by assumption))))) | exact List.Mem.tail _ (List.Mem.tail _ (List.Mem.tail _ (List.Mem.tail _ (List.Mem.tail _ ((by assumption))))))) (by first | exact List.Mem.head _ | exact List.Mem.tail _ (List.Mem.head _) | exact List.Mem.tail _ (List.Mem.tail _ (List.Mem.head _)) | exact List.Mem.tail _ (List.Mem.tail _ (List.Mem.tail _ (List.Mem.head _))) | exact List.Mem.tail _ (List.Mem.tail _ (List.Mem.tail _ (List.Mem.tail _ (List.Mem.head _)))) | exact List.Mem.tail _ (List.Mem.tail _ (List.Mem.tail _ (List.Mem.tail _ (List.Mem.tail _ (List.Mem.head _))))) | exact List.Mem.tail _ (List.Mem.tail _ (List.Mem.tail _ (List.Mem.tail _ (List.Mem.tail _ (List.Mem.tail _ (List.Mem.head _)))))) | exact List.Mem.tail _ (List.Mem.tail _ (List.Mem.tail _ (List.Mem.tail _ (List.Mem.tail _ (List.Mem.tail _ (List.Mem.tail _ (List.Mem.head _))))))) | exact List.Mem.tail _ (List.Mem.tail _ (List.Mem.tail _ (List.Mem.tail _ (List.Mem.tail _ (List.Mem.tail _ (List.Mem.tail _ (List.Mem.tail _ (List.Mem.head _)))))))) | exact (by assumption) | exact List.Mem.tail _ ((by assumption)) | exact List.Mem.tail _ (List.Mem.tail _ ((by assumption))) | exact List.Mem.tail _ (List.Mem.tail _ (List.Mem.tail _ ((by assumption)))) | exact List.Mem.tail _ (List.Mem.tail _ (List.Mem.tail _ (List.Mem.tail _ ((by assumption))))) | exact List.Mem.tail _ (List.Mem.tail _ (List.Mem.tail _ (List.Mem.tail _ (List.Mem.tail _ ((by assumption)))))))) ?_)
      clear hS; rintro _ _ w ⟨vc, Dc, rfl, rfl, hoc⟩ hS; (try simp only [List.cons_append, List.nil_append] at hS)
      refine wl_op rfl rfl (ow_vr (vr_move (v := .tuple _) rfl) ?_)
      refine wl_op rfl rfl (ow_vr (vr_extract (v := vc) rfl rfl) ?_)
      refine wl_op rfl rfl (ow_vr (vr_extract rfl rfl) ?_)
      refine wl_op rfl rfl (ow_vr (vr_assign (v := vc) rfl) ?_)
      refine wl_op rfl rfl (ow_vr (vr_assign (v := .int .i64 _) rfl) ?_)
      refine wl_nil ?_
      refine hK21 _ _ ?_
      refine cw_seq fun K22 hK22 => ?_
      refine cw_region ?_
      refine wl_op rfl rfl (ow_vr (vr_assign rfl) ?_)
      refine wl_nil ?_
      refine hK22 _ _ ?_
      refine cw_seq fun K23 hK23 => ?_
      refine cw_region ?_
      refine wl_op rfl rfl (ow_vr (vr_assign rfl) ?_)
      refine wl_nil ?_
      refine hK23 _ _ ?_
      refine cw_seq fun K24 hK24 => ?_
      refine cw_seq fun K25 hK25 => ?_
      replace hS := (Sat.nilc.2 hS).front1
      refine cw_region ?_
      refine wl_op rfl rfl (ow_vr (vr_assign rfl) ?_)
      refine wl_nil ?_
      refine hK25 _ _ ?_
      refine cw_block ?_
      refine cw_loop (fun m f w => ∃ (i : Nat) (wn : List Ch) (v13 : Value) (D13 : Chunk) (e : Int) (g : Nat → Value), f = (upd (upd (upd (upd (upd (upd (upd (upd g 0 (v)) 6 (v6)) 10 (.int .i64 (K : Int))) 11 (vc)) 12 (.int .i64 (endE K 0 0 l))) 13 (v13)) 14 (.int .i64 e)) 15 (.int .i64 (i : Int))) ∧ (i ≤ l.length ∧ Own 70 2 encC v13 wn D13 ∧ wn ++ wantE K (sumL (l.take i)) (l.drop i) = wantE K 0 l ∧ endE K (sumL (l.take i)) e (l.drop i) = endE K 0 0 l ∧ wn.length ≤ 20 * i) ∧ m = l.length - i ∧ Sat E (Dc :: D13 :: D5 :: D6 :: F) w) ⟨0, [], .slice none 0 0, [], 0, _, (reb (reb (reb (reb (reb (reb (reb (reb rfl rfl) rfl) rfl) rfl) rfl) rfl) rfl) rfl), ?_, rfl, hS⟩ ?_
      · exact ⟨by omega, Own.nil, by simp [sumL], by simp [sumL], by simp⟩
      clear hS; rintro m f w ⟨i, wn, v13, D13, e, g, rfl, hI1, rfl, hS⟩
      obtain ⟨hi, ho13, hw, he, hwl⟩ := hI1
      refine cw_seq fun K26 hK26 => ?_
      refine cw_seq fun K27 hK27 => ?_
      refine cw_region ?_
      refine wl_op rfl rfl (ow_vr (vr_move (v := .int .i64 (i : Int)) rfl) ?_)
      refine wl_op rfl rfl (ow_vr (vr_move (v := v) rfl) ?_)
      first | (refine wl_op rfl rfl (ow_vr (vr_len_sl Try.underlying32 rfl) ?_)) | (refine wl_op rfl rfl (ow_vr (vr_len_v (v := v) Try.underlying32 rfl (by first | assumption | (refine Own.view ?_ (by assumption); exact fun _ => rfl))) ?_))
      refine wl_op rfl rfl (ow_vr (vr_lss rfl rfl) ?_)
      refine wl_nil ?_
      refine hK27 _ _ ?_
      refine cw_cond rfl rfl (fun hc => ?_) (fun hc => ?_)
      · (try simp only [decide_eq_true_eq, decide_eq_false_iff_not, Bool.not_eq_true, Bool.not_eq_false, Bool.not_eq_true', Bool.not_eq_false', Bool.and_eq_true, Bool.or_eq_true, Bool.and_eq_false_iff, Bool.or_eq_false_iff, Int.not_lt, Int.not_le, gt_iff_lt, ge_iff_le, ne_eq, Decidable.not_not, beq_iff_eq] at hc)
        have hc4 := hc; clear hc
        refine cw_skip ?_
        refine hK26 _ _ ?_
        refine cw_seq fun K28 hK28 => ?_
        refine cw_block ?_
        refine cw_seq fun K29 hK29 => ?_
        obtain ⟨x, hx⟩ := get_lt (xs := l) (k := i) (by omega)
        have hvx := hvs x (List.mem_of_getElem? hx)
        have e3 : sumL (l.take (i + 1)) = sumL (l.take i) + (x.2.length + 1) := by rw [take_snoc hx, sumL_snoc]
        rw [drop_cons hx, wantE, ← e3] at hw
        rw [drop_cons hx, endE, ← e3] at he
        have hx20 := hle x (List.mem_of_getElem? hx)
        refine cw_region ?_
        refine wl_op rfl rfl (ow_vr (vr_move (v := v6) rfl) ?_)
        refine wl_op rfl rfl (ow_vr (vr_move (v := .int .i64 (i : Int)) rfl) ?_)
        first | (refine wl_op rfl rfl (ow_vr (vr_indexAddr Try.underlying34 sz_3 rfl rfl (by omega) (by omega)) ?_)) | (refine wl_op rfl rfl (ow_vr (vr_indexV (v := v6) Try.underlying34 sz_3 rfl (by first | assumption | (refine Own.view ?_ (by assumption); exact fun _ => rfl)) rfl (by omega) (by first | omega | (simp <;> omega))) ?_))
        refine wl_op rfl rfl (ow_lr (S := Sat _ _) (lr_loadV1 (u := .int .i64 _) Try.underlying3 rfl rfl (ho6.view fun _ => rfl) (by first | exact List.Mem.head _ | exact List.Mem.tail _ (List.Mem.head _) | exact List.Mem.tail _ (List.Mem.tail _ (List.Mem.head _)) | exact List.Mem.tail _ (List.Mem.tail _ (List.Mem.tail _ (List.Mem.head _))) | exact List.Mem.tail _ (List.Mem.tail _ (List.Mem.tail _ (List.Mem.tail _ (List.Mem.head _)))) | exact List.Mem.tail _ (List.Mem.tail _ (List.Mem.tail _ (List.Mem.tail _ (List.Mem.tail _ (List.Mem.head _))))) | exact List.Mem.tail _ (List.Mem.tail _ (List.Mem.tail _ (List.Mem.tail _ (List.Mem.tail _ (List.Mem.tail _ (List.Mem.head _)))))) | exact List.Mem.tail _ (List.Mem.tail _ (List.Mem.tail _ (List.Mem.tail _ (List.Mem.tail _ (List.Mem.tail _ (List.Mem.tail _ (List.Mem.head _))))))) | exact List.Mem.tail _ (List.Mem.tail _ (List.Mem.tail _ (List.Mem.tail _ (List.Mem.tail _ (List.Mem.tail _ (List.Mem.tail _ (List.Mem.tail _ (List.Mem.head _)))))))) | exact (by assumption) | exact List.Mem.tail _ ((by assumption)) | exact List.Mem.tail _ (List.Mem.tail _ ((by assumption))) | exact List.Mem.tail _ (List.Mem.tail _ (List.Mem.tail _ ((by assumption)))) | exact List.Mem.tail _ (List.Mem.tail _ (List.Mem.tail _ (List.Mem.tail _ ((by assumption))))) | exact List.Mem.tail _ (List.Mem.tail _ (List.Mem.tail _ (List.Mem.tail _ (List.Mem.tail _ ((by assumption))))))) (endsE_get l (i := i) (by omega)) (by exact fun _ => rfl) (by rfl)) hS ?_)
        refine wl_op rfl rfl (ow_vr (vr_move (v := .int .i64 (K : Int)) rfl) ?_)
        refine wl_op rfl rfl (ow_vr (vr_leq rfl rfl) ?_)
        refine wl_nil ?_
        refine hK29 _ _ ?_
        refine cw_cond rfl rfl (fun hc => ?_) (fun hc => ?_)
        · (try simp only [decide_eq_true_eq, decide_eq_false_iff_not, Bool.not_eq_true, Bool.not_eq_false, Bool.not_eq_true', Bool.not_eq_false', Bool.and_eq_true, Bool.or_eq_true, Bool.and_eq_false_iff, Bool.or_eq_false_iff, Int.not_lt, Int.not_le, gt_iff_lt, ge_iff_le, ne_eq, Decidable.not_not, beq_iff_eq] at hc)
          have hc5 := hc; clear hc
          refine cw_seq fun K30 hK30 => ?_
          rw [if_pos (by omega)] at hw he
          refine cw_region ?_
          refine wl_op rfl rfl (ow_vr (vr_move (v := v13) rfl) ?_)
          refine wl_op rfl rfl (ow_vr (vr_move (v := v) rfl) ?_)
          refine wl_op rfl rfl (ow_vr (vr_move (v := .int .i64 (i : Int)) rfl) ?_)
          first | (refine wl_op rfl rfl (ow_vr (vr_indexAddr Try.underlying32 sz_35 rfl rfl (by omega) (by omega)) ?_)) | (refine wl_op rfl rfl (ow_vr (vr_indexV (v := v) Try.underlying32 sz_35 rfl (by first | assumption | (refine Own.view ?_ (by assumption); exact fun _ => rfl)) rfl (by omega) (by first | omega | (simp <;> omega))) ?_))
          refine wl_op rfl rfl (ow_lr (S := Sat _ _) (lr_loadV1 (u := x.1) Try.underlying35 rfl rfl hv (by first | exact List.Mem.head _ | exact List.Mem.tail _ (List.Mem.head _) | exact List.Mem.tail _ (List.Mem.tail _ (List.Mem.head _)) | exact List.Mem.tail _ (List.Mem.tail _ (List.Mem.tail _ (List.Mem.head _))) | exact List.Mem.tail _ (List.Mem.tail _ (List.Mem.tail _ (List.Mem.tail _ (List.Mem.head _)))) | exact List.Mem.tail _ (List.Mem.tail _ (List.Mem.tail _ (List.Mem.tail _ (List.Mem.tail _ (List.Mem.head _))))) | exact List.Mem.tail _ (List.Mem.tail _ (List.Mem.tail _ (List.Mem.tail _ (List.Mem.tail _ (List.Mem.tail _ (List.Mem.head _)))))) | exact List.Mem.tail _ (List.Mem.tail _ (List.Mem.tail _ (List.Mem.tail _ (List.Mem.tail _ (List.Mem.tail _ (List.Mem.tail _ (List.Mem.head _))))))) | exact List.Mem.tail _ (List.Mem.tail _ (List.Mem.tail _ (List.Mem.tail _ (List.Mem.tail _ (List.Mem.tail _ (List.Mem.tail _ (List.Mem.tail _ (List.Mem.head _)))))))) | exact (by assumption) | exact List.Mem.tail _ ((by assumption)) | exact List.Mem.tail _ (List.Mem.tail _ ((by assumption))) | exact List.Mem.tail _ (List.Mem.tail _ (List.Mem.tail _ ((by assumption)))) | exact List.Mem.tail _ (List.Mem.tail _ (List.Mem.tail _ (List.Mem.tail _ ((by assumption))))) | exact List.Mem.tail _ (List.Mem.tail _ (List.Mem.tail _ (List.Mem.tail _ (List.Mem.tail _ ((by assumption))))))) (hx) (by exact fun _ => rfl) (by rfl)) hS ?_)
          refine wl_op rfl rfl (ow_append (v := v13) (u := x.1) hS Try.underlying35 Try.underlying35 if_70 rfl (by decide) rfl rfl (by assumption) (by first | assumption | (refine Own.view ?_ (by assumption); exact fun _ => rfl)) (by first | exact HasC.here | exact HasC.there (HasC.here) | exact HasC.there (HasC.there (HasC.here)) | exact HasC.there (HasC.there (HasC.there (HasC.here))) | exact HasC.there (HasC.there (HasC.there (HasC.there (HasC.here)))) | exact HasC.there (HasC.there (HasC.there (HasC.there (HasC.there (HasC.here))))) | exact HasC.there (HasC.there (HasC.there (HasC.there (HasC.there (HasC.there (HasC.here)))))) | exact HasC.there (HasC.there (HasC.there (HasC.there (HasC.there (HasC.there (HasC.there (HasC.here))))))) | exact HasC.there (HasC.there (HasC.there (HasC.there (HasC.there (HasC.there (HasC.there (HasC.there (HasC.here))))))))) (by first | exact List.Mem.head _ | exact List.Mem.tail _ (List.Mem.head _) | exact List.Mem.tail _ (List.Mem.tail _ (List.Mem.head _)) | exact List.Mem.tail _ (List.Mem.tail _ (List.Mem.tail _ (List.Mem.head _))) | exact List.Mem.tail _ (List.Mem.tail _ (List.Mem.tail _ (List.Mem.tail _ (List.Mem.head _)))) | exact List.Mem.tail _ (List.Mem.tail _ (List.Mem.tail _ (List.Mem.tail _ (List.Mem.tail _ (List.Mem.head _))))) | exact List.Mem.tail _ (List.Mem.tail _ (List.Mem.tail _ (List.Mem.tail _ (List.Mem.tail _ (List.Mem.tail _ (List.Mem.head _)))))) | exact List.Mem.tail _ (List.Mem.tail _ (List.Mem.tail _ (List.Mem.tail _ (List.Mem.tail _ (List.Mem.tail _ (List.Mem.tail _ (List.Mem.head _))))))) | exact List.Mem.tail _ (List.Mem.tail _ (List.Mem.tail _ (List.Mem.tail _ (List.Mem.tail _ (List.Mem.tail _ (List.Mem.tail _ (List.Mem.tail _ (List.Mem.head _)))))))) | exact (by assumption) | exact List.Mem.tail _ ((by assumption)) | exact List.Mem.tail _ (List.Mem.tail _ ((by assumption))) | exact List.Mem.tail _ (List.Mem.tail _ (List.Mem.tail _ ((by assumption)))) | exact List.Mem.tail _ (List.Mem.tail _ (List.Mem.tail _ (List.Mem.tail _ ((by assumption))))) | exact List.Mem.tail _ (List.Mem.tail _ (List.Mem.tail _ (List.Mem.tail _ (List.Mem.tail _ ((by assumption))))))) (by exact fun _ => rfl) (by exact fun _ => rfl) (by first | omega | (simp [maxLen] <;> omega) | (simp <;> omega)) (by first | omega | (simp [maxLen] <;> omega) | (simp <;> omega)) ?_)
          clear hS; intro v93 D93 w ho93 hS
          refine wl_op rfl rfl (ow_vr (vr_assign (v := v93) rfl) ?_)
          refine wl_nil ?_
          refine hK30 _ _ ?_
          refine cw_region ?_
          refine wl_op rfl rfl (ow_vr (vr_move (v := v6) rfl) ?_)
          refine wl_op rfl rfl (ow_vr (vr_move (v := .int .i64 (i : Int)) rfl) ?_)
          first | (refine wl_op rfl rfl (ow_vr (vr_indexAddr Try.underlying34 sz_3 rfl rfl (by omega) (by omega)) ?_)) | (refine wl_op rfl rfl (ow_vr (vr_indexV (v := v6) Try.underlying34 sz_3 rfl (by first | assumption | (refine Own.view ?_ (by assumption); exact fun _ => rfl)) rfl (by omega) (by first | omega | (simp <;> omega))) ?_))
          refine wl_op rfl rfl (ow_lr (S := Sat _ _) (lr_loadV1 (u := .int .i64 _) Try.underlying3 rfl rfl (ho6.view fun _ => rfl) (by first | exact List.Mem.head _ | exact List.Mem.tail _ (List.Mem.head _) | exact List.Mem.tail _ (List.Mem.tail _ (List.Mem.head _)) | exact List.Mem.tail _ (List.Mem.tail _ (List.Mem.tail _ (List.Mem.head _))) | exact List.Mem.tail _ (List.Mem.tail _ (List.Mem.tail _ (List.Mem.tail _ (List.Mem.head _)))) | exact List.Mem.tail _ (List.Mem.tail _ (List.Mem.tail _ (List.Mem.tail _ (List.Mem.tail _ (List.Mem.head _))))) | exact List.Mem.tail _ (List.Mem.tail _ (List.Mem.tail _ (List.Mem.tail _ (List.Mem.tail _ (List.Mem.tail _ (List.Mem.head _)))))) | exact List.Mem.tail _ (List.Mem.tail _ (List.Mem.tail _ (List.Mem.tail _ (List.Mem.tail _ (List.Mem.tail _ (List.Mem.tail _ (List.Mem.head _))))))) | exact List.Mem.tail _ (List.Mem.tail _ (List.Mem.tail _ (List.Mem.tail _ (List.Mem.tail _ (List.Mem.tail _ (List.Mem.tail _ (List.Mem.tail _ (List.Mem.head _)))))))) | exact (by assumption) | exact List.Mem.tail _ ((by assumption)) | exact List.Mem.tail _ (List.Mem.tail _ ((by assumption))) | exact List.Mem.tail _ (List.Mem.tail _ (List.Mem.tail _ ((by assumption)))) | exact List.Mem.tail _ (List.Mem.tail _ (List.Mem.tail _ (List.Mem.tail _ ((by assumption))))) | exact List.Mem.tail _ (List.Mem.tail _ (List.Mem.tail _ (List.Mem.tail _ (List.Mem.tail _ ((by assumption))))))) (endsE_get l (i := i) (by omega)) (by exact fun _ => rfl) (by rfl)) hS ?_)
          refine wl_op rfl rfl (ow_vr (vr_assign (v := .int .i64 _) rfl) ?_)
          refine wl_nil ?_
          refine hK28 _ _ ?_
          refine cw_region ?_
          refine wl_op rfl rfl (ow_vr (vr_move (v := .int .i64 (i : Int)) rfl) ?_)
          first | (refine wl_op rfl rfl (ow_vr (vr_addi rfl rfl (by unfold inI64; omega)) ?_)) | (refine wl_op rfl rfl (ow_vr (vr_add rfl rfl) ?_))
          refine wl_op rfl rfl (ow_vr (vr_assign (v := .int .i64 _) rfl) ?_)
          refine wl_nil ?_
          refine thenF_normal ⟨_, ?_, i + 1, wn ++ x.2, v93, D93, (sumL (l.take (i + 1)) : Int), _, (reb (reb (reb (reb (reb (reb (reb (reb rfl rfl) rfl) rfl) rfl) rfl) rfl) rfl) rfl), ?_, rfl, hS⟩
          · omega
          · exact ⟨by omega, ho93, by simpa using hw, he, by simp; omega⟩
        · (try simp only [decide_eq_true_eq, decide_eq_false_iff_not, Bool.not_eq_true, Bool.not_eq_false, Bool.not_eq_true', Bool.not_eq_false', Bool.and_eq_true, Bool.or_eq_true, Bool.and_eq_false_iff, Bool.or_eq_false_iff, Int.not_lt, Int.not_le, gt_iff_lt, ge_iff_le, ne_eq, Decidable.not_not, beq_iff_eq] at hc)
          have hc5 := hc; clear hc
          refine cw_skip ?_
          refine hK28 _ _ ?_
          refine cw_region ?_
          refine wl_op rfl rfl (ow_vr (vr_move (v := .int .i64 (i : Int)) rfl) ?_)
          first | (refine wl_op rfl rfl (ow_vr (vr_addi rfl rfl (by unfold inI64; omega)) ?_)) | (refine wl_op rfl rfl (ow_vr (vr_add rfl rfl) ?_))
          refine wl_op rfl rfl (ow_vr (vr_assign (v := .int .i64 _) rfl) ?_)
          refine wl_nil ?_
          refine thenF_normal ⟨_, ?_, i + 1, wn, v13, D13, e, _, (reb (reb (reb (reb (reb (reb (reb (reb rfl rfl) rfl) rfl) rfl) rfl) rfl) rfl) rfl), ?_, rfl, hS⟩
          · omega
          · rw [if_neg (by omega)] at hw he; exact ⟨by omega, ho13, by simpa using hw, he, by omega⟩
      · (try simp only [decide_eq_true_eq, decide_eq_false_iff_not, Bool.not_eq_true, Bool.not_eq_false, Bool.not_eq_true', Bool.not_eq_false', Bool.and_eq_true, Bool.or_eq_true, Bool.and_eq_false_iff, Bool.or_eq_false_iff, Int.not_lt, Int.not_le, gt_iff_lt, ge_iff_le, ne_eq, Decidable.not_not, beq_iff_eq] at hc)
        have hc4 := hc; clear hc
        refine cw_exit ?_
        refine hK24 _ _ ?_
        refine cw_seq fun K31 hK31 => ?_
        obtain rfl : i = l.length := by omega
        rw [List.drop_length, wantE, List.append_nil] at hw
        have hwk : (wantE K 0 l).length ≤ 1000000 := by rw [← hw]; omega
        rw [List.drop_length, endE] at he
        refine cw_region ?_
        refine wl_op rfl rfl (ow_vr (vr_move (v := .int .i64 (endE K 0 0 l)) rfl) ?_)
        refine wl_op rfl rfl (ow_vr (vr_move (v := .int .i64 e) rfl) ?_)
        refine wl_op rfl rfl (ow_vr (vr_eql rfl rfl) ?_)
        refine wl_op rfl rfl (ow_vr (vr_move (v := .bool _) rfl) ?_)
        refine wl_known 101 rfl (c := true) (by simp [he]) ?_
        refine wl_yes rfl rfl rfl rfl rfl (ow_vr (vr_move (v := vc) rfl) ?_)
        refine wl_yes rfl rfl rfl rfl rfl (ow_vr (vr_move (v := v13) rfl) ?_)
        refine wl_yes rfl rfl rfl rfl rfl (ow_fng (vs := [vc, v13]) en_34 rfl hS (book_SameChanges _ _ _ _ _ _ (hoc.view fun _ => rfl) (ho13.view fun _ => rfl) hwk (by omega)) (by first | exact needs1 (by first | exact List.Mem.head _ | exact List.Mem.tail _ (List.Mem.head _) | exact List.Mem.tail _ (List.Mem.tail _ (List.Mem.head _)) | exact List.Mem.tail _ (List.Mem.tail _ (List.Mem.tail _ (List.Mem.head _))) | exact List.Mem.tail _ (List.Mem.tail _ (List.Mem.tail _ (List.Mem.tail _ (List.Mem.head _)))) | exact List.Mem.tail _ (List.Mem.tail _ (List.Mem.tail _ (List.Mem.tail _ (List.Mem.tail _ (List.Mem.head _))))) | exact List.Mem.tail _ (List.Mem.tail _ (List.Mem.tail _ (List.Mem.tail _ (List.Mem.tail _ (List.Mem.tail _ (List.Mem.head _)))))) | exact List.Mem.tail _ (List.Mem.tail _ (List.Mem.tail _ (List.Mem.tail _ (List.Mem.tail _ (List.Mem.tail _ (List.Mem.tail _ (List.Mem.head _))))))) | exact List.Mem.tail _ (List.Mem.tail _ (List.Mem.tail _ (List.Mem.tail _ (List.Mem.tail _ (List.Mem.tail _ (List.Mem.tail _ (List.Mem.tail _ (List.Mem.head _)))))))) | exact (by assumption) | exact List.Mem.tail _ ((by assumption)) | exact List.Mem.tail _ (List.Mem.tail _ ((by assumption))) | exact List.Mem.tail _ (List.Mem.tail _ (List.Mem.tail _ ((by assumption)))) | exact List.Mem.tail _ (List.Mem.tail _ (List.Mem.tail _ (List.Mem.tail _ ((by assumption))))) | exact List.Mem.tail _ (List.Mem.tail _ (List.Mem.tail _ (List.Mem.tail _ (List.Mem.tail _ ((by assumption))))))) | exact needs0 | exact needs2 (by first | exact List.Mem.head _ | exact List.Mem.tail _ (List.Mem.head _) | exact List.Mem.tail _ (List.Mem.tail _ (List.Mem.head _)) | exact List.Mem.tail _ (List.Mem.tail _ (List.Mem.tail _ (List.Mem.head _))) | exact List.Mem.tail _ (List.Mem.tail _ (List.Mem.tail _ (List.Mem.tail _ (List.Mem.head _)))) | exact List.Mem.tail _ (List.Mem.tail _ (List.Mem.tail _ (List.Mem.tail _ (List.Mem.tail _ (List.Mem.head _))))) | exact List.Mem.tail _ (List.Mem.tail _ (List.Mem.tail _ (List.Mem.tail _ (List.Mem.tail _ (List.Mem.tail _ (List.Mem.head _)))))) | exact List.Mem.tail _ (List.Mem.tail _ (List.Mem.tail _ (List.Mem.tail _ (List.Mem.tail _ (List.Mem.tail _ (List.Mem.tail _ (List.Mem.head _))))))) | exact List.Mem.tail _ (List.Mem.tail _ (List.Mem.tail _ (List.Mem.tail _ (List.Mem.tail _ (List.Mem.tail _ (List.Mem.tail _ (List.Mem.tail _ (List.Mem.head _)))))))) | exact (by assumption) | exact List.Mem.tail _ ((by assumption)) | exact List.Mem.tail _ (List.Mem.tail _ ((by assumption))) | exact List.Mem.tail _ (List.Mem.tail _ (List.Mem.tail _ ((by assumption)))) | exact List.Mem.tail _ (List.Mem.tail _ (List.Mem.tail _ (List.Mem.tail _ ((by assumption))))) | exact List.Mem.tail _ (List.Mem.tail _ (List.Mem.tail _ (List.Mem.tail _ (List.Mem.tail _ ((by assumption))))))) (by first | exact List.Mem.head _ | exact List.Mem.tail _ (List.Mem.head _) | exact List.Mem.tail _ (List.Mem.tail _ (List.Mem.head _)) | exact List.Mem.tail _ (List.Mem.tail _ (List.Mem.tail _ (List.Mem.head _))) | exact List.Mem.tail _ (List.Mem.tail _ (List.Mem.tail _ (List.Mem.tail _ (List.Mem.head _)))) | exact List.Mem.tail _ (List.Mem.tail _ (List.Mem.tail _ (List.Mem.tail _ (List.Mem.tail _ (List.Mem.head _))))) | exact List.Mem.tail _ (List.Mem.tail _ (List.Mem.tail _ (List.Mem.tail _ (List.Mem.tail _ (List.Mem.tail _ (List.Mem.head _)))))) | exact List.Mem.tail _ (List.Mem.tail _ (List.Mem.tail _ (List.Mem.tail _ (List.Mem.tail _ (List.Mem.tail _ (List.Mem.tail _ (List.Mem.head _))))))) | exact List.Mem.tail _ (List.Mem.tail _ (List.Mem.tail _ (List.Mem.tail _ (List.Mem.tail _ (List.Mem.tail _ (List.Mem.tail _ (List.Mem.tail _ (List.Mem.head _)))))))) | exact (by assumption) | exact List.Mem.tail _ ((by assumption)) | exact List.Mem.tail _ (List.Mem.tail _ ((by assumption))) | exact List.Mem.tail _ (List.Mem.tail _ (List.Mem.tail _ ((by assumption)))) | exact List.Mem.tail _ (List.Mem.tail _ (List.Mem.tail _ (List.Mem.tail _ ((by assumption))))) | exact List.Mem.tail _ (List.Mem.tail _ (List.Mem.tail _ (List.Mem.tail _ (List.Mem.tail _ ((by assumption))))))) | exact needs3 (by first | exact List.Mem.head _ | exact List.Mem.tail _ (List.Mem.head _) | exact List.Mem.tail _ (List.Mem.tail _ (List.Mem.head _)) | exact List.Mem.tail _ (List.Mem.tail _ (List.Mem.tail _ (List.Mem.head _))) | exact List.Mem.tail _ (List.Mem.tail _ (List.Mem.tail _ (List.Mem.tail _ (List.Mem.head _)))) | exact List.Mem.tail _ (List.Mem.tail _ (List.Mem.tail _ (List.Mem.tail _ (List.Mem.tail _ (List.Mem.head _))))) | exact List.Mem.tail _ (List.Mem.tail _ (List.Mem.tail _ (List.Mem.tail _ (List.Mem.tail _ (List.Mem.tail _ (List.Mem.head _)))))) | exact List.Mem.tail _ (List.Mem.tail _ (List.Mem.tail _ (List.Mem.tail _ (List.Mem.tail _ (List.Mem.tail _ (List.Mem.tail _ (List.Mem.head _))))))) | exact List.Mem.tail _ (List.Mem.tail _ (List.Mem.tail _ (List.Mem.tail _ (List.Mem.tail _ (List.Mem.tail _ (List.Mem.tail _ (List.Mem.tail _ (List.Mem.head _)))))))) | exact (by assumption) | exact List.Mem.tail _ ((by assumption)) | exact List.Mem.tail _ (List.Mem.tail _ ((by assumption))) | exact List.Mem.tail _ (List.Mem.tail _ (List.Mem.tail _ ((by assumption)))) | exact List.Mem.tail _ (List.Mem.tail _ (List.Mem.tail _ (List.Mem.tail _ ((by assumption))))) | exact List.Mem.tail _ (List.Mem.tail _ (List.Mem.tail _ (List.Mem.tail _ (List.Mem.tail _ ((by assumption))))))) (by first | exact List.Mem.head _ | exact List.Mem.tail _ (List.Mem.head _) | exact List.Mem.tail _ (List.Mem.tail _ (List.Mem.head _)) | exact List.Mem.tail _ (List.Mem.tail _ (List.Mem.tail _ (List.Mem.head _))) | exact List.Mem.tail _ (List.Mem.tail _ (List.Mem.tail _ (List.Mem.tail _ (List.Mem.head _)))) | exact List.Mem.tail _ (List.Mem.tail _ (List.Mem.tail _ (List.Mem.tail _ (List.Mem.tail _ (List.Mem.head _))))) | exact List.Mem.tail _ (List.Mem.tail _ (List.Mem.tail _ (List.Mem.tail _ (List.Mem.tail _ (List.Mem.tail _ (List.Mem.head _)))))) | exact List.Mem.tail _ (List.Mem.tail _ (List.Mem.tail _ (List.Mem.tail _ (List.Mem.tail _ (List.Mem.tail _ (List.Mem.tail _ (List.Mem.head _))))))) | exact List.Mem.tail _ (List.Mem.tail _ (List.Mem.tail _ (List.Mem.tail _ (List.Mem.tail _ (List.Mem.tail _ (List.Mem.tail _ (List.Mem.tail _ (List.Mem.head _)))))))) | exact (by assumption) | exact List.Mem.tail _ ((by assumption)) | exact List.Mem.tail _ (List.Mem.tail _ ((by assumption))) | exact List.Mem.tail _ (List.Mem.tail _ (List.Mem.tail _ ((by assumption)))) | exact List.Mem.tail _ (List.Mem.tail _ (List.Mem.tail _ (List.Mem.tail _ ((by assumption))))) | exact List.Mem.tail _ (List.Mem.tail _ (List.Mem.tail _ (List.Mem.tail _ (List.Mem.tail _ ((by assumption))))))) (by first | exact List.Mem.head _ | exact List.Mem.tail _ (List.Mem.head _) | exact List.Mem.tail _ (List.Mem.tail _ (List.Mem.head _)) | exact List.Mem.tail _ (List.Mem.tail _ (List.Mem.tail _ (List.Mem.head _))) | exact List.Mem.tail _ (List.Mem.tail _ (List.Mem.tail _ (List.Mem.tail _ (List.Mem.head _)))) | exact List.Mem.tail _ (List.Mem.tail _ (List.Mem.tail _ (List.Mem.tail _ (List.Mem.tail _ (List.Mem.head _))))) | exact List.Mem.tail _ (List.Mem.tail _ (List.Mem.tail _ (List.Mem.tail _ (List.Mem.tail _ (List.Mem.tail _ (List.Mem.head _)))))) | exact List.Mem.tail _ (List.Mem.tail _ (List.Mem.tail _ (List.Mem.tail _ (List.Mem.tail _ (List.Mem.tail _ (List.Mem.tail _ (List.Mem.head _))))))) | exact List.Mem.tail _ (List.Mem.tail _ (List.Mem.tail _ (List.Mem.tail _ (List.Mem.tail _ (List.Mem.tail _ (List.Mem.tail _ (List.Mem.tail _ (List.Mem.head _)))))))) | exact (by assumption) | exact List.Mem.tail _ ((by assumption)) | exact List.Mem.tail _ (List.Mem.tail _ ((by assumption))) | exact List.Mem.tail _ (List.Mem.tail _ (List.Mem.tail _ ((by assumption)))) | exact List.Mem.tail _ (List.Mem.tail _ (List.Mem.tail _ (List.Mem.tail _ ((by assumption))))) | exact List.Mem.tail _ (List.Mem.tail _ (List.Mem.tail _ (List.Mem.tail _ (List.Mem.tail _ ((by assumption)))))))) ?_)
        clear hS; rintro _ _ w ⟨rfl, rfl⟩ hS; (try simp only [List.cons_append, List.nil_append] at hS)
        refine wl_op rfl rfl (ow_vr (vr_pick (b := true) rfl rfl) ?_)
        refine wl_op rfl rfl (ow_vr (vr_assign (v := .bool _) rfl) ?_)
        refine wl_nil ?_
        refine hK31 _ _ ?_
        refine cw_ret ?_
        refine ret_one (fn := Try.f6) (n := 106) (t := 4) (.inl rfl) rfl rfl ?_
        exact ⟨[], ⟨congrArg Value.bool (by first | rfl | simp [hw]), rfl⟩, (by first | exact hS | exact hS.tail1.tail1 | exact hS.tail1.tail1.tail1 | exact hS.tail1.tail1.tail1.tail1)⟩
end Go.Proofs.Ytfekgjdahckdhaa
