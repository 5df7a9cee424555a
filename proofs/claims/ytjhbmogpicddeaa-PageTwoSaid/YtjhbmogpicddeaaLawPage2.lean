/- PageTwo. -/
import Derived.Test.YtjhbmogpicddeaaLawPage
namespace Go.Proofs.Ytjhbmogpicddeaa
open Go Go.RowKit
set_option linter.unusedVariables false
set_option linter.unusedSimpArgs false
attribute [local irreducible] actF WL CW OW PL SW VR LR yes Returns Fn
theorem pages_three (s t : List UInt8) : pagesB s = pagesB t ↔ chunkB s 0 = chunkB t 0 ∧ chunkB s 1 = chunkB t 1 ∧ chunkB s 2 = chunkB t 2 := by
  have e : ∀ s, pagesB s = [chunkB s 0, chunkB s 1, chunkB s 2] := fun _ => rfl
  rw [e, e]; simp
theorem at_pages {no v m w : Int} {a : List Int} (h : okPg no v a = true) : atOk m w (pagesB (allP no v a)) = decide (no = m ∧ v = w) := by
  obtain ⟨h1, h2, h3⟩ := read_all h
  rw [atOk, getP_pages h, pages_flat (all_length h), h1, h2]
  simp [Bool.decide_and]
set_option maxHeartbeats 1000000 in
theorem page_two (no v n2 v2 : Int) (la lb : List Int) (va vb : Value) (Δa Δb : Chunk) (hva : View 1 encI va la Δa) (hvb : View 1 encI vb lb Δb) (hna : la.length ≤ maxLen) (hnb : lb.length ≤ maxLen) :
    FnG Try.prog 9 [.int .i64 no, .int .i64 v, .int .i64 n2, .int .i64 v2, va, vb] [Δa, Δb] (fun u Δs => u = .bool true ∧ Δs = []) := by
  refine FnG.mk fun E F w_ hS hF => ?_
  have hFa : Δa ∈ F := hF _ (by simp)
  have hFb : Δb ∈ F := hF _ (by simp)
  obtain ⟨a, ha⟩ : ∃ a, sixteenL la = a := ⟨_, rfl⟩
  obtain ⟨b, hb⟩ : ∃ b, sixteenL lb = b := ⟨_, rfl⟩
  have hal : a.length = 16 := by rw [← ha]; exact sixteen_length la
  have hbl : b.length = 16 := by rw [← hb]; exact sixteen_length lb
  have hsA := law_Sixteen la va Δa hva hna
  have hsB := law_Sixteen lb vb Δb hvb hnb
  rw [ha] at hsA
  rw [hb] at hsB
  refine returns_enter Try.func9 rfl Try.ntmps9 rfl ?_
  refine cw_seq fun K1 hK1 => ?_
  refine cw_region ?_
  refine wl_op rfl rfl (ow_vr (vr_assign (v := .bool false) rfl) ?_)
  refine wl_nil ?_
  refine hK1 _ _ ?_
  refine cw_seq fun K2 hK2 => ?_
  refine cw_region ?_
  refine wl_op rfl rfl (ow_vr (vr_move (v := va) rfl) ?_)
  refine wl_op rfl rfl (ow_fng (vs := [va]) en_43 rfl hS (hsA) (by first | exact needs1 (by first | exact List.Mem.head _ | exact List.Mem.tail _ (List.Mem.head _) | exact List.Mem.tail _ (List.Mem.tail _ (List.Mem.head _)) | exact List.Mem.tail _ (List.Mem.tail _ (List.Mem.tail _ (List.Mem.head _))) | exact List.Mem.tail _ (List.Mem.tail _ (List.Mem.tail _ (List.Mem.tail _ (List.Mem.head _)))) | exact List.Mem.tail _ (List.Mem.tail _ (List.Mem.tail _ (List.Mem.tail _ (List.Mem.tail _ (List.Mem.head _))))) | exact List.Mem.tail _ (List.Mem.tail _ (List.Mem.tail _ (List.Mem.tail _ (List.Mem.tail _ (List.Mem.tail _ (List.Mem.head _)))))) | exact List.Mem.tail _ (List.Mem.tail _ (List.Mem.tail _ (List.Mem.tail _ (List.Mem.tail _ (List.Mem.tail _ (List.Mem.tail _ (List.Mem.head _))))))) | exact List.Mem.tail _ (List.Mem.tail _ (List.Mem.tail _ (List.Mem.tail _ (List.Mem.tail _ (List.Mem.tail _ (List.Mem.tail _ (List.Mem.tail _ (List.Mem.head _)))))))) | exact (by assumption) | exact List.Mem.tail _ ((by assumption)) | exact List.Mem.tail _ (List.Mem.tail _ ((by assumption))) | exact List.Mem.tail _ (List.Mem.tail _ (List.Mem.tail _ ((by assumption)))) | exact List.Mem.tail _ (List.Mem.tail _ (List.Mem.tail _ (List.Mem.tail _ ((by assumption))))) | exact List.Mem.tail _ (List.Mem.tail _ (List.Mem.tail _ (List.Mem.tail _ (List.Mem.tail _ ((by assumption))))))) | exact needs0 | exact needs2 (by first | exact List.Mem.head _ | exact List.Mem.tail _ (List.Mem.head _) | exact List.Mem.tail _ (List.Mem.tail _ (List.Mem.head _)) | exact List.Mem.tail _ (List.Mem.tail _ (List.Mem.tail _ (List.Mem.head _))) | exact List.Mem.tail _ (List.Mem.tail _ (List.Mem.tail _ (List.Mem.tail _ (List.Mem.head _)))) | exact List.Mem.tail _ (List.Mem.tail _ (List.Mem.tail _ (List.Mem.tail _ (List.Mem.tail _ (List.Mem.head _))))) | exact List.Mem.tail _ (List.Mem.tail _ (List.Mem.tail _ (List.Mem.tail _ (List.Mem.tail _ (List.Mem.tail _ (List.Mem.head _)))))) | exact List.Mem.tail _ (List.Mem.tail _ (List.Mem.tail _ (List.Mem.tail _ (List.Mem.tail _ (List.Mem.tail _ (List.Mem.tail _ (List.Mem.head _))))))) | exact List.Mem.tail _ (List.Mem.tail _ (List.Mem.tail _ (List.Mem.tail _ (List.Mem.tail _ (List.Mem.tail _ (List.Mem.tail _ (List.Mem.tail _ (List.Mem.head _)))))))) | exact (by assumption) | exact List.Mem.tail _ ((by assumption)) | exact List.Mem.tail _ (List.Mem.tail _ ((by assumption))) | exact List.Mem.tail _ (List.Mem.tail _ (List.Mem.tail _ ((by assumption)))) | exact List.Mem.tail _ (List.Mem.tail _ (List.Mem.tail _ (List.Mem.tail _ ((by assumption))))) | exact List.Mem.tail _ (List.Mem.tail _ (List.Mem.tail _ (List.Mem.tail _ (List.Mem.tail _ ((by assumption))))))) (by first | exact List.Mem.head _ | exact List.Mem.tail _ (List.Mem.head _) | exact List.Mem.tail _ (List.Mem.tail _ (List.Mem.head _)) | exact List.Mem.tail _ (List.Mem.tail _ (List.Mem.tail _ (List.Mem.head _))) | exact List.Mem.tail _ (List.Mem.tail _ (List.Mem.tail _ (List.Mem.tail _ (List.Mem.head _)))) | exact List.Mem.tail _ (List.Mem.tail _ (List.Mem.tail _ (List.Mem.tail _ (List.Mem.tail _ (List.Mem.head _))))) | exact List.Mem.tail _ (List.Mem.tail _ (List.Mem.tail _ (List.Mem.tail _ (List.Mem.tail _ (List.Mem.tail _ (List.Mem.head _)))))) | exact List.Mem.tail _ (List.Mem.tail _ (List.Mem.tail _ (List.Mem.tail _ (List.Mem.tail _ (List.Mem.tail _ (List.Mem.tail _ (List.Mem.head _))))))) | exact List.Mem.tail _ (List.Mem.tail _ (List.Mem.tail _ (List.Mem.tail _ (List.Mem.tail _ (List.Mem.tail _ (List.Mem.tail _ (List.Mem.tail _ (List.Mem.head _)))))))) | exact (by assumption) | exact List.Mem.tail _ ((by assumption)) | exact List.Mem.tail _ (List.Mem.tail _ ((by assumption))) | exact List.Mem.tail _ (List.Mem.tail _ (List.Mem.tail _ ((by assumption)))) | exact List.Mem.tail _ (List.Mem.tail _ (List.Mem.tail _ (List.Mem.tail _ ((by assumption))))) | exact List.Mem.tail _ (List.Mem.tail _ (List.Mem.tail _ (List.Mem.tail _ (List.Mem.tail _ ((by assumption))))))) | exact needs3 (by first | exact List.Mem.head _ | exact List.Mem.tail _ (List.Mem.head _) | exact List.Mem.tail _ (List.Mem.tail _ (List.Mem.head _)) | exact List.Mem.tail _ (List.Mem.tail _ (List.Mem.tail _ (List.Mem.head _))) | exact List.Mem.tail _ (List.Mem.tail _ (List.Mem.tail _ (List.Mem.tail _ (List.Mem.head _)))) | exact List.Mem.tail _ (List.Mem.tail _ (List.Mem.tail _ (List.Mem.tail _ (List.Mem.tail _ (List.Mem.head _))))) | exact List.Mem.tail _ (List.Mem.tail _ (List.Mem.tail _ (List.Mem.tail _ (List.Mem.tail _ (List.Mem.tail _ (List.Mem.head _)))))) | exact List.Mem.tail _ (List.Mem.tail _ (List.Mem.tail _ (List.Mem.tail _ (List.Mem.tail _ (List.Mem.tail _ (List.Mem.tail _ (List.Mem.head _))))))) | exact List.Mem.tail _ (List.Mem.tail _ (List.Mem.tail _ (List.Mem.tail _ (List.Mem.tail _ (List.Mem.tail _ (List.Mem.tail _ (List.Mem.tail _ (List.Mem.head _)))))))) | exact (by assumption) | exact List.Mem.tail _ ((by assumption)) | exact List.Mem.tail _ (List.Mem.tail _ ((by assumption))) | exact List.Mem.tail _ (List.Mem.tail _ (List.Mem.tail _ ((by assumption)))) | exact List.Mem.tail _ (List.Mem.tail _ (List.Mem.tail _ (List.Mem.tail _ ((by assumption))))) | exact List.Mem.tail _ (List.Mem.tail _ (List.Mem.tail _ (List.Mem.tail _ (List.Mem.tail _ ((by assumption))))))) (by first | exact List.Mem.head _ | exact List.Mem.tail _ (List.Mem.head _) | exact List.Mem.tail _ (List.Mem.tail _ (List.Mem.head _)) | exact List.Mem.tail _ (List.Mem.tail _ (List.Mem.tail _ (List.Mem.head _))) | exact List.Mem.tail _ (List.Mem.tail _ (List.Mem.tail _ (List.Mem.tail _ (List.Mem.head _)))) | exact List.Mem.tail _ (List.Mem.tail _ (List.Mem.tail _ (List.Mem.tail _ (List.Mem.tail _ (List.Mem.head _))))) | exact List.Mem.tail _ (List.Mem.tail _ (List.Mem.tail _ (List.Mem.tail _ (List.Mem.tail _ (List.Mem.tail _ (List.Mem.head _)))))) | exact List.Mem.tail _ (List.Mem.tail _ (List.Mem.tail _ (List.Mem.tail _ (List.Mem.tail _ (List.Mem.tail _ (List.Mem.tail _ (List.Mem.head _))))))) | exact List.Mem.tail _ (List.Mem.tail _ (List.Mem.tail _ (List.Mem.tail _ (List.Mem.tail _ (List.Mem.tail _ (List.Mem.tail _ (List.Mem.tail _ (List.Mem.head _)))))))) | exact (by assumption) | exact List.Mem.tail _ ((by assumption)) | exact List.Mem.tail _ (List.Mem.tail _ ((by assumption))) | exact List.Mem.tail _ (List.Mem.tail _ (List.Mem.tail _ ((by assumption)))) | exact List.Mem.tail _ (List.Mem.tail _ (List.Mem.tail _ (List.Mem.tail _ ((by assumption))))) | exact List.Mem.tail _ (List.Mem.tail _ (List.Mem.tail _ (List.Mem.tail _ (List.Mem.tail _ ((by assumption))))))) (by first | exact List.Mem.head _ | exact List.Mem.tail _ (List.Mem.head _) | exact List.Mem.tail _ (List.Mem.tail _ (List.Mem.head _)) | exact List.Mem.tail _ (List.Mem.tail _ (List.Mem.tail _ (List.Mem.head _))) | exact List.Mem.tail _ (List.Mem.tail _ (List.Mem.tail _ (List.Mem.tail _ (List.Mem.head _)))) | exact List.Mem.tail _ (List.Mem.tail _ (List.Mem.tail _ (List.Mem.tail _ (List.Mem.tail _ (List.Mem.head _))))) | exact List.Mem.tail _ (List.Mem.tail _ (List.Mem.tail _ (List.Mem.tail _ (List.Mem.tail _ (List.Mem.tail _ (List.Mem.head _)))))) | exact List.Mem.tail _ (List.Mem.tail _ (List.Mem.tail _ (List.Mem.tail _ (List.Mem.tail _ (List.Mem.tail _ (List.Mem.tail _ (List.Mem.head _))))))) | exact List.Mem.tail _ (List.Mem.tail _ (List.Mem.tail _ (List.Mem.tail _ (List.Mem.tail _ (List.Mem.tail _ (List.Mem.tail _ (List.Mem.tail _ (List.Mem.head _)))))))) | exact (by assumption) | exact List.Mem.tail _ ((by assumption)) | exact List.Mem.tail _ (List.Mem.tail _ ((by assumption))) | exact List.Mem.tail _ (List.Mem.tail _ (List.Mem.tail _ ((by assumption)))) | exact List.Mem.tail _ (List.Mem.tail _ (List.Mem.tail _ (List.Mem.tail _ ((by assumption))))) | exact List.Mem.tail _ (List.Mem.tail _ (List.Mem.tail _ (List.Mem.tail _ (List.Mem.tail _ ((by assumption)))))))) ?_)
  clear hS; rintro v23 _ w ⟨DA, rfl, hoA⟩ hS; (try simp only [List.cons_append, List.nil_append] at hS)
  refine wl_op rfl rfl (ow_vr (vr_move (v := vb) rfl) ?_)
  refine wl_op rfl rfl (ow_fng (vs := [vb]) en_43 rfl hS (hsB) (by first | exact needs1 (by first | exact List.Mem.head _ | exact List.Mem.tail _ (List.Mem.head _) | exact List.Mem.tail _ (List.Mem.tail _ (List.Mem.head _)) | exact List.Mem.tail _ (List.Mem.tail _ (List.Mem.tail _ (List.Mem.head _))) | exact List.Mem.tail _ (List.Mem.tail _ (List.Mem.tail _ (List.Mem.tail _ (List.Mem.head _)))) | exact List.Mem.tail _ (List.Mem.tail _ (List.Mem.tail _ (List.Mem.tail _ (List.Mem.tail _ (List.Mem.head _))))) | exact List.Mem.tail _ (List.Mem.tail _ (List.Mem.tail _ (List.Mem.tail _ (List.Mem.tail _ (List.Mem.tail _ (List.Mem.head _)))))) | exact List.Mem.tail _ (List.Mem.tail _ (List.Mem.tail _ (List.Mem.tail _ (List.Mem.tail _ (List.Mem.tail _ (List.Mem.tail _ (List.Mem.head _))))))) | exact List.Mem.tail _ (List.Mem.tail _ (List.Mem.tail _ (List.Mem.tail _ (List.Mem.tail _ (List.Mem.tail _ (List.Mem.tail _ (List.Mem.tail _ (List.Mem.head _)))))))) | exact (by assumption) | exact List.Mem.tail _ ((by assumption)) | exact List.Mem.tail _ (List.Mem.tail _ ((by assumption))) | exact List.Mem.tail _ (List.Mem.tail _ (List.Mem.tail _ ((by assumption)))) | exact List.Mem.tail _ (List.Mem.tail _ (List.Mem.tail _ (List.Mem.tail _ ((by assumption))))) | exact List.Mem.tail _ (List.Mem.tail _ (List.Mem.tail _ (List.Mem.tail _ (List.Mem.tail _ ((by assumption))))))) | exact needs0 | exact needs2 (by first | exact List.Mem.head _ | exact List.Mem.tail _ (List.Mem.head _) | exact List.Mem.tail _ (List.Mem.tail _ (List.Mem.head _)) | exact List.Mem.tail _ (List.Mem.tail _ (List.Mem.tail _ (List.Mem.head _))) | exact List.Mem.tail _ (List.Mem.tail _ (List.Mem.tail _ (List.Mem.tail _ (List.Mem.head _)))) | exact List.Mem.tail _ (List.Mem.tail _ (List.Mem.tail _ (List.Mem.tail _ (List.Mem.tail _ (List.Mem.head _))))) | exact List.Mem.tail _ (List.Mem.tail _ (List.Mem.tail _ (List.Mem.tail _ (List.Mem.tail _ (List.Mem.tail _ (List.Mem.head _)))))) | exact List.Mem.tail _ (List.Mem.tail _ (List.Mem.tail _ (List.Mem.tail _ (List.Mem.tail _ (List.Mem.tail _ (List.Mem.tail _ (List.Mem.head _))))))) | exact List.Mem.tail _ (List.Mem.tail _ (List.Mem.tail _ (List.Mem.tail _ (List.Mem.tail _ (List.Mem.tail _ (List.Mem.tail _ (List.Mem.tail _ (List.Mem.head _)))))))) | exact (by assumption) | exact List.Mem.tail _ ((by assumption)) | exact List.Mem.tail _ (List.Mem.tail _ ((by assumption))) | exact List.Mem.tail _ (List.Mem.tail _ (List.Mem.tail _ ((by assumption)))) | exact List.Mem.tail _ (List.Mem.tail _ (List.Mem.tail _ (List.Mem.tail _ ((by assumption))))) | exact List.Mem.tail _ (List.Mem.tail _ (List.Mem.tail _ (List.Mem.tail _ (List.Mem.tail _ ((by assumption))))))) (by first | exact List.Mem.head _ | exact List.Mem.tail _ (List.Mem.head _) | exact List.Mem.tail _ (List.Mem.tail _ (List.Mem.head _)) | exact List.Mem.tail _ (List.Mem.tail _ (List.Mem.tail _ (List.Mem.head _))) | exact List.Mem.tail _ (List.Mem.tail _ (List.Mem.tail _ (List.Mem.tail _ (List.Mem.head _)))) | exact List.Mem.tail _ (List.Mem.tail _ (List.Mem.tail _ (List.Mem.tail _ (List.Mem.tail _ (List.Mem.head _))))) | exact List.Mem.tail _ (List.Mem.tail _ (List.Mem.tail _ (List.Mem.tail _ (List.Mem.tail _ (List.Mem.tail _ (List.Mem.head _)))))) | exact List.Mem.tail _ (List.Mem.tail _ (List.Mem.tail _ (List.Mem.tail _ (List.Mem.tail _ (List.Mem.tail _ (List.Mem.tail _ (List.Mem.head _))))))) | exact List.Mem.tail _ (List.Mem.tail _ (List.Mem.tail _ (List.Mem.tail _ (List.Mem.tail _ (List.Mem.tail _ (List.Mem.tail _ (List.Mem.tail _ (List.Mem.head _)))))))) | exact (by assumption) | exact List.Mem.tail _ ((by assumption)) | exact List.Mem.tail _ (List.Mem.tail _ ((by assumption))) | exact List.Mem.tail _ (List.Mem.tail _ (List.Mem.tail _ ((by assumption)))) | exact List.Mem.tail _ (List.Mem.tail _ (List.Mem.tail _ (List.Mem.tail _ ((by assumption))))) | exact List.Mem.tail _ (List.Mem.tail _ (List.Mem.tail _ (List.Mem.tail _ (List.Mem.tail _ ((by assumption))))))) | exact needs3 (by first | exact List.Mem.head _ | exact List.Mem.tail _ (List.Mem.head _) | exact List.Mem.tail _ (List.Mem.tail _ (List.Mem.head _)) | exact List.Mem.tail _ (List.Mem.tail _ (List.Mem.tail _ (List.Mem.head _))) | exact List.Mem.tail _ (List.Mem.tail _ (List.Mem.tail _ (List.Mem.tail _ (List.Mem.head _)))) | exact List.Mem.tail _ (List.Mem.tail _ (List.Mem.tail _ (List.Mem.tail _ (List.Mem.tail _ (List.Mem.head _))))) | exact List.Mem.tail _ (List.Mem.tail _ (List.Mem.tail _ (List.Mem.tail _ (List.Mem.tail _ (List.Mem.tail _ (List.Mem.head _)))))) | exact List.Mem.tail _ (List.Mem.tail _ (List.Mem.tail _ (List.Mem.tail _ (List.Mem.tail _ (List.Mem.tail _ (List.Mem.tail _ (List.Mem.head _))))))) | exact List.Mem.tail _ (List.Mem.tail _ (List.Mem.tail _ (List.Mem.tail _ (List.Mem.tail _ (List.Mem.tail _ (List.Mem.tail _ (List.Mem.tail _ (List.Mem.head _)))))))) | exact (by assumption) | exact List.Mem.tail _ ((by assumption)) | exact List.Mem.tail _ (List.Mem.tail _ ((by assumption))) | exact List.Mem.tail _ (List.Mem.tail _ (List.Mem.tail _ ((by assumption)))) | exact List.Mem.tail _ (List.Mem.tail _ (List.Mem.tail _ (List.Mem.tail _ ((by assumption))))) | exact List.Mem.tail _ (List.Mem.tail _ (List.Mem.tail _ (List.Mem.tail _ (List.Mem.tail _ ((by assumption))))))) (by first | exact List.Mem.head _ | exact List.Mem.tail _ (List.Mem.head _) | exact List.Mem.tail _ (List.Mem.tail _ (List.Mem.head _)) | exact List.Mem.tail _ (List.Mem.tail _ (List.Mem.tail _ (List.Mem.head _))) | exact List.Mem.tail _ (List.Mem.tail _ (List.Mem.tail _ (List.Mem.tail _ (List.Mem.head _)))) | exact List.Mem.tail _ (List.Mem.tail _ (List.Mem.tail _ (List.Mem.tail _ (List.Mem.tail _ (List.Mem.head _))))) | exact List.Mem.tail _ (List.Mem.tail _ (List.Mem.tail _ (List.Mem.tail _ (List.Mem.tail _ (List.Mem.tail _ (List.Mem.head _)))))) | exact List.Mem.tail _ (List.Mem.tail _ (List.Mem.tail _ (List.Mem.tail _ (List.Mem.tail _ (List.Mem.tail _ (List.Mem.tail _ (List.Mem.head _))))))) | exact List.Mem.tail _ (List.Mem.tail _ (List.Mem.tail _ (List.Mem.tail _ (List.Mem.tail _ (List.Mem.tail _ (List.Mem.tail _ (List.Mem.tail _ (List.Mem.head _)))))))) | exact (by assumption) | exact List.Mem.tail _ ((by assumption)) | exact List.Mem.tail _ (List.Mem.tail _ ((by assumption))) | exact List.Mem.tail _ (List.Mem.tail _ (List.Mem.tail _ ((by assumption)))) | exact List.Mem.tail _ (List.Mem.tail _ (List.Mem.tail _ (List.Mem.tail _ ((by assumption))))) | exact List.Mem.tail _ (List.Mem.tail _ (List.Mem.tail _ (List.Mem.tail _ (List.Mem.tail _ ((by assumption))))))) (by first | exact List.Mem.head _ | exact List.Mem.tail _ (List.Mem.head _) | exact List.Mem.tail _ (List.Mem.tail _ (List.Mem.head _)) | exact List.Mem.tail _ (List.Mem.tail _ (List.Mem.tail _ (List.Mem.head _))) | exact List.Mem.tail _ (List.Mem.tail _ (List.Mem.tail _ (List.Mem.tail _ (List.Mem.head _)))) | exact List.Mem.tail _ (List.Mem.tail _ (List.Mem.tail _ (List.Mem.tail _ (List.Mem.tail _ (List.Mem.head _))))) | exact List.Mem.tail _ (List.Mem.tail _ (List.Mem.tail _ (List.Mem.tail _ (List.Mem.tail _ (List.Mem.tail _ (List.Mem.head _)))))) | exact List.Mem.tail _ (List.Mem.tail _ (List.Mem.tail _ (List.Mem.tail _ (List.Mem.tail _ (List.Mem.tail _ (List.Mem.tail _ (List.Mem.head _))))))) | exact List.Mem.tail _ (List.Mem.tail _ (List.Mem.tail _ (List.Mem.tail _ (List.Mem.tail _ (List.Mem.tail _ (List.Mem.tail _ (List.Mem.tail _ (List.Mem.head _)))))))) | exact (by assumption) | exact List.Mem.tail _ ((by assumption)) | exact List.Mem.tail _ (List.Mem.tail _ ((by assumption))) | exact List.Mem.tail _ (List.Mem.tail _ (List.Mem.tail _ ((by assumption)))) | exact List.Mem.tail _ (List.Mem.tail _ (List.Mem.tail _ (List.Mem.tail _ ((by assumption))))) | exact List.Mem.tail _ (List.Mem.tail _ (List.Mem.tail _ (List.Mem.tail _ (List.Mem.tail _ ((by assumption)))))))) ?_)
  clear hS; rintro v25 _ w ⟨DB, rfl, hoB⟩ hS; (try simp only [List.cons_append, List.nil_append] at hS)
  refine wl_op rfl rfl (ow_vr (vr_assign (v := v23) rfl) ?_)
  refine wl_op rfl rfl (ow_vr (vr_assign (v := v25) rfl) ?_)
  refine wl_nil ?_
  refine hK2 _ _ ?_
  refine cw_seq fun K3 hK3 => ?_
  refine cw_region ?_
  refine wl_op rfl rfl (ow_vr (vr_move (v := .int .i64 _) rfl) ?_)
  refine wl_op rfl rfl (ow_vr (vr_move (v := .int .i64 _) rfl) ?_)
  refine wl_op rfl rfl (ow_vr (vr_move (v := v23) rfl) ?_)
  refine wl_op rfl rfl (ow_fng (vs := [.int .i64 _, .int .i64 _, v23]) en_45 rfl hS (page_Put no v a _ _ (Own.view (by exact fun _ => rfl) hoA)) (by first | exact needs1 (by first | exact List.Mem.head _ | exact List.Mem.tail _ (List.Mem.head _) | exact List.Mem.tail _ (List.Mem.tail _ (List.Mem.head _)) | exact List.Mem.tail _ (List.Mem.tail _ (List.Mem.tail _ (List.Mem.head _))) | exact List.Mem.tail _ (List.Mem.tail _ (List.Mem.tail _ (List.Mem.tail _ (List.Mem.head _)))) | exact List.Mem.tail _ (List.Mem.tail _ (List.Mem.tail _ (List.Mem.tail _ (List.Mem.tail _ (List.Mem.head _))))) | exact List.Mem.tail _ (List.Mem.tail _ (List.Mem.tail _ (List.Mem.tail _ (List.Mem.tail _ (List.Mem.tail _ (List.Mem.head _)))))) | exact List.Mem.tail _ (List.Mem.tail _ (List.Mem.tail _ (List.Mem.tail _ (List.Mem.tail _ (List.Mem.tail _ (List.Mem.tail _ (List.Mem.head _))))))) | exact List.Mem.tail _ (List.Mem.tail _ (List.Mem.tail _ (List.Mem.tail _ (List.Mem.tail _ (List.Mem.tail _ (List.Mem.tail _ (List.Mem.tail _ (List.Mem.head _)))))))) | exact (by assumption) | exact List.Mem.tail _ ((by assumption)) | exact List.Mem.tail _ (List.Mem.tail _ ((by assumption))) | exact List.Mem.tail _ (List.Mem.tail _ (List.Mem.tail _ ((by assumption)))) | exact List.Mem.tail _ (List.Mem.tail _ (List.Mem.tail _ (List.Mem.tail _ ((by assumption))))) | exact List.Mem.tail _ (List.Mem.tail _ (List.Mem.tail _ (List.Mem.tail _ (List.Mem.tail _ ((by assumption))))))) | exact needs0 | exact needs2 (by first | exact List.Mem.head _ | exact List.Mem.tail _ (List.Mem.head _) | exact List.Mem.tail _ (List.Mem.tail _ (List.Mem.head _)) | exact List.Mem.tail _ (List.Mem.tail _ (List.Mem.tail _ (List.Mem.head _))) | exact List.Mem.tail _ (List.Mem.tail _ (List.Mem.tail _ (List.Mem.tail _ (List.Mem.head _)))) | exact List.Mem.tail _ (List.Mem.tail _ (List.Mem.tail _ (List.Mem.tail _ (List.Mem.tail _ (List.Mem.head _))))) | exact List.Mem.tail _ (List.Mem.tail _ (List.Mem.tail _ (List.Mem.tail _ (List.Mem.tail _ (List.Mem.tail _ (List.Mem.head _)))))) | exact List.Mem.tail _ (List.Mem.tail _ (List.Mem.tail _ (List.Mem.tail _ (List.Mem.tail _ (List.Mem.tail _ (List.Mem.tail _ (List.Mem.head _))))))) | exact List.Mem.tail _ (List.Mem.tail _ (List.Mem.tail _ (List.Mem.tail _ (List.Mem.tail _ (List.Mem.tail _ (List.Mem.tail _ (List.Mem.tail _ (List.Mem.head _)))))))) | exact (by assumption) | exact List.Mem.tail _ ((by assumption)) | exact List.Mem.tail _ (List.Mem.tail _ ((by assumption))) | exact List.Mem.tail _ (List.Mem.tail _ (List.Mem.tail _ ((by assumption)))) | exact List.Mem.tail _ (List.Mem.tail _ (List.Mem.tail _ (List.Mem.tail _ ((by assumption))))) | exact List.Mem.tail _ (List.Mem.tail _ (List.Mem.tail _ (List.Mem.tail _ (List.Mem.tail _ ((by assumption))))))) (by first | exact List.Mem.head _ | exact List.Mem.tail _ (List.Mem.head _) | exact List.Mem.tail _ (List.Mem.tail _ (List.Mem.head _)) | exact List.Mem.tail _ (List.Mem.tail _ (List.Mem.tail _ (List.Mem.head _))) | exact List.Mem.tail _ (List.Mem.tail _ (List.Mem.tail _ (List.Mem.tail _ (List.Mem.head _)))) | exact List.Mem.tail _ (List.Mem.tail _ (List.Mem.tail _ (List.Mem.tail _ (List.Mem.tail _ (List.Mem.head _))))) | exact List.Mem.tail _ (List.Mem.tail _ (List.Mem.tail _ (List.Mem.tail _ (List.Mem.tail _ (List.Mem.tail _ (List.Mem.head _)))))) | exact List.Mem.tail _ (List.Mem.tail _ (List.Mem.tail _ (List.Mem.tail _ (List.Mem.tail _ (List.Mem.tail _ (List.Mem.tail _ (List.Mem.head _))))))) | exact List.Mem.tail _ (List.Mem.tail _ (List.Mem.tail _ (List.Mem.tail _ (List.Mem.tail _ (List.Mem.tail _ (List.Mem.tail _ (List.Mem.tail _ (List.Mem.head _)))))))) | exact (by assumption) | exact List.Mem.tail _ ((by assumption)) | exact List.Mem.tail _ (List.Mem.tail _ ((by assumption))) | exact List.Mem.tail _ (List.Mem.tail _ (List.Mem.tail _ ((by assumption)))) | exact List.Mem.tail _ (List.Mem.tail _ (List.Mem.tail _ (List.Mem.tail _ ((by assumption))))) | exact List.Mem.tail _ (List.Mem.tail _ (List.Mem.tail _ (List.Mem.tail _ (List.Mem.tail _ ((by assumption))))))) | exact needs3 (by first | exact List.Mem.head _ | exact List.Mem.tail _ (List.Mem.head _) | exact List.Mem.tail _ (List.Mem.tail _ (List.Mem.head _)) | exact List.Mem.tail _ (List.Mem.tail _ (List.Mem.tail _ (List.Mem.head _))) | exact List.Mem.tail _ (List.Mem.tail _ (List.Mem.tail _ (List.Mem.tail _ (List.Mem.head _)))) | exact List.Mem.tail _ (List.Mem.tail _ (List.Mem.tail _ (List.Mem.tail _ (List.Mem.tail _ (List.Mem.head _))))) | exact List.Mem.tail _ (List.Mem.tail _ (List.Mem.tail _ (List.Mem.tail _ (List.Mem.tail _ (List.Mem.tail _ (List.Mem.head _)))))) | exact List.Mem.tail _ (List.Mem.tail _ (List.Mem.tail _ (List.Mem.tail _ (List.Mem.tail _ (List.Mem.tail _ (List.Mem.tail _ (List.Mem.head _))))))) | exact List.Mem.tail _ (List.Mem.tail _ (List.Mem.tail _ (List.Mem.tail _ (List.Mem.tail _ (List.Mem.tail _ (List.Mem.tail _ (List.Mem.tail _ (List.Mem.head _)))))))) | exact (by assumption) | exact List.Mem.tail _ ((by assumption)) | exact List.Mem.tail _ (List.Mem.tail _ ((by assumption))) | exact List.Mem.tail _ (List.Mem.tail _ (List.Mem.tail _ ((by assumption)))) | exact List.Mem.tail _ (List.Mem.tail _ (List.Mem.tail _ (List.Mem.tail _ ((by assumption))))) | exact List.Mem.tail _ (List.Mem.tail _ (List.Mem.tail _ (List.Mem.tail _ (List.Mem.tail _ ((by assumption))))))) (by first | exact List.Mem.head _ | exact List.Mem.tail _ (List.Mem.head _) | exact List.Mem.tail _ (List.Mem.tail _ (List.Mem.head _)) | exact List.Mem.tail _ (List.Mem.tail _ (List.Mem.tail _ (List.Mem.head _))) | exact List.Mem.tail _ (List.Mem.tail _ (List.Mem.tail _ (List.Mem.tail _ (List.Mem.head _)))) | exact List.Mem.tail _ (List.Mem.tail _ (List.Mem.tail _ (List.Mem.tail _ (List.Mem.tail _ (List.Mem.head _))))) | exact List.Mem.tail _ (List.Mem.tail _ (List.Mem.tail _ (List.Mem.tail _ (List.Mem.tail _ (List.Mem.tail _ (List.Mem.head _)))))) | exact List.Mem.tail _ (List.Mem.tail _ (List.Mem.tail _ (List.Mem.tail _ (List.Mem.tail _ (List.Mem.tail _ (List.Mem.tail _ (List.Mem.head _))))))) | exact List.Mem.tail _ (List.Mem.tail _ (List.Mem.tail _ (List.Mem.tail _ (List.Mem.tail _ (List.Mem.tail _ (List.Mem.tail _ (List.Mem.tail _ (List.Mem.head _)))))))) | exact (by assumption) | exact List.Mem.tail _ ((by assumption)) | exact List.Mem.tail _ (List.Mem.tail _ ((by assumption))) | exact List.Mem.tail _ (List.Mem.tail _ (List.Mem.tail _ ((by assumption)))) | exact List.Mem.tail _ (List.Mem.tail _ (List.Mem.tail _ (List.Mem.tail _ ((by assumption))))) | exact List.Mem.tail _ (List.Mem.tail _ (List.Mem.tail _ (List.Mem.tail _ (List.Mem.tail _ ((by assumption))))))) (by first | exact List.Mem.head _ | exact List.Mem.tail _ (List.Mem.head _) | exact List.Mem.tail _ (List.Mem.tail _ (List.Mem.head _)) | exact List.Mem.tail _ (List.Mem.tail _ (List.Mem.tail _ (List.Mem.head _))) | exact List.Mem.tail _ (List.Mem.tail _ (List.Mem.tail _ (List.Mem.tail _ (List.Mem.head _)))) | exact List.Mem.tail _ (List.Mem.tail _ (List.Mem.tail _ (List.Mem.tail _ (List.Mem.tail _ (List.Mem.head _))))) | exact List.Mem.tail _ (List.Mem.tail _ (List.Mem.tail _ (List.Mem.tail _ (List.Mem.tail _ (List.Mem.tail _ (List.Mem.head _)))))) | exact List.Mem.tail _ (List.Mem.tail _ (List.Mem.tail _ (List.Mem.tail _ (List.Mem.tail _ (List.Mem.tail _ (List.Mem.tail _ (List.Mem.head _))))))) | exact List.Mem.tail _ (List.Mem.tail _ (List.Mem.tail _ (List.Mem.tail _ (List.Mem.tail _ (List.Mem.tail _ (List.Mem.tail _ (List.Mem.tail _ (List.Mem.head _)))))))) | exact (by assumption) | exact List.Mem.tail _ ((by assumption)) | exact List.Mem.tail _ (List.Mem.tail _ ((by assumption))) | exact List.Mem.tail _ (List.Mem.tail _ (List.Mem.tail _ ((by assumption)))) | exact List.Mem.tail _ (List.Mem.tail _ (List.Mem.tail _ (List.Mem.tail _ ((by assumption))))) | exact List.Mem.tail _ (List.Mem.tail _ (List.Mem.tail _ (List.Mem.tail _ (List.Mem.tail _ ((by assumption)))))))) ?_)
  clear hS; rintro v30 _ w ⟨vx, Dx, rfl, rfl, hox⟩ hS; (try simp only [List.cons_append, List.nil_append] at hS)
  refine wl_op rfl rfl (ow_vr (vr_move (v := .tuple _) rfl) ?_)
  refine wl_op rfl rfl (ow_vr (vr_extract (v := vx) rfl rfl) ?_)
  refine wl_op rfl rfl (ow_vr (vr_extract (v := .bool _) rfl rfl) ?_)
  refine wl_op rfl rfl (ow_vr (vr_assign (v := vx) rfl) ?_)
  refine wl_op rfl rfl (ow_vr (vr_assign (v := .bool _) rfl) ?_)
  refine wl_nil ?_
  refine hK3 _ _ ?_
  refine cw_seq fun K4 hK4 => ?_
  refine cw_region ?_
  refine wl_op rfl rfl (ow_vr (vr_move (v := .int .i64 _) rfl) ?_)
  refine wl_op rfl rfl (ow_vr (vr_move (v := .int .i64 _) rfl) ?_)
  refine wl_op rfl rfl (ow_vr (vr_move (v := v25) rfl) ?_)
  refine wl_op rfl rfl (ow_fng (vs := [.int .i64 _, .int .i64 _, v25]) en_45 rfl hS (page_Put n2 v2 b _ _ (Own.view (by exact fun _ => rfl) hoB)) (by first | exact needs1 (by first | exact List.Mem.head _ | exact List.Mem.tail _ (List.Mem.head _) | exact List.Mem.tail _ (List.Mem.tail _ (List.Mem.head _)) | exact List.Mem.tail _ (List.Mem.tail _ (List.Mem.tail _ (List.Mem.head _))) | exact List.Mem.tail _ (List.Mem.tail _ (List.Mem.tail _ (List.Mem.tail _ (List.Mem.head _)))) | exact List.Mem.tail _ (List.Mem.tail _ (List.Mem.tail _ (List.Mem.tail _ (List.Mem.tail _ (List.Mem.head _))))) | exact List.Mem.tail _ (List.Mem.tail _ (List.Mem.tail _ (List.Mem.tail _ (List.Mem.tail _ (List.Mem.tail _ (List.Mem.head _)))))) | exact List.Mem.tail _ (List.Mem.tail _ (List.Mem.tail _ (List.Mem.tail _ (List.Mem.tail _ (List.Mem.tail _ (List.Mem.tail _ (List.Mem.head _))))))) | exact List.Mem.tail _ (List.Mem.tail _ (List.Mem.tail _ (List.Mem.tail _ (List.Mem.tail _ (List.Mem.tail _ (List.Mem.tail _ (List.Mem.tail _ (List.Mem.head _)))))))) | exact (by assumption) | exact List.Mem.tail _ ((by assumption)) | exact List.Mem.tail _ (List.Mem.tail _ ((by assumption))) | exact List.Mem.tail _ (List.Mem.tail _ (List.Mem.tail _ ((by assumption)))) | exact List.Mem.tail _ (List.Mem.tail _ (List.Mem.tail _ (List.Mem.tail _ ((by assumption))))) | exact List.Mem.tail _ (List.Mem.tail _ (List.Mem.tail _ (List.Mem.tail _ (List.Mem.tail _ ((by assumption))))))) | exact needs0 | exact needs2 (by first | exact List.Mem.head _ | exact List.Mem.tail _ (List.Mem.head _) | exact List.Mem.tail _ (List.Mem.tail _ (List.Mem.head _)) | exact List.Mem.tail _ (List.Mem.tail _ (List.Mem.tail _ (List.Mem.head _))) | exact List.Mem.tail _ (List.Mem.tail _ (List.Mem.tail _ (List.Mem.tail _ (List.Mem.head _)))) | exact List.Mem.tail _ (List.Mem.tail _ (List.Mem.tail _ (List.Mem.tail _ (List.Mem.tail _ (List.Mem.head _))))) | exact List.Mem.tail _ (List.Mem.tail _ (List.Mem.tail _ (List.Mem.tail _ (List.Mem.tail _ (List.Mem.tail _ (List.Mem.head _)))))) | exact List.Mem.tail _ (List.Mem.tail _ (List.Mem.tail _ (List.Mem.tail _ (List.Mem.tail _ (List.Mem.tail _ (List.Mem.tail _ (List.Mem.head _))))))) | exact List.Mem.tail _ (List.Mem.tail _ (List.Mem.tail _ (List.Mem.tail _ (List.Mem.tail _ (List.Mem.tail _ (List.Mem.tail _ (List.Mem.tail _ (List.Mem.head _)))))))) | exact (by assumption) | exact List.Mem.tail _ ((by assumption)) | exact List.Mem.tail _ (List.Mem.tail _ ((by assumption))) | exact List.Mem.tail _ (List.Mem.tail _ (List.Mem.tail _ ((by assumption)))) | exact List.Mem.tail _ (List.Mem.tail _ (List.Mem.tail _ (List.Mem.tail _ ((by assumption))))) | exact List.Mem.tail _ (List.Mem.tail _ (List.Mem.tail _ (List.Mem.tail _ (List.Mem.tail _ ((by assumption))))))) (by first | exact List.Mem.head _ | exact List.Mem.tail _ (List.Mem.head _) | exact List.Mem.tail _ (List.Mem.tail _ (List.Mem.head _)) | exact List.Mem.tail _ (List.Mem.tail _ (List.Mem.tail _ (List.Mem.head _))) | exact List.Mem.tail _ (List.Mem.tail _ (List.Mem.tail _ (List.Mem.tail _ (List.Mem.head _)))) | exact List.Mem.tail _ (List.Mem.tail _ (List.Mem.tail _ (List.Mem.tail _ (List.Mem.tail _ (List.Mem.head _))))) | exact List.Mem.tail _ (List.Mem.tail _ (List.Mem.tail _ (List.Mem.tail _ (List.Mem.tail _ (List.Mem.tail _ (List.Mem.head _)))))) | exact List.Mem.tail _ (List.Mem.tail _ (List.Mem.tail _ (List.Mem.tail _ (List.Mem.tail _ (List.Mem.tail _ (List.Mem.tail _ (List.Mem.head _))))))) | exact List.Mem.tail _ (List.Mem.tail _ (List.Mem.tail _ (List.Mem.tail _ (List.Mem.tail _ (List.Mem.tail _ (List.Mem.tail _ (List.Mem.tail _ (List.Mem.head _)))))))) | exact (by assumption) | exact List.Mem.tail _ ((by assumption)) | exact List.Mem.tail _ (List.Mem.tail _ ((by assumption))) | exact List.Mem.tail _ (List.Mem.tail _ (List.Mem.tail _ ((by assumption)))) | exact List.Mem.tail _ (List.Mem.tail _ (List.Mem.tail _ (List.Mem.tail _ ((by assumption))))) | exact List.Mem.tail _ (List.Mem.tail _ (List.Mem.tail _ (List.Mem.tail _ (List.Mem.tail _ ((by assumption))))))) | exact needs3 (by first | exact List.Mem.head _ | exact List.Mem.tail _ (List.Mem.head _) | exact List.Mem.tail _ (List.Mem.tail _ (List.Mem.head _)) | exact List.Mem.tail _ (List.Mem.tail _ (List.Mem.tail _ (List.Mem.head _))) | exact List.Mem.tail _ (List.Mem.tail _ (List.Mem.tail _ (List.Mem.tail _ (List.Mem.head _)))) | exact List.Mem.tail _ (List.Mem.tail _ (List.Mem.tail _ (List.Mem.tail _ (List.Mem.tail _ (List.Mem.head _))))) | exact List.Mem.tail _ (List.Mem.tail _ (List.Mem.tail _ (List.Mem.tail _ (List.Mem.tail _ (List.Mem.tail _ (List.Mem.head _)))))) | exact List.Mem.tail _ (List.Mem.tail _ (List.Mem.tail _ (List.Mem.tail _ (List.Mem.tail _ (List.Mem.tail _ (List.Mem.tail _ (List.Mem.head _))))))) | exact List.Mem.tail _ (List.Mem.tail _ (List.Mem.tail _ (List.Mem.tail _ (List.Mem.tail _ (List.Mem.tail _ (List.Mem.tail _ (List.Mem.tail _ (List.Mem.head _)))))))) | exact (by assumption) | exact List.Mem.tail _ ((by assumption)) | exact List.Mem.tail _ (List.Mem.tail _ ((by assumption))) | exact List.Mem.tail _ (List.Mem.tail _ (List.Mem.tail _ ((by assumption)))) | exact List.Mem.tail _ (List.Mem.tail _ (List.Mem.tail _ (List.Mem.tail _ ((by assumption))))) | exact List.Mem.tail _ (List.Mem.tail _ (List.Mem.tail _ (List.Mem.tail _ (List.Mem.tail _ ((by assumption))))))) (by first | exact List.Mem.head _ | exact List.Mem.tail _ (List.Mem.head _) | exact List.Mem.tail _ (List.Mem.tail _ (List.Mem.head _)) | exact List.Mem.tail _ (List.Mem.tail _ (List.Mem.tail _ (List.Mem.head _))) | exact List.Mem.tail _ (List.Mem.tail _ (List.Mem.tail _ (List.Mem.tail _ (List.Mem.head _)))) | exact List.Mem.tail _ (List.Mem.tail _ (List.Mem.tail _ (List.Mem.tail _ (List.Mem.tail _ (List.Mem.head _))))) | exact List.Mem.tail _ (List.Mem.tail _ (List.Mem.tail _ (List.Mem.tail _ (List.Mem.tail _ (List.Mem.tail _ (List.Mem.head _)))))) | exact List.Mem.tail _ (List.Mem.tail _ (List.Mem.tail _ (List.Mem.tail _ (List.Mem.tail _ (List.Mem.tail _ (List.Mem.tail _ (List.Mem.head _))))))) | exact List.Mem.tail _ (List.Mem.tail _ (List.Mem.tail _ (List.Mem.tail _ (List.Mem.tail _ (List.Mem.tail _ (List.Mem.tail _ (List.Mem.tail _ (List.Mem.head _)))))))) | exact (by assumption) | exact List.Mem.tail _ ((by assumption)) | exact List.Mem.tail _ (List.Mem.tail _ ((by assumption))) | exact List.Mem.tail _ (List.Mem.tail _ (List.Mem.tail _ ((by assumption)))) | exact List.Mem.tail _ (List.Mem.tail _ (List.Mem.tail _ (List.Mem.tail _ ((by assumption))))) | exact List.Mem.tail _ (List.Mem.tail _ (List.Mem.tail _ (List.Mem.tail _ (List.Mem.tail _ ((by assumption))))))) (by first | exact List.Mem.head _ | exact List.Mem.tail _ (List.Mem.head _) | exact List.Mem.tail _ (List.Mem.tail _ (List.Mem.head _)) | exact List.Mem.tail _ (List.Mem.tail _ (List.Mem.tail _ (List.Mem.head _))) | exact List.Mem.tail _ (List.Mem.tail _ (List.Mem.tail _ (List.Mem.tail _ (List.Mem.head _)))) | exact List.Mem.tail _ (List.Mem.tail _ (List.Mem.tail _ (List.Mem.tail _ (List.Mem.tail _ (List.Mem.head _))))) | exact List.Mem.tail _ (List.Mem.tail _ (List.Mem.tail _ (List.Mem.tail _ (List.Mem.tail _ (List.Mem.tail _ (List.Mem.head _)))))) | exact List.Mem.tail _ (List.Mem.tail _ (List.Mem.tail _ (List.Mem.tail _ (List.Mem.tail _ (List.Mem.tail _ (List.Mem.tail _ (List.Mem.head _))))))) | exact List.Mem.tail _ (List.Mem.tail _ (List.Mem.tail _ (List.Mem.tail _ (List.Mem.tail _ (List.Mem.tail _ (List.Mem.tail _ (List.Mem.tail _ (List.Mem.head _)))))))) | exact (by assumption) | exact List.Mem.tail _ ((by assumption)) | exact List.Mem.tail _ (List.Mem.tail _ ((by assumption))) | exact List.Mem.tail _ (List.Mem.tail _ (List.Mem.tail _ ((by assumption)))) | exact List.Mem.tail _ (List.Mem.tail _ (List.Mem.tail _ (List.Mem.tail _ ((by assumption))))) | exact List.Mem.tail _ (List.Mem.tail _ (List.Mem.tail _ (List.Mem.tail _ (List.Mem.tail _ ((by assumption)))))))) ?_)
  clear hS; rintro v37 _ w ⟨vy, Dy, rfl, rfl, hoy⟩ hS; (try simp only [List.cons_append, List.nil_append] at hS)
  refine wl_op rfl rfl (ow_vr (vr_move (v := .tuple _) rfl) ?_)
  refine wl_op rfl rfl (ow_vr (vr_extract (v := vy) rfl rfl) ?_)
  refine wl_op rfl rfl (ow_vr (vr_extract (v := .bool _) rfl rfl) ?_)
  refine wl_op rfl rfl (ow_vr (vr_assign (v := vy) rfl) ?_)
  refine wl_op rfl rfl (ow_vr (vr_assign (v := .bool _) rfl) ?_)
  refine wl_nil ?_
  refine hK4 _ _ ?_
  refine cw_seq fun K5 hK5 => ?_
  refine cw_seq fun K6 hK6 => ?_
  refine cw_region ?_
  refine wl_op rfl rfl (ow_vr (vr_move (v := .bool _) rfl) ?_)
  refine wl_op rfl rfl (ow_vr (vr_not rfl) ?_)
  refine wl_op rfl rfl (ow_vr (vr_move (v := .bool _) rfl) ?_)
  refine wl_split 42 rfl (fun hc => ?_) (fun hc => ?_)
  · (try simp only [decide_eq_true_eq, decide_eq_false_iff_not, Bool.not_eq_true, Bool.not_eq_false, Bool.not_eq_true', Bool.not_eq_false', Bool.and_eq_true, Bool.or_eq_true, Bool.and_eq_false_iff, Bool.or_eq_false_iff, Int.not_lt, Int.not_le, gt_iff_lt, ge_iff_le, ne_eq, Decidable.not_not, beq_iff_eq] at hc)
    have hk1 := hc; clear hc
    refine wl_noD rfl rfl rfl rfl rfl rfl ?_
    refine wl_noD rfl rfl rfl rfl rfl rfl ?_
    refine wl_op rfl rfl (ow_vr (vr_pick (b := true) (v := .bool _) rfl rfl) ?_)
    refine wl_op rfl rfl (ow_vr (vr_move (v := .bool _) rfl) ?_)
    refine wl_noD rfl rfl rfl rfl rfl rfl ?_
    refine wl_noD rfl rfl rfl rfl rfl rfl ?_
    refine wl_op rfl rfl (ow_vr (vr_pick (b := true) (v := .bool _) rfl rfl) ?_)
    refine wl_nil ?_
    refine hK6 _ _ ?_
    refine cw_cond_t rfl rfl (rfl) ?_
    refine cw_seq fun K7 hK7 => ?_
    refine cw_region ?_
    refine wl_op rfl rfl (ow_fn (vs := []) en_42 rfl hS (alive4) ?_)
    clear hS; rintro _ _ w ⟨rfl, rfl⟩ hS; (try simp only [List.cons_append, List.nil_append] at hS)
    refine wl_op rfl rfl (ow_vr (vr_assign (v := .bool _) rfl) ?_)
    refine wl_nil ?_
    refine hK7 _ _ ?_
    refine cw_ret ?_
    refine thenF_ret (?_)
    refine ret_one (fn := Try.f9) (n := 132) (t := 12) (.inl rfl) rfl rfl ?_
    exact ⟨[], ⟨rfl, rfl⟩, hS.tail1.tail1.tail1.tail1⟩
  · (try simp only [decide_eq_true_eq, decide_eq_false_iff_not, Bool.not_eq_true, Bool.not_eq_false, Bool.not_eq_true', Bool.not_eq_false', Bool.and_eq_true, Bool.or_eq_true, Bool.and_eq_false_iff, Bool.or_eq_false_iff, Int.not_lt, Int.not_le, gt_iff_lt, ge_iff_le, ne_eq, Decidable.not_not, beq_iff_eq] at hc)
    have hk1 := hc; clear hc
    refine wl_yes rfl rfl rfl rfl rfl (ow_vr (vr_move (v := .bool _) rfl) ?_)
    refine wl_yes rfl rfl rfl rfl rfl (ow_vr (vr_not rfl) ?_)
    refine wl_op rfl rfl (ow_vr (vr_pick (b := false) (v := .bool _) rfl rfl) ?_)
    refine wl_op rfl rfl (ow_vr (vr_move (v := .bool _) rfl) ?_)
    refine wl_split 46 rfl (fun hc => ?_) (fun hc => ?_)
    · (try simp only [decide_eq_true_eq, decide_eq_false_iff_not, Bool.not_eq_true, Bool.not_eq_false, Bool.not_eq_true', Bool.not_eq_false', Bool.and_eq_true, Bool.or_eq_true, Bool.and_eq_false_iff, Bool.or_eq_false_iff, Int.not_lt, Int.not_le, gt_iff_lt, ge_iff_le, ne_eq, Decidable.not_not, beq_iff_eq] at hc)
      have hk2 := hc; clear hc
      refine wl_noD rfl rfl rfl rfl rfl rfl ?_
      refine wl_noD rfl rfl rfl rfl rfl rfl ?_
      refine wl_op rfl rfl (ow_vr (vr_pick (b := true) (v := .bool _) rfl rfl) ?_)
      refine wl_nil ?_
      refine hK6 _ _ ?_
      refine cw_cond_t rfl rfl (rfl) ?_
      refine cw_seq fun K8 hK8 => ?_
      refine cw_region ?_
      refine wl_op rfl rfl (ow_fn (vs := []) en_42 rfl hS (alive4) ?_)
      clear hS; rintro _ _ w ⟨rfl, rfl⟩ hS; (try simp only [List.cons_append, List.nil_append] at hS)
      refine wl_op rfl rfl (ow_vr (vr_assign (v := .bool _) rfl) ?_)
      refine wl_nil ?_
      refine hK8 _ _ ?_
      refine cw_ret ?_
      refine thenF_ret (?_)
      refine ret_one (fn := Try.f9) (n := 132) (t := 12) (.inl rfl) rfl rfl ?_
      exact ⟨[], ⟨rfl, rfl⟩, hS.tail1.tail1.tail1.tail1⟩
    · (try simp only [decide_eq_true_eq, decide_eq_false_iff_not, Bool.not_eq_true, Bool.not_eq_false, Bool.not_eq_true', Bool.not_eq_false', Bool.and_eq_true, Bool.or_eq_true, Bool.and_eq_false_iff, Bool.or_eq_false_iff, Int.not_lt, Int.not_le, gt_iff_lt, ge_iff_le, ne_eq, Decidable.not_not, beq_iff_eq] at hc)
      have hk2 := hc; clear hc
      refine wl_yes rfl rfl rfl rfl rfl (ow_fn (vs := []) en_42 rfl hS (alive4) ?_)
      clear hS; rintro _ _ w ⟨rfl, rfl⟩ hS; (try simp only [List.cons_append, List.nil_append] at hS)
      refine wl_yes rfl rfl rfl rfl rfl (ow_vr (vr_not rfl) ?_)
      refine wl_op rfl rfl (ow_vr (vr_pick (b := false) (v := .bool _) rfl rfl) ?_)
      refine wl_nil ?_
      refine hK6 _ _ ?_
      refine cw_cond rfl rfl (fun hc => ?_) (fun hc => ?_)
      · (try simp only [decide_eq_true_eq, decide_eq_false_iff_not, Bool.not_eq_true, Bool.not_eq_false, Bool.not_eq_true', Bool.not_eq_false', Bool.and_eq_true, Bool.or_eq_true, Bool.and_eq_false_iff, Bool.or_eq_false_iff, Int.not_lt, Int.not_le, gt_iff_lt, ge_iff_le, ne_eq, Decidable.not_not, beq_iff_eq] at hc)
        have hc0 := hc; clear hc
        refine cw_seq fun K9 hK9 => ?_
        refine cw_region ?_
        refine wl_op rfl rfl (ow_fn (vs := []) en_42 rfl hS (alive4) ?_)
        clear hS; rintro _ _ w ⟨rfl, rfl⟩ hS; (try simp only [List.cons_append, List.nil_append] at hS)
        refine wl_op rfl rfl (ow_vr (vr_assign (v := .bool _) rfl) ?_)
        refine wl_nil ?_
        refine hK9 _ _ ?_
        refine cw_ret ?_
        refine thenF_ret (?_)
        refine ret_one (fn := Try.f9) (n := 132) (t := 12) (.inl rfl) rfl rfl ?_
        exact ⟨[], ⟨rfl, rfl⟩, hS.tail1.tail1.tail1.tail1⟩
      · (try simp only [decide_eq_true_eq, decide_eq_false_iff_not, Bool.not_eq_true, Bool.not_eq_false, Bool.not_eq_true', Bool.not_eq_false', Bool.and_eq_true, Bool.or_eq_true, Bool.and_eq_false_iff, Bool.or_eq_false_iff, Int.not_lt, Int.not_le, gt_iff_lt, ge_iff_le, ne_eq, Decidable.not_not, beq_iff_eq] at hc)
        have hc0 := hc; clear hc
        refine cw_skip ?_
        refine hK5 _ _ ?_
        refine cw_seq fun K10 hK10 => ?_
        refine cw_seq fun K11 hK11 => ?_
        have hk1 : okPg no v a = true := by simpa using hk1
        have hk2 : okPg n2 v2 b = true := by simpa using hk2
        rw [hk1, if_pos rfl] at hox
        rw [hk2, if_pos rfl] at hoy
        have hvx := Own.view (by exact fun _ => rfl) hox
        have hvy := Own.view (by exact fun _ => rfl) hoy
        have hvA := Own.view (by exact fun _ => rfl) hoA
        have hvB := Own.view (by exact fun _ => rfl) hoB
        refine cw_region ?_
        refine wl_op rfl rfl (ow_vr (vr_move (v := vx) rfl) ?_)
        refine wl_op rfl rfl (ow_vr (vr_len_v (v := vx) Try.underlying22 rfl hvx) ?_)
        refine wl_op rfl rfl (ow_vr (vr_neq rfl rfl) ?_)
        refine wl_op rfl rfl (ow_vr (vr_move (v := .bool _) rfl) ?_)
        refine wl_known 54 rfl (c := false) (rfl) ?_
        refine wl_yes rfl rfl rfl rfl rfl (ow_vr (vr_move (v := vy) rfl) ?_)
        refine wl_yes rfl rfl rfl rfl rfl (ow_vr (vr_len_v (v := vy) Try.underlying22 rfl hvy) ?_)
        refine wl_yes rfl rfl rfl rfl rfl (ow_vr (vr_neq rfl rfl) ?_)
        refine wl_op rfl rfl (ow_vr (vr_pick (b := false) (v := .bool _) rfl rfl) ?_)
        refine wl_nil ?_
        refine hK11 _ _ ?_
        refine cw_cond_f rfl rfl (rfl) ?_
        refine cw_skip ?_
        refine hK10 _ _ ?_
        refine cw_seq fun K12 hK12 => ?_
        refine cw_region ?_
        refine wl_op rfl rfl (ow_vr (vr_move (v := .int .i64 _) rfl) ?_)
        refine wl_op rfl rfl (ow_vr (vr_move (v := .int .i64 _) rfl) ?_)
        refine wl_op rfl rfl (ow_vr (vr_eql rfl rfl) ?_)
        refine wl_op rfl rfl (ow_vr (vr_move (v := .bool _) rfl) ?_)
        refine wl_split 62 rfl (fun hc => ?_) (fun hc => ?_)
        · (try simp only [decide_eq_true_eq, decide_eq_false_iff_not, Bool.not_eq_true, Bool.not_eq_false, Bool.not_eq_true', Bool.not_eq_false', Bool.and_eq_true, Bool.or_eq_true, Bool.and_eq_false_iff, Bool.or_eq_false_iff, Int.not_lt, Int.not_le, gt_iff_lt, ge_iff_le, ne_eq, Decidable.not_not, beq_iff_eq] at hc)
          have hnm := hc; clear hc
          refine wl_yes rfl rfl rfl rfl rfl (ow_vr (vr_move (v := .int .i64 _) rfl) ?_)
          refine wl_yes rfl rfl rfl rfl rfl (ow_vr (vr_move (v := .int .i64 _) rfl) ?_)
          refine wl_yes rfl rfl rfl rfl rfl (ow_vr (vr_eql rfl rfl) ?_)
          refine wl_op rfl rfl (ow_vr (vr_pick (b := true) (v := .bool _) rfl rfl) ?_)
          refine wl_op rfl rfl (ow_vr (vr_assign (v := .bool _) rfl) ?_)
          refine wl_nil ?_
          refine hK12 _ _ ?_
          refine cw_seq fun K13 hK13 => ?_
          refine cw_seq fun K14 hK14 => ?_
          refine cw_region ?_
          refine wl_op rfl rfl (ow_vr (vr_assign (v := .int .i64 0) rfl) ?_)
          refine wl_nil ?_
          refine hK14 _ _ ?_
          refine cw_block ?_
          refine cw_loop (fun m f w => ∃ (i : Nat) (same : Bool) (g : Nat → Value), f = (upd (upd (upd (upd (upd (upd (upd (upd (upd (upd g 0 (.int .i64 no)) 1 (.int .i64 v)) 2 (.int .i64 n2)) 3 (.int .i64 v2)) 4 (v23)) 5 (v25)) 13 (vx)) 15 (vy)) 17 (.bool same)) 18 (.int .i64 (i : Int))) ∧ (i ≤ 16 ∧ same = decide ((no = n2 ∧ v = v2) ∧ a.take i = b.take i)) ∧ m = 16 - i ∧ Sat E (Dy :: Dx :: DB :: DA :: F) w) ⟨0, _, _, (reb (reb (reb (reb (reb (reb (reb (reb (reb (reb rfl rfl) rfl) rfl) rfl) rfl) rfl) rfl) rfl) rfl) rfl), ?_, rfl, hS⟩ ?_
          · exact ⟨by omega, by simp_all⟩
          clear hS; rintro m f w ⟨i, same, g, rfl, hI0, rfl, hS⟩
          obtain ⟨hi, hsm⟩ := hI0
          refine cw_seq fun K15 hK15 => ?_
          refine cw_seq fun K16 hK16 => ?_
          refine cw_region ?_
          refine wl_op rfl rfl (ow_vr (vr_move (v := .int .i64 (i : Int)) rfl) ?_)
          refine wl_op rfl rfl (ow_vr (vr_move (v := v23) rfl) ?_)
          refine wl_op rfl rfl (ow_vr (vr_len_v (v := v23) Try.underlying23 rfl hvA) ?_)
          refine wl_op rfl rfl (ow_vr (vr_lss rfl rfl) ?_)
          refine wl_nil ?_
          refine hK16 _ _ ?_
          refine cw_cond rfl rfl (fun hc => ?_) (fun hc => ?_)
          · (try simp only [decide_eq_true_eq, decide_eq_false_iff_not, Bool.not_eq_true, Bool.not_eq_false, Bool.not_eq_true', Bool.not_eq_false', Bool.and_eq_true, Bool.or_eq_true, Bool.and_eq_false_iff, Bool.or_eq_false_iff, Int.not_lt, Int.not_le, gt_iff_lt, ge_iff_le, ne_eq, Decidable.not_not, beq_iff_eq] at hc)
            have hc2 := hc; clear hc
            refine cw_skip ?_
            refine hK15 _ _ ?_
            refine cw_seq fun K17 hK17 => ?_
            refine cw_block ?_
            obtain ⟨x, hx⟩ := get_lt (xs := a) (k := i) (by omega)
            obtain ⟨y, hy⟩ := get_lt (xs := b) (k := i) (by omega)
            refine cw_draw_sat hS [(0, 0), (1, 0), (2, 0), (3, 0), (4, 0), (5, 1), (6, 0), (7, 0), (8, 0), (9, 1), (10, 0), (11, 0), (12, 0)] mixed (planFast_ok (by kernel_rfl)) (by rintro _ _ _ ⟨⟩) ?_
            clear hS; intro w hS
            refine pl_take rfl (yes_none rfl) (vr_move (v := .bool same) rfl) ?_
            refine pl_take rfl (yes_none rfl) (vr_move (v := .bool same) rfl) ?_
            refine pl_split 74 rfl (fun hc => ?_) (fun hc => ?_)
            · (try simp only [decide_eq_true_eq, decide_eq_false_iff_not, Bool.not_eq_true, Bool.not_eq_false, Bool.not_eq_true', Bool.not_eq_false', Bool.and_eq_true, Bool.or_eq_true, Bool.and_eq_false_iff, Bool.or_eq_false_iff, Int.not_lt, Int.not_le, gt_iff_lt, ge_iff_le, ne_eq, Decidable.not_not, beq_iff_eq] at hc)
              have hsame := hc; clear hc
              refine pl_take rfl (yes_some rfl rfl rfl rfl) (vr_move (v := v23) rfl) ?_
              refine pl_take rfl (yes_some rfl rfl rfl rfl) (vr_move (v := .int .i64 (i : Int)) rfl) ?_
              refine pl_take rfl (yes_some rfl rfl rfl rfl) (vr_indexV (v := v23) Try.underlying23 sz_3 rfl hvA rfl (by omega) (by omega)) ?_
              refine pl_load rfl (yes_some rfl rfl rfl rfl) (lr_loadV1 (u := .int .i64 _) Try.underlying3 rfl rfl hvA (by first | exact List.Mem.head _ | exact List.Mem.tail _ (List.Mem.head _) | exact List.Mem.tail _ (List.Mem.tail _ (List.Mem.head _)) | exact List.Mem.tail _ (List.Mem.tail _ (List.Mem.tail _ (List.Mem.head _))) | exact List.Mem.tail _ (List.Mem.tail _ (List.Mem.tail _ (List.Mem.tail _ (List.Mem.head _)))) | exact List.Mem.tail _ (List.Mem.tail _ (List.Mem.tail _ (List.Mem.tail _ (List.Mem.tail _ (List.Mem.head _))))) | exact List.Mem.tail _ (List.Mem.tail _ (List.Mem.tail _ (List.Mem.tail _ (List.Mem.tail _ (List.Mem.tail _ (List.Mem.head _)))))) | exact List.Mem.tail _ (List.Mem.tail _ (List.Mem.tail _ (List.Mem.tail _ (List.Mem.tail _ (List.Mem.tail _ (List.Mem.tail _ (List.Mem.head _))))))) | exact List.Mem.tail _ (List.Mem.tail _ (List.Mem.tail _ (List.Mem.tail _ (List.Mem.tail _ (List.Mem.tail _ (List.Mem.tail _ (List.Mem.tail _ (List.Mem.head _)))))))) | exact (by assumption) | exact List.Mem.tail _ ((by assumption)) | exact List.Mem.tail _ (List.Mem.tail _ ((by assumption))) | exact List.Mem.tail _ (List.Mem.tail _ (List.Mem.tail _ ((by assumption)))) | exact List.Mem.tail _ (List.Mem.tail _ (List.Mem.tail _ (List.Mem.tail _ ((by assumption))))) | exact List.Mem.tail _ (List.Mem.tail _ (List.Mem.tail _ (List.Mem.tail _ (List.Mem.tail _ ((by assumption))))))) (hx) (by exact fun _ => rfl) (by rfl)) ?_
              refine pl_take rfl (yes_some rfl rfl rfl rfl) (vr_move (v := v25) rfl) ?_
              refine pl_take rfl (yes_some rfl rfl rfl rfl) (vr_move (v := .int .i64 (i : Int)) rfl) ?_
              refine pl_take rfl (yes_some rfl rfl rfl rfl) (vr_indexV (v := v25) Try.underlying23 sz_3 rfl hvB rfl (by omega) (by omega)) ?_
              refine pl_load rfl (yes_some rfl rfl rfl rfl) (lr_loadV1 (u := .int .i64 _) Try.underlying3 rfl rfl hvB (by first | exact List.Mem.head _ | exact List.Mem.tail _ (List.Mem.head _) | exact List.Mem.tail _ (List.Mem.tail _ (List.Mem.head _)) | exact List.Mem.tail _ (List.Mem.tail _ (List.Mem.tail _ (List.Mem.head _))) | exact List.Mem.tail _ (List.Mem.tail _ (List.Mem.tail _ (List.Mem.tail _ (List.Mem.head _)))) | exact List.Mem.tail _ (List.Mem.tail _ (List.Mem.tail _ (List.Mem.tail _ (List.Mem.tail _ (List.Mem.head _))))) | exact List.Mem.tail _ (List.Mem.tail _ (List.Mem.tail _ (List.Mem.tail _ (List.Mem.tail _ (List.Mem.tail _ (List.Mem.head _)))))) | exact List.Mem.tail _ (List.Mem.tail _ (List.Mem.tail _ (List.Mem.tail _ (List.Mem.tail _ (List.Mem.tail _ (List.Mem.tail _ (List.Mem.head _))))))) | exact List.Mem.tail _ (List.Mem.tail _ (List.Mem.tail _ (List.Mem.tail _ (List.Mem.tail _ (List.Mem.tail _ (List.Mem.tail _ (List.Mem.tail _ (List.Mem.head _)))))))) | exact (by assumption) | exact List.Mem.tail _ ((by assumption)) | exact List.Mem.tail _ (List.Mem.tail _ ((by assumption))) | exact List.Mem.tail _ (List.Mem.tail _ (List.Mem.tail _ ((by assumption)))) | exact List.Mem.tail _ (List.Mem.tail _ (List.Mem.tail _ (List.Mem.tail _ ((by assumption))))) | exact List.Mem.tail _ (List.Mem.tail _ (List.Mem.tail _ (List.Mem.tail _ (List.Mem.tail _ ((by assumption))))))) (hy) (by exact fun _ => rfl) (by rfl)) ?_
              refine pl_take rfl (yes_some rfl rfl rfl rfl) (vr_eql rfl rfl) ?_
              refine pl_take rfl (yes_none rfl) (vr_pick (b := true) (v := .bool _) rfl rfl) ?_
              refine pl_take rfl (yes_none rfl) (vr_assign (v := .bool _) rfl) ?_
              refine pl_nil hS ?_
              clear hS; intro w hS
              refine hK17 _ _ ?_
              refine cw_region ?_
              refine wl_op rfl rfl (ow_vr (vr_move (v := .int .i64 (i : Int)) rfl) ?_)
              first | (refine wl_op rfl rfl (ow_vr (vr_addi rfl rfl (by unfold inI64; omega)) ?_)) | (refine wl_op rfl rfl (ow_vr (vr_add rfl rfl) ?_))
              refine wl_op rfl rfl (ow_vr (vr_assign (v := .int .i64 _) rfl) ?_)
              refine wl_nil ?_
              refine thenF_normal ⟨_, ?_, i + 1, _, _, (reb (reb (reb (reb (reb (reb (reb (reb (reb (reb rfl rfl) rfl) rfl) rfl) rfl) rfl) rfl) rfl) rfl) rfl), ?_, rfl, hS⟩
              · omega
              · exact ⟨by omega, by rw [take_snoc hx, take_snoc hy]; simp_all⟩
            · (try simp only [decide_eq_true_eq, decide_eq_false_iff_not, Bool.not_eq_true, Bool.not_eq_false, Bool.not_eq_true', Bool.not_eq_false', Bool.and_eq_true, Bool.or_eq_true, Bool.and_eq_false_iff, Bool.or_eq_false_iff, Int.not_lt, Int.not_le, gt_iff_lt, ge_iff_le, ne_eq, Decidable.not_not, beq_iff_eq] at hc)
              have hsame := hc; clear hc
              refine pl_noD rfl (yes_not rfl rfl rfl rfl rfl) ?_
              refine pl_noD rfl (yes_not rfl rfl rfl rfl rfl) ?_
              refine pl_noD rfl (yes_not rfl rfl rfl rfl rfl) ?_
              refine pl_noD rfl (yes_not rfl rfl rfl rfl rfl) ?_
              refine pl_noD rfl (yes_not rfl rfl rfl rfl rfl) ?_
              refine pl_noD rfl (yes_not rfl rfl rfl rfl rfl) ?_
              refine pl_noD rfl (yes_not rfl rfl rfl rfl rfl) ?_
              refine pl_noD rfl (yes_not rfl rfl rfl rfl rfl) ?_
              refine pl_noD rfl (yes_not rfl rfl rfl rfl rfl) ?_
              refine pl_take rfl (yes_none rfl) (vr_pick (b := false) (v := .bool _) rfl rfl) ?_
              refine pl_take rfl (yes_none rfl) (vr_assign (v := .bool _) rfl) ?_
              refine pl_nil hS ?_
              clear hS; intro w hS
              refine hK17 _ _ ?_
              refine cw_region ?_
              refine wl_op rfl rfl (ow_vr (vr_move (v := .int .i64 (i : Int)) rfl) ?_)
              first | (refine wl_op rfl rfl (ow_vr (vr_addi rfl rfl (by unfold inI64; omega)) ?_)) | (refine wl_op rfl rfl (ow_vr (vr_add rfl rfl) ?_))
              refine wl_op rfl rfl (ow_vr (vr_assign (v := .int .i64 _) rfl) ?_)
              refine wl_nil ?_
              refine thenF_normal ⟨_, ?_, i + 1, _, _, (reb (reb (reb (reb (reb (reb (reb (reb (reb (reb rfl rfl) rfl) rfl) rfl) rfl) rfl) rfl) rfl) rfl) rfl), ?_, rfl, hS⟩
              · omega
              · exact ⟨by omega, by rw [take_snoc hx, take_snoc hy]; simp_all⟩
          · (try simp only [decide_eq_true_eq, decide_eq_false_iff_not, Bool.not_eq_true, Bool.not_eq_false, Bool.not_eq_true', Bool.not_eq_false', Bool.and_eq_true, Bool.or_eq_true, Bool.and_eq_false_iff, Bool.or_eq_false_iff, Int.not_lt, Int.not_le, gt_iff_lt, ge_iff_le, ne_eq, Decidable.not_not, beq_iff_eq] at hc)
            have hc2 := hc; clear hc
            refine cw_exit ?_
            refine hK13 _ _ ?_
            refine cw_seq fun K18 hK18 => ?_
            obtain rfl : i = 16 := by omega
            rw [List.take_of_length_le (by omega), List.take_of_length_le (by omega)] at hsm
            refine cw_draw_sat hS [(0, 0), (1, 0), (2, 1), (3, 0), (4, 0), (5, 1), (6, 0), (7, 0), (8, 0), (9, 0), (10, 1), (11, 0), (12, 0), (13, 1), (14, 0), (15, 0), (16, 0), (17, 0), (18, 0), (19, 1), (20, 0), (21, 0), (22, 1), (23, 0), (24, 0), (25, 0)] mixed (planFast_ok (by kernel_rfl)) (by rintro _ _ _ ⟨⟩) ?_
            clear hS; intro w hS
            refine pl_take rfl (yes_none rfl) (vr_move (v := vx) rfl) ?_
            refine pl_take rfl (yes_none rfl) (vr_indexV (v := vx) Try.underlying22 sz_9 rfl hvx rfl (by omega) (by simp [pagesB])) ?_
            refine pl_load rfl (yes_none rfl) (lr_loadV1 (u := str _) Try.underlying9 rfl rfl hvx (by first | exact List.Mem.head _ | exact List.Mem.tail _ (List.Mem.head _) | exact List.Mem.tail _ (List.Mem.tail _ (List.Mem.head _)) | exact List.Mem.tail _ (List.Mem.tail _ (List.Mem.tail _ (List.Mem.head _))) | exact List.Mem.tail _ (List.Mem.tail _ (List.Mem.tail _ (List.Mem.tail _ (List.Mem.head _)))) | exact List.Mem.tail _ (List.Mem.tail _ (List.Mem.tail _ (List.Mem.tail _ (List.Mem.tail _ (List.Mem.head _))))) | exact List.Mem.tail _ (List.Mem.tail _ (List.Mem.tail _ (List.Mem.tail _ (List.Mem.tail _ (List.Mem.tail _ (List.Mem.head _)))))) | exact List.Mem.tail _ (List.Mem.tail _ (List.Mem.tail _ (List.Mem.tail _ (List.Mem.tail _ (List.Mem.tail _ (List.Mem.tail _ (List.Mem.head _))))))) | exact List.Mem.tail _ (List.Mem.tail _ (List.Mem.tail _ (List.Mem.tail _ (List.Mem.tail _ (List.Mem.tail _ (List.Mem.tail _ (List.Mem.tail _ (List.Mem.head _)))))))) | exact (by assumption) | exact List.Mem.tail _ ((by assumption)) | exact List.Mem.tail _ (List.Mem.tail _ ((by assumption))) | exact List.Mem.tail _ (List.Mem.tail _ (List.Mem.tail _ ((by assumption)))) | exact List.Mem.tail _ (List.Mem.tail _ (List.Mem.tail _ (List.Mem.tail _ ((by assumption))))) | exact List.Mem.tail _ (List.Mem.tail _ (List.Mem.tail _ (List.Mem.tail _ (List.Mem.tail _ ((by assumption))))))) ((rfl : (pagesB (allP no v a))[0]? = some (chunkB (allP no v a) 0))) (by exact fun _ => rfl) (by rfl)) ?_
            refine pl_take rfl (yes_none rfl) (vr_move (v := vy) rfl) ?_
            refine pl_take rfl (yes_none rfl) (vr_indexV (v := vy) Try.underlying22 sz_9 rfl hvy rfl (by omega) (by simp [pagesB])) ?_
            refine pl_load rfl (yes_none rfl) (lr_loadV1 (u := str _) Try.underlying9 rfl rfl hvy (by first | exact List.Mem.head _ | exact List.Mem.tail _ (List.Mem.head _) | exact List.Mem.tail _ (List.Mem.tail _ (List.Mem.head _)) | exact List.Mem.tail _ (List.Mem.tail _ (List.Mem.tail _ (List.Mem.head _))) | exact List.Mem.tail _ (List.Mem.tail _ (List.Mem.tail _ (List.Mem.tail _ (List.Mem.head _)))) | exact List.Mem.tail _ (List.Mem.tail _ (List.Mem.tail _ (List.Mem.tail _ (List.Mem.tail _ (List.Mem.head _))))) | exact List.Mem.tail _ (List.Mem.tail _ (List.Mem.tail _ (List.Mem.tail _ (List.Mem.tail _ (List.Mem.tail _ (List.Mem.head _)))))) | exact List.Mem.tail _ (List.Mem.tail _ (List.Mem.tail _ (List.Mem.tail _ (List.Mem.tail _ (List.Mem.tail _ (List.Mem.tail _ (List.Mem.head _))))))) | exact List.Mem.tail _ (List.Mem.tail _ (List.Mem.tail _ (List.Mem.tail _ (List.Mem.tail _ (List.Mem.tail _ (List.Mem.tail _ (List.Mem.tail _ (List.Mem.head _)))))))) | exact (by assumption) | exact List.Mem.tail _ ((by assumption)) | exact List.Mem.tail _ (List.Mem.tail _ ((by assumption))) | exact List.Mem.tail _ (List.Mem.tail _ (List.Mem.tail _ ((by assumption)))) | exact List.Mem.tail _ (List.Mem.tail _ (List.Mem.tail _ (List.Mem.tail _ ((by assumption))))) | exact List.Mem.tail _ (List.Mem.tail _ (List.Mem.tail _ (List.Mem.tail _ (List.Mem.tail _ ((by assumption))))))) ((rfl : (pagesB (allP n2 v2 b))[0]? = some (chunkB (allP n2 v2 b) 0))) (by exact fun _ => rfl) (by rfl)) ?_
            refine pl_take rfl (yes_none rfl) (vr_eql_s rfl rfl) ?_
            refine pl_take rfl (yes_none rfl) (vr_move (v := .bool _) rfl) ?_
            refine pl_split 92 rfl (fun hc => ?_) (fun hc => ?_)
            · (try simp only [decide_eq_true_eq, decide_eq_false_iff_not, Bool.not_eq_true, Bool.not_eq_false, Bool.not_eq_true', Bool.not_eq_false', Bool.and_eq_true, Bool.or_eq_true, Bool.and_eq_false_iff, Bool.or_eq_false_iff, Int.not_lt, Int.not_le, gt_iff_lt, ge_iff_le, ne_eq, Decidable.not_not, beq_iff_eq] at hc)
              have h92 := hc; clear hc
              refine pl_take rfl (yes_some rfl rfl rfl rfl) (vr_move (v := vx) rfl) ?_
              refine pl_take rfl (yes_some rfl rfl rfl rfl) (vr_indexV (v := vx) Try.underlying22 sz_9 rfl hvx rfl (by omega) (by simp [pagesB])) ?_
              refine pl_load rfl (yes_some rfl rfl rfl rfl) (lr_loadV1 (u := str _) Try.underlying9 rfl rfl hvx (by first | exact List.Mem.head _ | exact List.Mem.tail _ (List.Mem.head _) | exact List.Mem.tail _ (List.Mem.tail _ (List.Mem.head _)) | exact List.Mem.tail _ (List.Mem.tail _ (List.Mem.tail _ (List.Mem.head _))) | exact List.Mem.tail _ (List.Mem.tail _ (List.Mem.tail _ (List.Mem.tail _ (List.Mem.head _)))) | exact List.Mem.tail _ (List.Mem.tail _ (List.Mem.tail _ (List.Mem.tail _ (List.Mem.tail _ (List.Mem.head _))))) | exact List.Mem.tail _ (List.Mem.tail _ (List.Mem.tail _ (List.Mem.tail _ (List.Mem.tail _ (List.Mem.tail _ (List.Mem.head _)))))) | exact List.Mem.tail _ (List.Mem.tail _ (List.Mem.tail _ (List.Mem.tail _ (List.Mem.tail _ (List.Mem.tail _ (List.Mem.tail _ (List.Mem.head _))))))) | exact List.Mem.tail _ (List.Mem.tail _ (List.Mem.tail _ (List.Mem.tail _ (List.Mem.tail _ (List.Mem.tail _ (List.Mem.tail _ (List.Mem.tail _ (List.Mem.head _)))))))) | exact (by assumption) | exact List.Mem.tail _ ((by assumption)) | exact List.Mem.tail _ (List.Mem.tail _ ((by assumption))) | exact List.Mem.tail _ (List.Mem.tail _ (List.Mem.tail _ ((by assumption)))) | exact List.Mem.tail _ (List.Mem.tail _ (List.Mem.tail _ (List.Mem.tail _ ((by assumption))))) | exact List.Mem.tail _ (List.Mem.tail _ (List.Mem.tail _ (List.Mem.tail _ (List.Mem.tail _ ((by assumption))))))) ((rfl : (pagesB (allP no v a))[1]? = some (chunkB (allP no v a) 1))) (by exact fun _ => rfl) (by rfl)) ?_
              refine pl_take rfl (yes_some rfl rfl rfl rfl) (vr_move (v := vy) rfl) ?_
              refine pl_take rfl (yes_some rfl rfl rfl rfl) (vr_indexV (v := vy) Try.underlying22 sz_9 rfl hvy rfl (by omega) (by simp [pagesB])) ?_
              refine pl_load rfl (yes_some rfl rfl rfl rfl) (lr_loadV1 (u := str _) Try.underlying9 rfl rfl hvy (by first | exact List.Mem.head _ | exact List.Mem.tail _ (List.Mem.head _) | exact List.Mem.tail _ (List.Mem.tail _ (List.Mem.head _)) | exact List.Mem.tail _ (List.Mem.tail _ (List.Mem.tail _ (List.Mem.head _))) | exact List.Mem.tail _ (List.Mem.tail _ (List.Mem.tail _ (List.Mem.tail _ (List.Mem.head _)))) | exact List.Mem.tail _ (List.Mem.tail _ (List.Mem.tail _ (List.Mem.tail _ (List.Mem.tail _ (List.Mem.head _))))) | exact List.Mem.tail _ (List.Mem.tail _ (List.Mem.tail _ (List.Mem.tail _ (List.Mem.tail _ (List.Mem.tail _ (List.Mem.head _)))))) | exact List.Mem.tail _ (List.Mem.tail _ (List.Mem.tail _ (List.Mem.tail _ (List.Mem.tail _ (List.Mem.tail _ (List.Mem.tail _ (List.Mem.head _))))))) | exact List.Mem.tail _ (List.Mem.tail _ (List.Mem.tail _ (List.Mem.tail _ (List.Mem.tail _ (List.Mem.tail _ (List.Mem.tail _ (List.Mem.tail _ (List.Mem.head _)))))))) | exact (by assumption) | exact List.Mem.tail _ ((by assumption)) | exact List.Mem.tail _ (List.Mem.tail _ ((by assumption))) | exact List.Mem.tail _ (List.Mem.tail _ (List.Mem.tail _ ((by assumption)))) | exact List.Mem.tail _ (List.Mem.tail _ (List.Mem.tail _ (List.Mem.tail _ ((by assumption))))) | exact List.Mem.tail _ (List.Mem.tail _ (List.Mem.tail _ (List.Mem.tail _ (List.Mem.tail _ ((by assumption))))))) ((rfl : (pagesB (allP n2 v2 b))[1]? = some (chunkB (allP n2 v2 b) 1))) (by exact fun _ => rfl) (by rfl)) ?_
              refine pl_take rfl (yes_some rfl rfl rfl rfl) (vr_eql_s rfl rfl) ?_
              refine pl_take rfl (yes_none rfl) (vr_pick (b := true) (v := .bool _) rfl rfl) ?_
              refine pl_take rfl (yes_none rfl) (vr_move (v := .bool _) rfl) ?_
              refine pl_split 101 rfl (fun hc => ?_) (fun hc => ?_)
              · (try simp only [decide_eq_true_eq, decide_eq_false_iff_not, Bool.not_eq_true, Bool.not_eq_false, Bool.not_eq_true', Bool.not_eq_false', Bool.and_eq_true, Bool.or_eq_true, Bool.and_eq_false_iff, Bool.or_eq_false_iff, Int.not_lt, Int.not_le, gt_iff_lt, ge_iff_le, ne_eq, Decidable.not_not, beq_iff_eq] at hc)
                have h101 := hc; clear hc
                refine pl_take rfl (yes_some rfl rfl rfl rfl) (vr_move (v := vx) rfl) ?_
                refine pl_take rfl (yes_some rfl rfl rfl rfl) (vr_indexV (v := vx) Try.underlying22 sz_9 rfl hvx rfl (by omega) (by simp [pagesB])) ?_
                refine pl_load rfl (yes_some rfl rfl rfl rfl) (lr_loadV1 (u := str _) Try.underlying9 rfl rfl hvx (by first | exact List.Mem.head _ | exact List.Mem.tail _ (List.Mem.head _) | exact List.Mem.tail _ (List.Mem.tail _ (List.Mem.head _)) | exact List.Mem.tail _ (List.Mem.tail _ (List.Mem.tail _ (List.Mem.head _))) | exact List.Mem.tail _ (List.Mem.tail _ (List.Mem.tail _ (List.Mem.tail _ (List.Mem.head _)))) | exact List.Mem.tail _ (List.Mem.tail _ (List.Mem.tail _ (List.Mem.tail _ (List.Mem.tail _ (List.Mem.head _))))) | exact List.Mem.tail _ (List.Mem.tail _ (List.Mem.tail _ (List.Mem.tail _ (List.Mem.tail _ (List.Mem.tail _ (List.Mem.head _)))))) | exact List.Mem.tail _ (List.Mem.tail _ (List.Mem.tail _ (List.Mem.tail _ (List.Mem.tail _ (List.Mem.tail _ (List.Mem.tail _ (List.Mem.head _))))))) | exact List.Mem.tail _ (List.Mem.tail _ (List.Mem.tail _ (List.Mem.tail _ (List.Mem.tail _ (List.Mem.tail _ (List.Mem.tail _ (List.Mem.tail _ (List.Mem.head _)))))))) | exact (by assumption) | exact List.Mem.tail _ ((by assumption)) | exact List.Mem.tail _ (List.Mem.tail _ ((by assumption))) | exact List.Mem.tail _ (List.Mem.tail _ (List.Mem.tail _ ((by assumption)))) | exact List.Mem.tail _ (List.Mem.tail _ (List.Mem.tail _ (List.Mem.tail _ ((by assumption))))) | exact List.Mem.tail _ (List.Mem.tail _ (List.Mem.tail _ (List.Mem.tail _ (List.Mem.tail _ ((by assumption))))))) ((rfl : (pagesB (allP no v a))[2]? = some (chunkB (allP no v a) 2))) (by exact fun _ => rfl) (by rfl)) ?_
                refine pl_take rfl (yes_some rfl rfl rfl rfl) (vr_move (v := vy) rfl) ?_
                refine pl_take rfl (yes_some rfl rfl rfl rfl) (vr_indexV (v := vy) Try.underlying22 sz_9 rfl hvy rfl (by omega) (by simp [pagesB])) ?_
                refine pl_load rfl (yes_some rfl rfl rfl rfl) (lr_loadV1 (u := str _) Try.underlying9 rfl rfl hvy (by first | exact List.Mem.head _ | exact List.Mem.tail _ (List.Mem.head _) | exact List.Mem.tail _ (List.Mem.tail _ (List.Mem.head _)) | exact List.Mem.tail _ (List.Mem.tail _ (List.Mem.tail _ (List.Mem.head _))) | exact List.Mem.tail _ (List.Mem.tail _ (List.Mem.tail _ (List.Mem.tail _ (List.Mem.head _)))) | exact List.Mem.tail _ (List.Mem.tail _ (List.Mem.tail _ (List.Mem.tail _ (List.Mem.tail _ (List.Mem.head _))))) | exact List.Mem.tail _ (List.Mem.tail _ (List.Mem.tail _ (List.Mem.tail _ (List.Mem.tail _ (List.Mem.tail _ (List.Mem.head _)))))) | exact List.Mem.tail _ (List.Mem.tail _ (List.Mem.tail _ (List.Mem.tail _ (List.Mem.tail _ (List.Mem.tail _ (List.Mem.tail _ (List.Mem.head _))))))) | exact List.Mem.tail _ (List.Mem.tail _ (List.Mem.tail _ (List.Mem.tail _ (List.Mem.tail _ (List.Mem.tail _ (List.Mem.tail _ (List.Mem.tail _ (List.Mem.head _)))))))) | exact (by assumption) | exact List.Mem.tail _ ((by assumption)) | exact List.Mem.tail _ (List.Mem.tail _ ((by assumption))) | exact List.Mem.tail _ (List.Mem.tail _ (List.Mem.tail _ ((by assumption)))) | exact List.Mem.tail _ (List.Mem.tail _ (List.Mem.tail _ (List.Mem.tail _ ((by assumption))))) | exact List.Mem.tail _ (List.Mem.tail _ (List.Mem.tail _ (List.Mem.tail _ (List.Mem.tail _ ((by assumption))))))) ((rfl : (pagesB (allP n2 v2 b))[2]? = some (chunkB (allP n2 v2 b) 2))) (by exact fun _ => rfl) (by rfl)) ?_
                refine pl_take rfl (yes_some rfl rfl rfl rfl) (vr_eql_s rfl rfl) ?_
                refine pl_take rfl (yes_none rfl) (vr_pick (b := true) (v := .bool _) rfl rfl) ?_
                refine pl_take rfl (yes_none rfl) (vr_assign (v := .bool _) rfl) ?_
                refine pl_nil hS ?_
                clear hS; intro w hS
                refine hK18 _ _ ?_
                refine cw_seq fun K19 hK19 => ?_
                refine cw_region ?_
                refine wl_op rfl rfl (ow_vr (vr_move (v := .int .i64 n2) rfl) ?_)
                refine wl_op rfl rfl (ow_vr (vr_move (v := .int .i64 v2) rfl) ?_)
                refine wl_op rfl rfl (ow_vr (vr_move (v := vx) rfl) ?_)
                refine wl_op rfl rfl (ow_fng (vs := [.int .i64 n2, .int .i64 v2, vx]) en_53 rfl hS (page_At n2 v2 (pagesB (allP no v a)) _ _ hvx (by simp [pagesB]) (by rw [pages_flat (all_length hk1), all_length hk1]; omega)) (by first | exact needs1 (by first | exact List.Mem.head _ | exact List.Mem.tail _ (List.Mem.head _) | exact List.Mem.tail _ (List.Mem.tail _ (List.Mem.head _)) | exact List.Mem.tail _ (List.Mem.tail _ (List.Mem.tail _ (List.Mem.head _))) | exact List.Mem.tail _ (List.Mem.tail _ (List.Mem.tail _ (List.Mem.tail _ (List.Mem.head _)))) | exact List.Mem.tail _ (List.Mem.tail _ (List.Mem.tail _ (List.Mem.tail _ (List.Mem.tail _ (List.Mem.head _))))) | exact List.Mem.tail _ (List.Mem.tail _ (List.Mem.tail _ (List.Mem.tail _ (List.Mem.tail _ (List.Mem.tail _ (List.Mem.head _)))))) | exact List.Mem.tail _ (List.Mem.tail _ (List.Mem.tail _ (List.Mem.tail _ (List.Mem.tail _ (List.Mem.tail _ (List.Mem.tail _ (List.Mem.head _))))))) | exact List.Mem.tail _ (List.Mem.tail _ (List.Mem.tail _ (List.Mem.tail _ (List.Mem.tail _ (List.Mem.tail _ (List.Mem.tail _ (List.Mem.tail _ (List.Mem.head _)))))))) | exact (by assumption) | exact List.Mem.tail _ ((by assumption)) | exact List.Mem.tail _ (List.Mem.tail _ ((by assumption))) | exact List.Mem.tail _ (List.Mem.tail _ (List.Mem.tail _ ((by assumption)))) | exact List.Mem.tail _ (List.Mem.tail _ (List.Mem.tail _ (List.Mem.tail _ ((by assumption))))) | exact List.Mem.tail _ (List.Mem.tail _ (List.Mem.tail _ (List.Mem.tail _ (List.Mem.tail _ ((by assumption))))))) | exact needs0 | exact needs2 (by first | exact List.Mem.head _ | exact List.Mem.tail _ (List.Mem.head _) | exact List.Mem.tail _ (List.Mem.tail _ (List.Mem.head _)) | exact List.Mem.tail _ (List.Mem.tail _ (List.Mem.tail _ (List.Mem.head _))) | exact List.Mem.tail _ (List.Mem.tail _ (List.Mem.tail _ (List.Mem.tail _ (List.Mem.head _)))) | exact List.Mem.tail _ (List.Mem.tail _ (List.Mem.tail _ (List.Mem.tail _ (List.Mem.tail _ (List.Mem.head _))))) | exact List.Mem.tail _ (List.Mem.tail _ (List.Mem.tail _ (List.Mem.tail _ (List.Mem.tail _ (List.Mem.tail _ (List.Mem.head _)))))) | exact List.Mem.tail _ (List.Mem.tail _ (List.Mem.tail _ (List.Mem.tail _ (List.Mem.tail _ (List.Mem.tail _ (List.Mem.tail _ (List.Mem.head _))))))) | exact List.Mem.tail _ (List.Mem.tail _ (List.Mem.tail _ (List.Mem.tail _ (List.Mem.tail _ (List.Mem.tail _ (List.Mem.tail _ (List.Mem.tail _ (List.Mem.head _)))))))) | exact (by assumption) | exact List.Mem.tail _ ((by assumption)) | exact List.Mem.tail _ (List.Mem.tail _ ((by assumption))) | exact List.Mem.tail _ (List.Mem.tail _ (List.Mem.tail _ ((by assumption)))) | exact List.Mem.tail _ (List.Mem.tail _ (List.Mem.tail _ (List.Mem.tail _ ((by assumption))))) | exact List.Mem.tail _ (List.Mem.tail _ (List.Mem.tail _ (List.Mem.tail _ (List.Mem.tail _ ((by assumption))))))) (by first | exact List.Mem.head _ | exact List.Mem.tail _ (List.Mem.head _) | exact List.Mem.tail _ (List.Mem.tail _ (List.Mem.head _)) | exact List.Mem.tail _ (List.Mem.tail _ (List.Mem.tail _ (List.Mem.head _))) | exact List.Mem.tail _ (List.Mem.tail _ (List.Mem.tail _ (List.Mem.tail _ (List.Mem.head _)))) | exact List.Mem.tail _ (List.Mem.tail _ (List.Mem.tail _ (List.Mem.tail _ (List.Mem.tail _ (List.Mem.head _))))) | exact List.Mem.tail _ (List.Mem.tail _ (List.Mem.tail _ (List.Mem.tail _ (List.Mem.tail _ (List.Mem.tail _ (List.Mem.head _)))))) | exact List.Mem.tail _ (List.Mem.tail _ (List.Mem.tail _ (List.Mem.tail _ (List.Mem.tail _ (List.Mem.tail _ (List.Mem.tail _ (List.Mem.head _))))))) | exact List.Mem.tail _ (List.Mem.tail _ (List.Mem.tail _ (List.Mem.tail _ (List.Mem.tail _ (List.Mem.tail _ (List.Mem.tail _ (List.Mem.tail _ (List.Mem.head _)))))))) | exact (by assumption) | exact List.Mem.tail _ ((by assumption)) | exact List.Mem.tail _ (List.Mem.tail _ ((by assumption))) | exact List.Mem.tail _ (List.Mem.tail _ (List.Mem.tail _ ((by assumption)))) | exact List.Mem.tail _ (List.Mem.tail _ (List.Mem.tail _ (List.Mem.tail _ ((by assumption))))) | exact List.Mem.tail _ (List.Mem.tail _ (List.Mem.tail _ (List.Mem.tail _ (List.Mem.tail _ ((by assumption))))))) | exact needs3 (by first | exact List.Mem.head _ | exact List.Mem.tail _ (List.Mem.head _) | exact List.Mem.tail _ (List.Mem.tail _ (List.Mem.head _)) | exact List.Mem.tail _ (List.Mem.tail _ (List.Mem.tail _ (List.Mem.head _))) | exact List.Mem.tail _ (List.Mem.tail _ (List.Mem.tail _ (List.Mem.tail _ (List.Mem.head _)))) | exact List.Mem.tail _ (List.Mem.tail _ (List.Mem.tail _ (List.Mem.tail _ (List.Mem.tail _ (List.Mem.head _))))) | exact List.Mem.tail _ (List.Mem.tail _ (List.Mem.tail _ (List.Mem.tail _ (List.Mem.tail _ (List.Mem.tail _ (List.Mem.head _)))))) | exact List.Mem.tail _ (List.Mem.tail _ (List.Mem.tail _ (List.Mem.tail _ (List.Mem.tail _ (List.Mem.tail _ (List.Mem.tail _ (List.Mem.head _))))))) | exact List.Mem.tail _ (List.Mem.tail _ (List.Mem.tail _ (List.Mem.tail _ (List.Mem.tail _ (List.Mem.tail _ (List.Mem.tail _ (List.Mem.tail _ (List.Mem.head _)))))))) | exact (by assumption) | exact List.Mem.tail _ ((by assumption)) | exact List.Mem.tail _ (List.Mem.tail _ ((by assumption))) | exact List.Mem.tail _ (List.Mem.tail _ (List.Mem.tail _ ((by assumption)))) | exact List.Mem.tail _ (List.Mem.tail _ (List.Mem.tail _ (List.Mem.tail _ ((by assumption))))) | exact List.Mem.tail _ (List.Mem.tail _ (List.Mem.tail _ (List.Mem.tail _ (List.Mem.tail _ ((by assumption))))))) (by first | exact List.Mem.head _ | exact List.Mem.tail _ (List.Mem.head _) | exact List.Mem.tail _ (List.Mem.tail _ (List.Mem.head _)) | exact List.Mem.tail _ (List.Mem.tail _ (List.Mem.tail _ (List.Mem.head _))) | exact List.Mem.tail _ (List.Mem.tail _ (List.Mem.tail _ (List.Mem.tail _ (List.Mem.head _)))) | exact List.Mem.tail _ (List.Mem.tail _ (List.Mem.tail _ (List.Mem.tail _ (List.Mem.tail _ (List.Mem.head _))))) | exact List.Mem.tail _ (List.Mem.tail _ (List.Mem.tail _ (List.Mem.tail _ (List.Mem.tail _ (List.Mem.tail _ (List.Mem.head _)))))) | exact List.Mem.tail _ (List.Mem.tail _ (List.Mem.tail _ (List.Mem.tail _ (List.Mem.tail _ (List.Mem.tail _ (List.Mem.tail _ (List.Mem.head _))))))) | exact List.Mem.tail _ (List.Mem.tail _ (List.Mem.tail _ (List.Mem.tail _ (List.Mem.tail _ (List.Mem.tail _ (List.Mem.tail _ (List.Mem.tail _ (List.Mem.head _)))))))) | exact (by assumption) | exact List.Mem.tail _ ((by assumption)) | exact List.Mem.tail _ (List.Mem.tail _ ((by assumption))) | exact List.Mem.tail _ (List.Mem.tail _ (List.Mem.tail _ ((by assumption)))) | exact List.Mem.tail _ (List.Mem.tail _ (List.Mem.tail _ (List.Mem.tail _ ((by assumption))))) | exact List.Mem.tail _ (List.Mem.tail _ (List.Mem.tail _ (List.Mem.tail _ (List.Mem.tail _ ((by assumption))))))) (by first | exact List.Mem.head _ | exact List.Mem.tail _ (List.Mem.head _) | exact List.Mem.tail _ (List.Mem.tail _ (List.Mem.head _)) | exact List.Mem.tail _ (List.Mem.tail _ (List.Mem.tail _ (List.Mem.head _))) | exact List.Mem.tail _ (List.Mem.tail _ (List.Mem.tail _ (List.Mem.tail _ (List.Mem.head _)))) | exact List.Mem.tail _ (List.Mem.tail _ (List.Mem.tail _ (List.Mem.tail _ (List.Mem.tail _ (List.Mem.head _))))) | exact List.Mem.tail _ (List.Mem.tail _ (List.Mem.tail _ (List.Mem.tail _ (List.Mem.tail _ (List.Mem.tail _ (List.Mem.head _)))))) | exact List.Mem.tail _ (List.Mem.tail _ (List.Mem.tail _ (List.Mem.tail _ (List.Mem.tail _ (List.Mem.tail _ (List.Mem.tail _ (List.Mem.head _))))))) | exact List.Mem.tail _ (List.Mem.tail _ (List.Mem.tail _ (List.Mem.tail _ (List.Mem.tail _ (List.Mem.tail _ (List.Mem.tail _ (List.Mem.tail _ (List.Mem.head _)))))))) | exact (by assumption) | exact List.Mem.tail _ ((by assumption)) | exact List.Mem.tail _ (List.Mem.tail _ ((by assumption))) | exact List.Mem.tail _ (List.Mem.tail _ (List.Mem.tail _ ((by assumption)))) | exact List.Mem.tail _ (List.Mem.tail _ (List.Mem.tail _ (List.Mem.tail _ ((by assumption))))) | exact List.Mem.tail _ (List.Mem.tail _ (List.Mem.tail _ (List.Mem.tail _ (List.Mem.tail _ ((by assumption)))))))) ?_)
                clear hS; rintro v114 _ w ⟨vq, Dq, rfl, rfl, hoq⟩ hS; (try simp only [List.cons_append, List.nil_append] at hS)
                refine wl_op rfl rfl (ow_vr (vr_move (v := .tuple _) rfl) ?_)
                refine wl_op rfl rfl (ow_vr (vr_extract (v := vq) rfl rfl) ?_)
                refine wl_op rfl rfl (ow_vr (vr_extract (v := .bool _) rfl rfl) ?_)
                refine wl_op rfl rfl (ow_vr (vr_assign (v := vq) rfl) ?_)
                refine wl_op rfl rfl (ow_vr (vr_assign (v := .bool _) rfl) ?_)
                refine wl_nil ?_
                refine hK19 _ _ ?_
                refine cw_seq fun K20 hK20 => ?_
                have hinj := pages_inj hk1 hk2
                rw [pages_three] at hinj
                have hat := at_pages (m := n2) (w := v2) hk1
                refine cw_region ?_
                refine wl_op rfl rfl (ow_vr (vr_move (v := .bool _) rfl) ?_)
                refine wl_op rfl rfl (ow_vr (vr_move (v := .bool same) rfl) ?_)
                refine wl_op rfl rfl (ow_vr (vr_eqlb Try.underlying4 rfl rfl) ?_)
                refine wl_op rfl rfl (ow_vr (vr_move (v := .bool _) rfl) ?_)
                refine wl_known 120 rfl (c := true) (by (simp_all) <;> (by_cases hvv : v = v2 <;> simp_all)) ?_
                refine wl_yes rfl rfl rfl rfl rfl (ow_vr (vr_move (v := .bool _) rfl) ?_)
                refine wl_yes rfl rfl rfl rfl rfl (ow_vr (vr_move (v := .int .i64 no) rfl) ?_)
                refine wl_yes rfl rfl rfl rfl rfl (ow_vr (vr_move (v := .int .i64 n2) rfl) ?_)
                refine wl_yes rfl rfl rfl rfl rfl (ow_vr (vr_eql rfl rfl) ?_)
                refine wl_yes rfl rfl rfl rfl rfl (ow_vr (vr_move (v := .bool _) rfl) ?_)
                refine wl_split 125 rfl (fun hc => ?_) (fun hc => ?_)
                · (try simp only [decide_eq_true_eq, decide_eq_false_iff_not, Bool.not_eq_true, Bool.not_eq_false, Bool.not_eq_true', Bool.not_eq_false', Bool.and_eq_true, Bool.or_eq_true, Bool.and_eq_false_iff, Bool.or_eq_false_iff, Int.not_lt, Int.not_le, gt_iff_lt, ge_iff_le, ne_eq, Decidable.not_not, beq_iff_eq] at hc)
                  have h125 := hc; clear hc
                  refine wl_yes rfl rfl rfl rfl rfl (ow_vr (vr_move (v := .int .i64 v) rfl) ?_)
                  refine wl_yes rfl rfl rfl rfl rfl (ow_vr (vr_move (v := .int .i64 v2) rfl) ?_)
                  refine wl_yes rfl rfl rfl rfl rfl (ow_vr (vr_eql rfl rfl) ?_)
                  refine wl_yes rfl rfl rfl rfl rfl (ow_vr (vr_pick (b := true) (v := .bool _) rfl rfl) ?_)
                  refine wl_yes rfl rfl rfl rfl rfl (ow_vr (vr_eqlb Try.underlying4 rfl rfl) ?_)
                  refine wl_op rfl rfl (ow_vr (vr_pick (b := true) (v := .bool _) rfl rfl) ?_)
                  refine wl_op rfl rfl (ow_vr (vr_assign (v := .bool _) rfl) ?_)
                  refine wl_nil ?_
                  refine hK20 _ _ ?_
                  refine cw_ret ?_
                  refine ret_one (fn := Try.f9) (n := 132) (t := 12) (.inl rfl) rfl rfl ?_
                  exact ⟨[], ⟨congrArg Value.bool (by simp_all), rfl⟩, hS.tail1.tail1.tail1.tail1.tail1⟩
                · (try simp only [decide_eq_true_eq, decide_eq_false_iff_not, Bool.not_eq_true, Bool.not_eq_false, Bool.not_eq_true', Bool.not_eq_false', Bool.and_eq_true, Bool.or_eq_true, Bool.and_eq_false_iff, Bool.or_eq_false_iff, Int.not_lt, Int.not_le, gt_iff_lt, ge_iff_le, ne_eq, Decidable.not_not, beq_iff_eq] at hc)
                  have h125 := hc; clear hc
                  refine wl_noD rfl rfl rfl rfl rfl rfl ?_
                  refine wl_noD rfl rfl rfl rfl rfl rfl ?_
                  refine wl_noD rfl rfl rfl rfl rfl rfl ?_
                  refine wl_yes rfl rfl rfl rfl rfl (ow_vr (vr_pick (b := false) (v := .bool _) rfl rfl) ?_)
                  refine wl_yes rfl rfl rfl rfl rfl (ow_vr (vr_eqlb Try.underlying4 rfl rfl) ?_)
                  refine wl_op rfl rfl (ow_vr (vr_pick (b := true) (v := .bool _) rfl rfl) ?_)
                  refine wl_op rfl rfl (ow_vr (vr_assign (v := .bool _) rfl) ?_)
                  refine wl_nil ?_
                  refine hK20 _ _ ?_
                  refine cw_ret ?_
                  refine ret_one (fn := Try.f9) (n := 132) (t := 12) (.inl rfl) rfl rfl ?_
                  exact ⟨[], ⟨congrArg Value.bool (by simp_all), rfl⟩, hS.tail1.tail1.tail1.tail1.tail1⟩
              · (try simp only [decide_eq_true_eq, decide_eq_false_iff_not, Bool.not_eq_true, Bool.not_eq_false, Bool.not_eq_true', Bool.not_eq_false', Bool.and_eq_true, Bool.or_eq_true, Bool.and_eq_false_iff, Bool.or_eq_false_iff, Int.not_lt, Int.not_le, gt_iff_lt, ge_iff_le, ne_eq, Decidable.not_not, beq_iff_eq] at hc)
                have h101 := hc; clear hc
                refine pl_noD rfl (yes_not rfl rfl rfl rfl rfl) ?_
                refine pl_noD rfl (yes_not rfl rfl rfl rfl rfl) ?_
                refine pl_noD rfl (yes_not rfl rfl rfl rfl rfl) ?_
                refine pl_noD rfl (yes_not rfl rfl rfl rfl rfl) ?_
                refine pl_noD rfl (yes_not rfl rfl rfl rfl rfl) ?_
                refine pl_noD rfl (yes_not rfl rfl rfl rfl rfl) ?_
                refine pl_noD rfl (yes_not rfl rfl rfl rfl rfl) ?_
                refine pl_take rfl (yes_none rfl) (vr_pick (b := false) (v := .bool _) rfl rfl) ?_
                refine pl_take rfl (yes_none rfl) (vr_assign (v := .bool _) rfl) ?_
                refine pl_nil hS ?_
                clear hS; intro w hS
                refine hK18 _ _ ?_
                refine cw_seq fun K21 hK21 => ?_
                refine cw_region ?_
                refine wl_op rfl rfl (ow_vr (vr_move (v := .int .i64 n2) rfl) ?_)
                refine wl_op rfl rfl (ow_vr (vr_move (v := .int .i64 v2) rfl) ?_)
                refine wl_op rfl rfl (ow_vr (vr_move (v := vx) rfl) ?_)
                refine wl_op rfl rfl (ow_fng (vs := [.int .i64 n2, .int .i64 v2, vx]) en_53 rfl hS (page_At n2 v2 (pagesB (allP no v a)) _ _ hvx (by simp [pagesB]) (by rw [pages_flat (all_length hk1), all_length hk1]; omega)) (by first | exact needs1 (by first | exact List.Mem.head _ | exact List.Mem.tail _ (List.Mem.head _) | exact List.Mem.tail _ (List.Mem.tail _ (List.Mem.head _)) | exact List.Mem.tail _ (List.Mem.tail _ (List.Mem.tail _ (List.Mem.head _))) | exact List.Mem.tail _ (List.Mem.tail _ (List.Mem.tail _ (List.Mem.tail _ (List.Mem.head _)))) | exact List.Mem.tail _ (List.Mem.tail _ (List.Mem.tail _ (List.Mem.tail _ (List.Mem.tail _ (List.Mem.head _))))) | exact List.Mem.tail _ (List.Mem.tail _ (List.Mem.tail _ (List.Mem.tail _ (List.Mem.tail _ (List.Mem.tail _ (List.Mem.head _)))))) | exact List.Mem.tail _ (List.Mem.tail _ (List.Mem.tail _ (List.Mem.tail _ (List.Mem.tail _ (List.Mem.tail _ (List.Mem.tail _ (List.Mem.head _))))))) | exact List.Mem.tail _ (List.Mem.tail _ (List.Mem.tail _ (List.Mem.tail _ (List.Mem.tail _ (List.Mem.tail _ (List.Mem.tail _ (List.Mem.tail _ (List.Mem.head _)))))))) | exact (by assumption) | exact List.Mem.tail _ ((by assumption)) | exact List.Mem.tail _ (List.Mem.tail _ ((by assumption))) | exact List.Mem.tail _ (List.Mem.tail _ (List.Mem.tail _ ((by assumption)))) | exact List.Mem.tail _ (List.Mem.tail _ (List.Mem.tail _ (List.Mem.tail _ ((by assumption))))) | exact List.Mem.tail _ (List.Mem.tail _ (List.Mem.tail _ (List.Mem.tail _ (List.Mem.tail _ ((by assumption))))))) | exact needs0 | exact needs2 (by first | exact List.Mem.head _ | exact List.Mem.tail _ (List.Mem.head _) | exact List.Mem.tail _ (List.Mem.tail _ (List.Mem.head _)) | exact List.Mem.tail _ (List.Mem.tail _ (List.Mem.tail _ (List.Mem.head _))) | exact List.Mem.tail _ (List.Mem.tail _ (List.Mem.tail _ (List.Mem.tail _ (List.Mem.head _)))) | exact List.Mem.tail _ (List.Mem.tail _ (List.Mem.tail _ (List.Mem.tail _ (List.Mem.tail _ (List.Mem.head _))))) | exact List.Mem.tail _ (List.Mem.tail _ (List.Mem.tail _ (List.Mem.tail _ (List.Mem.tail _ (List.Mem.tail _ (List.Mem.head _)))))) | exact List.Mem.tail _ (List.Mem.tail _ (List.Mem.tail _ (List.Mem.tail _ (List.Mem.tail _ (List.Mem.tail _ (List.Mem.tail _ (List.Mem.head _))))))) | exact List.Mem.tail _ (List.Mem.tail _ (List.Mem.tail _ (List.Mem.tail _ (List.Mem.tail _ (List.Mem.tail _ (List.Mem.tail _ (List.Mem.tail _ (List.Mem.head _)))))))) | exact (by assumption) | exact List.Mem.tail _ ((by assumption)) | exact List.Mem.tail _ (List.Mem.tail _ ((by assumption))) | exact List.Mem.tail _ (List.Mem.tail _ (List.Mem.tail _ ((by assumption)))) | exact List.Mem.tail _ (List.Mem.tail _ (List.Mem.tail _ (List.Mem.tail _ ((by assumption))))) | exact List.Mem.tail _ (List.Mem.tail _ (List.Mem.tail _ (List.Mem.tail _ (List.Mem.tail _ ((by assumption))))))) (by first | exact List.Mem.head _ | exact List.Mem.tail _ (List.Mem.head _) | exact List.Mem.tail _ (List.Mem.tail _ (List.Mem.head _)) | exact List.Mem.tail _ (List.Mem.tail _ (List.Mem.tail _ (List.Mem.head _))) | exact List.Mem.tail _ (List.Mem.tail _ (List.Mem.tail _ (List.Mem.tail _ (List.Mem.head _)))) | exact List.Mem.tail _ (List.Mem.tail _ (List.Mem.tail _ (List.Mem.tail _ (List.Mem.tail _ (List.Mem.head _))))) | exact List.Mem.tail _ (List.Mem.tail _ (List.Mem.tail _ (List.Mem.tail _ (List.Mem.tail _ (List.Mem.tail _ (List.Mem.head _)))))) | exact List.Mem.tail _ (List.Mem.tail _ (List.Mem.tail _ (List.Mem.tail _ (List.Mem.tail _ (List.Mem.tail _ (List.Mem.tail _ (List.Mem.head _))))))) | exact List.Mem.tail _ (List.Mem.tail _ (List.Mem.tail _ (List.Mem.tail _ (List.Mem.tail _ (List.Mem.tail _ (List.Mem.tail _ (List.Mem.tail _ (List.Mem.head _)))))))) | exact (by assumption) | exact List.Mem.tail _ ((by assumption)) | exact List.Mem.tail _ (List.Mem.tail _ ((by assumption))) | exact List.Mem.tail _ (List.Mem.tail _ (List.Mem.tail _ ((by assumption)))) | exact List.Mem.tail _ (List.Mem.tail _ (List.Mem.tail _ (List.Mem.tail _ ((by assumption))))) | exact List.Mem.tail _ (List.Mem.tail _ (List.Mem.tail _ (List.Mem.tail _ (List.Mem.tail _ ((by assumption))))))) | exact needs3 (by first | exact List.Mem.head _ | exact List.Mem.tail _ (List.Mem.head _) | exact List.Mem.tail _ (List.Mem.tail _ (List.Mem.head _)) | exact List.Mem.tail _ (List.Mem.tail _ (List.Mem.tail _ (List.Mem.head _))) | exact List.Mem.tail _ (List.Mem.tail _ (List.Mem.tail _ (List.Mem.tail _ (List.Mem.head _)))) | exact List.Mem.tail _ (List.Mem.tail _ (List.Mem.tail _ (List.Mem.tail _ (List.Mem.tail _ (List.Mem.head _))))) | exact List.Mem.tail _ (List.Mem.tail _ (List.Mem.tail _ (List.Mem.tail _ (List.Mem.tail _ (List.Mem.tail _ (List.Mem.head _)))))) | exact List.Mem.tail _ (List.Mem.tail _ (List.Mem.tail _ (List.Mem.tail _ (List.Mem.tail _ (List.Mem.tail _ (List.Mem.tail _ (List.Mem.head _))))))) | exact List.Mem.tail _ (List.Mem.tail _ (List.Mem.tail _ (List.Mem.tail _ (List.Mem.tail _ (List.Mem.tail _ (List.Mem.tail _ (List.Mem.tail _ (List.Mem.head _)))))))) | exact (by assumption) | exact List.Mem.tail _ ((by assumption)) | exact List.Mem.tail _ (List.Mem.tail _ ((by assumption))) | exact List.Mem.tail _ (List.Mem.tail _ (List.Mem.tail _ ((by assumption)))) | exact List.Mem.tail _ (List.Mem.tail _ (List.Mem.tail _ (List.Mem.tail _ ((by assumption))))) | exact List.Mem.tail _ (List.Mem.tail _ (List.Mem.tail _ (List.Mem.tail _ (List.Mem.tail _ ((by assumption))))))) (by first | exact List.Mem.head _ | exact List.Mem.tail _ (List.Mem.head _) | exact List.Mem.tail _ (List.Mem.tail _ (List.Mem.head _)) | exact List.Mem.tail _ (List.Mem.tail _ (List.Mem.tail _ (List.Mem.head _))) | exact List.Mem.tail _ (List.Mem.tail _ (List.Mem.tail _ (List.Mem.tail _ (List.Mem.head _)))) | exact List.Mem.tail _ (List.Mem.tail _ (List.Mem.tail _ (List.Mem.tail _ (List.Mem.tail _ (List.Mem.head _))))) | exact List.Mem.tail _ (List.Mem.tail _ (List.Mem.tail _ (List.Mem.tail _ (List.Mem.tail _ (List.Mem.tail _ (List.Mem.head _)))))) | exact List.Mem.tail _ (List.Mem.tail _ (List.Mem.tail _ (List.Mem.tail _ (List.Mem.tail _ (List.Mem.tail _ (List.Mem.tail _ (List.Mem.head _))))))) | exact List.Mem.tail _ (List.Mem.tail _ (List.Mem.tail _ (List.Mem.tail _ (List.Mem.tail _ (List.Mem.tail _ (List.Mem.tail _ (List.Mem.tail _ (List.Mem.head _)))))))) | exact (by assumption) | exact List.Mem.tail _ ((by assumption)) | exact List.Mem.tail _ (List.Mem.tail _ ((by assumption))) | exact List.Mem.tail _ (List.Mem.tail _ (List.Mem.tail _ ((by assumption)))) | exact List.Mem.tail _ (List.Mem.tail _ (List.Mem.tail _ (List.Mem.tail _ ((by assumption))))) | exact List.Mem.tail _ (List.Mem.tail _ (List.Mem.tail _ (List.Mem.tail _ (List.Mem.tail _ ((by assumption))))))) (by first | exact List.Mem.head _ | exact List.Mem.tail _ (List.Mem.head _) | exact List.Mem.tail _ (List.Mem.tail _ (List.Mem.head _)) | exact List.Mem.tail _ (List.Mem.tail _ (List.Mem.tail _ (List.Mem.head _))) | exact List.Mem.tail _ (List.Mem.tail _ (List.Mem.tail _ (List.Mem.tail _ (List.Mem.head _)))) | exact List.Mem.tail _ (List.Mem.tail _ (List.Mem.tail _ (List.Mem.tail _ (List.Mem.tail _ (List.Mem.head _))))) | exact List.Mem.tail _ (List.Mem.tail _ (List.Mem.tail _ (List.Mem.tail _ (List.Mem.tail _ (List.Mem.tail _ (List.Mem.head _)))))) | exact List.Mem.tail _ (List.Mem.tail _ (List.Mem.tail _ (List.Mem.tail _ (List.Mem.tail _ (List.Mem.tail _ (List.Mem.tail _ (List.Mem.head _))))))) | exact List.Mem.tail _ (List.Mem.tail _ (List.Mem.tail _ (List.Mem.tail _ (List.Mem.tail _ (List.Mem.tail _ (List.Mem.tail _ (List.Mem.tail _ (List.Mem.head _)))))))) | exact (by assumption) | exact List.Mem.tail _ ((by assumption)) | exact List.Mem.tail _ (List.Mem.tail _ ((by assumption))) | exact List.Mem.tail _ (List.Mem.tail _ (List.Mem.tail _ ((by assumption)))) | exact List.Mem.tail _ (List.Mem.tail _ (List.Mem.tail _ (List.Mem.tail _ ((by assumption))))) | exact List.Mem.tail _ (List.Mem.tail _ (List.Mem.tail _ (List.Mem.tail _ (List.Mem.tail _ ((by assumption)))))))) ?_)
                clear hS; rintro v114 _ w ⟨vq, Dq, rfl, rfl, hoq⟩ hS; (try simp only [List.cons_append, List.nil_append] at hS)
                refine wl_op rfl rfl (ow_vr (vr_move (v := .tuple _) rfl) ?_)
                refine wl_op rfl rfl (ow_vr (vr_extract (v := vq) rfl rfl) ?_)
                refine wl_op rfl rfl (ow_vr (vr_extract (v := .bool _) rfl rfl) ?_)
                refine wl_op rfl rfl (ow_vr (vr_assign (v := vq) rfl) ?_)
                refine wl_op rfl rfl (ow_vr (vr_assign (v := .bool _) rfl) ?_)
                refine wl_nil ?_
                refine hK21 _ _ ?_
                refine cw_seq fun K22 hK22 => ?_
                have hinj := pages_inj hk1 hk2
                rw [pages_three] at hinj
                have hat := at_pages (m := n2) (w := v2) hk1
                refine cw_region ?_
                refine wl_op rfl rfl (ow_vr (vr_move (v := .bool _) rfl) ?_)
                refine wl_op rfl rfl (ow_vr (vr_move (v := .bool same) rfl) ?_)
                refine wl_op rfl rfl (ow_vr (vr_eqlb Try.underlying4 rfl rfl) ?_)
                refine wl_op rfl rfl (ow_vr (vr_move (v := .bool _) rfl) ?_)
                refine wl_known 120 rfl (c := true) (by (simp_all) <;> (by_cases hvv : v = v2 <;> simp_all)) ?_
                refine wl_yes rfl rfl rfl rfl rfl (ow_vr (vr_move (v := .bool _) rfl) ?_)
                refine wl_yes rfl rfl rfl rfl rfl (ow_vr (vr_move (v := .int .i64 no) rfl) ?_)
                refine wl_yes rfl rfl rfl rfl rfl (ow_vr (vr_move (v := .int .i64 n2) rfl) ?_)
                refine wl_yes rfl rfl rfl rfl rfl (ow_vr (vr_eql rfl rfl) ?_)
                refine wl_yes rfl rfl rfl rfl rfl (ow_vr (vr_move (v := .bool _) rfl) ?_)
                refine wl_split 125 rfl (fun hc => ?_) (fun hc => ?_)
                · (try simp only [decide_eq_true_eq, decide_eq_false_iff_not, Bool.not_eq_true, Bool.not_eq_false, Bool.not_eq_true', Bool.not_eq_false', Bool.and_eq_true, Bool.or_eq_true, Bool.and_eq_false_iff, Bool.or_eq_false_iff, Int.not_lt, Int.not_le, gt_iff_lt, ge_iff_le, ne_eq, Decidable.not_not, beq_iff_eq] at hc)
                  have h125 := hc; clear hc
                  refine wl_yes rfl rfl rfl rfl rfl (ow_vr (vr_move (v := .int .i64 v) rfl) ?_)
                  refine wl_yes rfl rfl rfl rfl rfl (ow_vr (vr_move (v := .int .i64 v2) rfl) ?_)
                  refine wl_yes rfl rfl rfl rfl rfl (ow_vr (vr_eql rfl rfl) ?_)
                  refine wl_yes rfl rfl rfl rfl rfl (ow_vr (vr_pick (b := true) (v := .bool _) rfl rfl) ?_)
                  refine wl_yes rfl rfl rfl rfl rfl (ow_vr (vr_eqlb Try.underlying4 rfl rfl) ?_)
                  refine wl_op rfl rfl (ow_vr (vr_pick (b := true) (v := .bool _) rfl rfl) ?_)
                  refine wl_op rfl rfl (ow_vr (vr_assign (v := .bool _) rfl) ?_)
                  refine wl_nil ?_
                  refine hK22 _ _ ?_
                  refine cw_ret ?_
                  refine ret_one (fn := Try.f9) (n := 132) (t := 12) (.inl rfl) rfl rfl ?_
                  exact ⟨[], ⟨congrArg Value.bool (by simp_all), rfl⟩, hS.tail1.tail1.tail1.tail1.tail1⟩
                · (try simp only [decide_eq_true_eq, decide_eq_false_iff_not, Bool.not_eq_true, Bool.not_eq_false, Bool.not_eq_true', Bool.not_eq_false', Bool.and_eq_true, Bool.or_eq_true, Bool.and_eq_false_iff, Bool.or_eq_false_iff, Int.not_lt, Int.not_le, gt_iff_lt, ge_iff_le, ne_eq, Decidable.not_not, beq_iff_eq] at hc)
                  have h125 := hc; clear hc
                  refine wl_noD rfl rfl rfl rfl rfl rfl ?_
                  refine wl_noD rfl rfl rfl rfl rfl rfl ?_
                  refine wl_noD rfl rfl rfl rfl rfl rfl ?_
                  refine wl_yes rfl rfl rfl rfl rfl (ow_vr (vr_pick (b := false) (v := .bool _) rfl rfl) ?_)
                  refine wl_yes rfl rfl rfl rfl rfl (ow_vr (vr_eqlb Try.underlying4 rfl rfl) ?_)
                  refine wl_op rfl rfl (ow_vr (vr_pick (b := true) (v := .bool _) rfl rfl) ?_)
                  refine wl_op rfl rfl (ow_vr (vr_assign (v := .bool _) rfl) ?_)
                  refine wl_nil ?_
                  refine hK22 _ _ ?_
                  refine cw_ret ?_
                  refine ret_one (fn := Try.f9) (n := 132) (t := 12) (.inl rfl) rfl rfl ?_
                  exact ⟨[], ⟨congrArg Value.bool (by simp_all), rfl⟩, hS.tail1.tail1.tail1.tail1.tail1⟩
            · (try simp only [decide_eq_true_eq, decide_eq_false_iff_not, Bool.not_eq_true, Bool.not_eq_false, Bool.not_eq_true', Bool.not_eq_false', Bool.and_eq_true, Bool.or_eq_true, Bool.and_eq_false_iff, Bool.or_eq_false_iff, Int.not_lt, Int.not_le, gt_iff_lt, ge_iff_le, ne_eq, Decidable.not_not, beq_iff_eq] at hc)
              have h92 := hc; clear hc
              refine pl_noD rfl (yes_not rfl rfl rfl rfl rfl) ?_
              refine pl_noD rfl (yes_not rfl rfl rfl rfl rfl) ?_
              refine pl_noD rfl (yes_not rfl rfl rfl rfl rfl) ?_
              refine pl_noD rfl (yes_not rfl rfl rfl rfl rfl) ?_
              refine pl_noD rfl (yes_not rfl rfl rfl rfl rfl) ?_
              refine pl_noD rfl (yes_not rfl rfl rfl rfl rfl) ?_
              refine pl_noD rfl (yes_not rfl rfl rfl rfl rfl) ?_
              refine pl_take rfl (yes_none rfl) (vr_pick (b := false) (v := .bool _) rfl rfl) ?_
              refine pl_take rfl (yes_none rfl) (vr_move (v := .bool _) rfl) ?_
              refine pl_noD rfl (yes_not rfl rfl rfl rfl rfl) ?_
              refine pl_noD rfl (yes_not rfl rfl rfl rfl rfl) ?_
              refine pl_noD rfl (yes_not rfl rfl rfl rfl rfl) ?_
              refine pl_noD rfl (yes_not rfl rfl rfl rfl rfl) ?_
              refine pl_noD rfl (yes_not rfl rfl rfl rfl rfl) ?_
              refine pl_noD rfl (yes_not rfl rfl rfl rfl rfl) ?_
              refine pl_noD rfl (yes_not rfl rfl rfl rfl rfl) ?_
              refine pl_take rfl (yes_none rfl) (vr_pick (b := false) (v := .bool _) rfl rfl) ?_
              refine pl_take rfl (yes_none rfl) (vr_assign (v := .bool _) rfl) ?_
              refine pl_nil hS ?_
              clear hS; intro w hS
              refine hK18 _ _ ?_
              refine cw_seq fun K23 hK23 => ?_
              refine cw_region ?_
              refine wl_op rfl rfl (ow_vr (vr_move (v := .int .i64 n2) rfl) ?_)
              refine wl_op rfl rfl (ow_vr (vr_move (v := .int .i64 v2) rfl) ?_)
              refine wl_op rfl rfl (ow_vr (vr_move (v := vx) rfl) ?_)
              refine wl_op rfl rfl (ow_fng (vs := [.int .i64 n2, .int .i64 v2, vx]) en_53 rfl hS (page_At n2 v2 (pagesB (allP no v a)) _ _ hvx (by simp [pagesB]) (by rw [pages_flat (all_length hk1), all_length hk1]; omega)) (by first | exact needs1 (by first | exact List.Mem.head _ | exact List.Mem.tail _ (List.Mem.head _) | exact List.Mem.tail _ (List.Mem.tail _ (List.Mem.head _)) | exact List.Mem.tail _ (List.Mem.tail _ (List.Mem.tail _ (List.Mem.head _))) | exact List.Mem.tail _ (List.Mem.tail _ (List.Mem.tail _ (List.Mem.tail _ (List.Mem.head _)))) | exact List.Mem.tail _ (List.Mem.tail _ (List.Mem.tail _ (List.Mem.tail _ (List.Mem.tail _ (List.Mem.head _))))) | exact List.Mem.tail _ (List.Mem.tail _ (List.Mem.tail _ (List.Mem.tail _ (List.Mem.tail _ (List.Mem.tail _ (List.Mem.head _)))))) | exact List.Mem.tail _ (List.Mem.tail _ (List.Mem.tail _ (List.Mem.tail _ (List.Mem.tail _ (List.Mem.tail _ (List.Mem.tail _ (List.Mem.head _))))))) | exact List.Mem.tail _ (List.Mem.tail _ (List.Mem.tail _ (List.Mem.tail _ (List.Mem.tail _ (List.Mem.tail _ (List.Mem.tail _ (List.Mem.tail _ (List.Mem.head _)))))))) | exact (by assumption) | exact List.Mem.tail _ ((by assumption)) | exact List.Mem.tail _ (List.Mem.tail _ ((by assumption))) | exact List.Mem.tail _ (List.Mem.tail _ (List.Mem.tail _ ((by assumption)))) | exact List.Mem.tail _ (List.Mem.tail _ (List.Mem.tail _ (List.Mem.tail _ ((by assumption))))) | exact List.Mem.tail _ (List.Mem.tail _ (List.Mem.tail _ (List.Mem.tail _ (List.Mem.tail _ ((by assumption))))))) | exact needs0 | exact needs2 (by first | exact List.Mem.head _ | exact List.Mem.tail _ (List.Mem.head _) | exact List.Mem.tail _ (List.Mem.tail _ (List.Mem.head _)) | exact List.Mem.tail _ (List.Mem.tail _ (List.Mem.tail _ (List.Mem.head _))) | exact List.Mem.tail _ (List.Mem.tail _ (List.Mem.tail _ (List.Mem.tail _ (List.Mem.head _)))) | exact List.Mem.tail _ (List.Mem.tail _ (List.Mem.tail _ (List.Mem.tail _ (List.Mem.tail _ (List.Mem.head _))))) | exact List.Mem.tail _ (List.Mem.tail _ (List.Mem.tail _ (List.Mem.tail _ (List.Mem.tail _ (List.Mem.tail _ (List.Mem.head _)))))) | exact List.Mem.tail _ (List.Mem.tail _ (List.Mem.tail _ (List.Mem.tail _ (List.Mem.tail _ (List.Mem.tail _ (List.Mem.tail _ (List.Mem.head _))))))) | exact List.Mem.tail _ (List.Mem.tail _ (List.Mem.tail _ (List.Mem.tail _ (List.Mem.tail _ (List.Mem.tail _ (List.Mem.tail _ (List.Mem.tail _ (List.Mem.head _)))))))) | exact (by assumption) | exact List.Mem.tail _ ((by assumption)) | exact List.Mem.tail _ (List.Mem.tail _ ((by assumption))) | exact List.Mem.tail _ (List.Mem.tail _ (List.Mem.tail _ ((by assumption)))) | exact List.Mem.tail _ (List.Mem.tail _ (List.Mem.tail _ (List.Mem.tail _ ((by assumption))))) | exact List.Mem.tail _ (List.Mem.tail _ (List.Mem.tail _ (List.Mem.tail _ (List.Mem.tail _ ((by assumption))))))) (by first | exact List.Mem.head _ | exact List.Mem.tail _ (List.Mem.head _) | exact List.Mem.tail _ (List.Mem.tail _ (List.Mem.head _)) | exact List.Mem.tail _ (List.Mem.tail _ (List.Mem.tail _ (List.Mem.head _))) | exact List.Mem.tail _ (List.Mem.tail _ (List.Mem.tail _ (List.Mem.tail _ (List.Mem.head _)))) | exact List.Mem.tail _ (List.Mem.tail _ (List.Mem.tail _ (List.Mem.tail _ (List.Mem.tail _ (List.Mem.head _))))) | exact List.Mem.tail _ (List.Mem.tail _ (List.Mem.tail _ (List.Mem.tail _ (List.Mem.tail _ (List.Mem.tail _ (List.Mem.head _)))))) | exact List.Mem.tail _ (List.Mem.tail _ (List.Mem.tail _ (List.Mem.tail _ (List.Mem.tail _ (List.Mem.tail _ (List.Mem.tail _ (List.Mem.head _))))))) | exact List.Mem.tail _ (List.Mem.tail _ (List.Mem.tail _ (List.Mem.tail _ (List.Mem.tail _ (List.Mem.tail _ (List.Mem.tail _ (List.Mem.tail _ (List.Mem.head _)))))))) | exact (by assumption) | exact List.Mem.tail _ ((by assumption)) | exact List.Mem.tail _ (List.Mem.tail _ ((by assumption))) | exact List.Mem.tail _ (List.Mem.tail _ (List.Mem.tail _ ((by assumption)))) | exact List.Mem.tail _ (List.Mem.tail _ (List.Mem.tail _ (List.Mem.tail _ ((by assumption))))) | exact List.Mem.tail _ (List.Mem.tail _ (List.Mem.tail _ (List.Mem.tail _ (List.Mem.tail _ ((by assumption))))))) | exact needs3 (by first | exact List.Mem.head _ | exact List.Mem.tail _ (List.Mem.head _) | exact List.Mem.tail _ (List.Mem.tail _ (List.Mem.head _)) | exact List.Mem.tail _ (List.Mem.tail _ (List.Mem.tail _ (List.Mem.head _))) | exact List.Mem.tail _ (List.Mem.tail _ (List.Mem.tail _ (List.Mem.tail _ (List.Mem.head _)))) | exact List.Mem.tail _ (List.Mem.tail _ (List.Mem.tail _ (List.Mem.tail _ (List.Mem.tail _ (List.Mem.head _))))) | exact List.Mem.tail _ (List.Mem.tail _ (List.Mem.tail _ (List.Mem.tail _ (List.Mem.tail _ (List.Mem.tail _ (List.Mem.head _)))))) | exact List.Mem.tail _ (List.Mem.tail _ (List.Mem.tail _ (List.Mem.tail _ (List.Mem.tail _ (List.Mem.tail _ (List.Mem.tail _ (List.Mem.head _))))))) | exact List.Mem.tail _ (List.Mem.tail _ (List.Mem.tail _ (List.Mem.tail _ (List.Mem.tail _ (List.Mem.tail _ (List.Mem.tail _ (List.Mem.tail _ (List.Mem.head _)))))))) | exact (by assumption) | exact List.Mem.tail _ ((by assumption)) | exact List.Mem.tail _ (List.Mem.tail _ ((by assumption))) | exact List.Mem.tail _ (List.Mem.tail _ (List.Mem.tail _ ((by assumption)))) | exact List.Mem.tail _ (List.Mem.tail _ (List.Mem.tail _ (List.Mem.tail _ ((by assumption))))) | exact List.Mem.tail _ (List.Mem.tail _ (List.Mem.tail _ (List.Mem.tail _ (List.Mem.tail _ ((by assumption))))))) (by first | exact List.Mem.head _ | exact List.Mem.tail _ (List.Mem.head _) | exact List.Mem.tail _ (List.Mem.tail _ (List.Mem.head _)) | exact List.Mem.tail _ (List.Mem.tail _ (List.Mem.tail _ (List.Mem.head _))) | exact List.Mem.tail _ (List.Mem.tail _ (List.Mem.tail _ (List.Mem.tail _ (List.Mem.head _)))) | exact List.Mem.tail _ (List.Mem.tail _ (List.Mem.tail _ (List.Mem.tail _ (List.Mem.tail _ (List.Mem.head _))))) | exact List.Mem.tail _ (List.Mem.tail _ (List.Mem.tail _ (List.Mem.tail _ (List.Mem.tail _ (List.Mem.tail _ (List.Mem.head _)))))) | exact List.Mem.tail _ (List.Mem.tail _ (List.Mem.tail _ (List.Mem.tail _ (List.Mem.tail _ (List.Mem.tail _ (List.Mem.tail _ (List.Mem.head _))))))) | exact List.Mem.tail _ (List.Mem.tail _ (List.Mem.tail _ (List.Mem.tail _ (List.Mem.tail _ (List.Mem.tail _ (List.Mem.tail _ (List.Mem.tail _ (List.Mem.head _)))))))) | exact (by assumption) | exact List.Mem.tail _ ((by assumption)) | exact List.Mem.tail _ (List.Mem.tail _ ((by assumption))) | exact List.Mem.tail _ (List.Mem.tail _ (List.Mem.tail _ ((by assumption)))) | exact List.Mem.tail _ (List.Mem.tail _ (List.Mem.tail _ (List.Mem.tail _ ((by assumption))))) | exact List.Mem.tail _ (List.Mem.tail _ (List.Mem.tail _ (List.Mem.tail _ (List.Mem.tail _ ((by assumption))))))) (by first | exact List.Mem.head _ | exact List.Mem.tail _ (List.Mem.head _) | exact List.Mem.tail _ (List.Mem.tail _ (List.Mem.head _)) | exact List.Mem.tail _ (List.Mem.tail _ (List.Mem.tail _ (List.Mem.head _))) | exact List.Mem.tail _ (List.Mem.tail _ (List.Mem.tail _ (List.Mem.tail _ (List.Mem.head _)))) | exact List.Mem.tail _ (List.Mem.tail _ (List.Mem.tail _ (List.Mem.tail _ (List.Mem.tail _ (List.Mem.head _))))) | exact List.Mem.tail _ (List.Mem.tail _ (List.Mem.tail _ (List.Mem.tail _ (List.Mem.tail _ (List.Mem.tail _ (List.Mem.head _)))))) | exact List.Mem.tail _ (List.Mem.tail _ (List.Mem.tail _ (List.Mem.tail _ (List.Mem.tail _ (List.Mem.tail _ (List.Mem.tail _ (List.Mem.head _))))))) | exact List.Mem.tail _ (List.Mem.tail _ (List.Mem.tail _ (List.Mem.tail _ (List.Mem.tail _ (List.Mem.tail _ (List.Mem.tail _ (List.Mem.tail _ (List.Mem.head _)))))))) | exact (by assumption) | exact List.Mem.tail _ ((by assumption)) | exact List.Mem.tail _ (List.Mem.tail _ ((by assumption))) | exact List.Mem.tail _ (List.Mem.tail _ (List.Mem.tail _ ((by assumption)))) | exact List.Mem.tail _ (List.Mem.tail _ (List.Mem.tail _ (List.Mem.tail _ ((by assumption))))) | exact List.Mem.tail _ (List.Mem.tail _ (List.Mem.tail _ (List.Mem.tail _ (List.Mem.tail _ ((by assumption)))))))) ?_)
              clear hS; rintro v114 _ w ⟨vq, Dq, rfl, rfl, hoq⟩ hS; (try simp only [List.cons_append, List.nil_append] at hS)
              refine wl_op rfl rfl (ow_vr (vr_move (v := .tuple _) rfl) ?_)
              refine wl_op rfl rfl (ow_vr (vr_extract (v := vq) rfl rfl) ?_)
              refine wl_op rfl rfl (ow_vr (vr_extract (v := .bool _) rfl rfl) ?_)
              refine wl_op rfl rfl (ow_vr (vr_assign (v := vq) rfl) ?_)
              refine wl_op rfl rfl (ow_vr (vr_assign (v := .bool _) rfl) ?_)
              refine wl_nil ?_
              refine hK23 _ _ ?_
              refine cw_seq fun K24 hK24 => ?_
              have hinj := pages_inj hk1 hk2
              rw [pages_three] at hinj
              have hat := at_pages (m := n2) (w := v2) hk1
              refine cw_region ?_
              refine wl_op rfl rfl (ow_vr (vr_move (v := .bool _) rfl) ?_)
              refine wl_op rfl rfl (ow_vr (vr_move (v := .bool same) rfl) ?_)
              refine wl_op rfl rfl (ow_vr (vr_eqlb Try.underlying4 rfl rfl) ?_)
              refine wl_op rfl rfl (ow_vr (vr_move (v := .bool _) rfl) ?_)
              refine wl_known 120 rfl (c := true) (by (simp_all) <;> (by_cases hvv : v = v2 <;> simp_all)) ?_
              refine wl_yes rfl rfl rfl rfl rfl (ow_vr (vr_move (v := .bool _) rfl) ?_)
              refine wl_yes rfl rfl rfl rfl rfl (ow_vr (vr_move (v := .int .i64 no) rfl) ?_)
              refine wl_yes rfl rfl rfl rfl rfl (ow_vr (vr_move (v := .int .i64 n2) rfl) ?_)
              refine wl_yes rfl rfl rfl rfl rfl (ow_vr (vr_eql rfl rfl) ?_)
              refine wl_yes rfl rfl rfl rfl rfl (ow_vr (vr_move (v := .bool _) rfl) ?_)
              refine wl_split 125 rfl (fun hc => ?_) (fun hc => ?_)
              · (try simp only [decide_eq_true_eq, decide_eq_false_iff_not, Bool.not_eq_true, Bool.not_eq_false, Bool.not_eq_true', Bool.not_eq_false', Bool.and_eq_true, Bool.or_eq_true, Bool.and_eq_false_iff, Bool.or_eq_false_iff, Int.not_lt, Int.not_le, gt_iff_lt, ge_iff_le, ne_eq, Decidable.not_not, beq_iff_eq] at hc)
                have h125 := hc; clear hc
                refine wl_yes rfl rfl rfl rfl rfl (ow_vr (vr_move (v := .int .i64 v) rfl) ?_)
                refine wl_yes rfl rfl rfl rfl rfl (ow_vr (vr_move (v := .int .i64 v2) rfl) ?_)
                refine wl_yes rfl rfl rfl rfl rfl (ow_vr (vr_eql rfl rfl) ?_)
                refine wl_yes rfl rfl rfl rfl rfl (ow_vr (vr_pick (b := true) (v := .bool _) rfl rfl) ?_)
                refine wl_yes rfl rfl rfl rfl rfl (ow_vr (vr_eqlb Try.underlying4 rfl rfl) ?_)
                refine wl_op rfl rfl (ow_vr (vr_pick (b := true) (v := .bool _) rfl rfl) ?_)
                refine wl_op rfl rfl (ow_vr (vr_assign (v := .bool _) rfl) ?_)
                refine wl_nil ?_
                refine hK24 _ _ ?_
                refine cw_ret ?_
                refine ret_one (fn := Try.f9) (n := 132) (t := 12) (.inl rfl) rfl rfl ?_
                exact ⟨[], ⟨congrArg Value.bool (by simp_all), rfl⟩, hS.tail1.tail1.tail1.tail1.tail1⟩
              · (try simp only [decide_eq_true_eq, decide_eq_false_iff_not, Bool.not_eq_true, Bool.not_eq_false, Bool.not_eq_true', Bool.not_eq_false', Bool.and_eq_true, Bool.or_eq_true, Bool.and_eq_false_iff, Bool.or_eq_false_iff, Int.not_lt, Int.not_le, gt_iff_lt, ge_iff_le, ne_eq, Decidable.not_not, beq_iff_eq] at hc)
                have h125 := hc; clear hc
                refine wl_noD rfl rfl rfl rfl rfl rfl ?_
                refine wl_noD rfl rfl rfl rfl rfl rfl ?_
                refine wl_noD rfl rfl rfl rfl rfl rfl ?_
                refine wl_yes rfl rfl rfl rfl rfl (ow_vr (vr_pick (b := false) (v := .bool _) rfl rfl) ?_)
                refine wl_yes rfl rfl rfl rfl rfl (ow_vr (vr_eqlb Try.underlying4 rfl rfl) ?_)
                refine wl_op rfl rfl (ow_vr (vr_pick (b := true) (v := .bool _) rfl rfl) ?_)
                refine wl_op rfl rfl (ow_vr (vr_assign (v := .bool _) rfl) ?_)
                refine wl_nil ?_
                refine hK24 _ _ ?_
                refine cw_ret ?_
                refine ret_one (fn := Try.f9) (n := 132) (t := 12) (.inl rfl) rfl rfl ?_
                exact ⟨[], ⟨congrArg Value.bool (by simp_all), rfl⟩, hS.tail1.tail1.tail1.tail1.tail1⟩
        · (try simp only [decide_eq_true_eq, decide_eq_false_iff_not, Bool.not_eq_true, Bool.not_eq_false, Bool.not_eq_true', Bool.not_eq_false', Bool.and_eq_true, Bool.or_eq_true, Bool.and_eq_false_iff, Bool.or_eq_false_iff, Int.not_lt, Int.not_le, gt_iff_lt, ge_iff_le, ne_eq, Decidable.not_not, beq_iff_eq] at hc)
          have hnm := hc; clear hc
          refine wl_noD rfl rfl rfl rfl rfl rfl ?_
          refine wl_noD rfl rfl rfl rfl rfl rfl ?_
          refine wl_noD rfl rfl rfl rfl rfl rfl ?_
          refine wl_op rfl rfl (ow_vr (vr_pick (b := false) (v := .bool _) rfl rfl) ?_)
          refine wl_op rfl rfl (ow_vr (vr_assign (v := .bool _) rfl) ?_)
          refine wl_nil ?_
          refine hK12 _ _ ?_
          refine cw_seq fun K25 hK25 => ?_
          refine cw_seq fun K26 hK26 => ?_
          refine cw_region ?_
          refine wl_op rfl rfl (ow_vr (vr_assign (v := .int .i64 0) rfl) ?_)
          refine wl_nil ?_
          refine hK26 _ _ ?_
          refine cw_block ?_
          refine cw_loop (fun m f w => ∃ (i : Nat) (same : Bool) (g : Nat → Value), f = (upd (upd (upd (upd (upd (upd (upd (upd (upd (upd g 0 (.int .i64 no)) 1 (.int .i64 v)) 2 (.int .i64 n2)) 3 (.int .i64 v2)) 4 (v23)) 5 (v25)) 13 (vx)) 15 (vy)) 17 (.bool same)) 18 (.int .i64 (i : Int))) ∧ (i ≤ 16 ∧ same = decide ((no = n2 ∧ v = v2) ∧ a.take i = b.take i)) ∧ m = 16 - i ∧ Sat E (Dy :: Dx :: DB :: DA :: F) w) ⟨0, _, _, (reb (reb (reb (reb (reb (reb (reb (reb (reb (reb rfl rfl) rfl) rfl) rfl) rfl) rfl) rfl) rfl) rfl) rfl), ?_, rfl, hS⟩ ?_
          · exact ⟨by omega, by simp_all⟩
          clear hS; rintro m f w ⟨i, same, g, rfl, hI0, rfl, hS⟩
          obtain ⟨hi, hsm⟩ := hI0
          refine cw_seq fun K27 hK27 => ?_
          refine cw_seq fun K28 hK28 => ?_
          refine cw_region ?_
          refine wl_op rfl rfl (ow_vr (vr_move (v := .int .i64 (i : Int)) rfl) ?_)
          refine wl_op rfl rfl (ow_vr (vr_move (v := v23) rfl) ?_)
          refine wl_op rfl rfl (ow_vr (vr_len_v (v := v23) Try.underlying23 rfl hvA) ?_)
          refine wl_op rfl rfl (ow_vr (vr_lss rfl rfl) ?_)
          refine wl_nil ?_
          refine hK28 _ _ ?_
          refine cw_cond rfl rfl (fun hc => ?_) (fun hc => ?_)
          · (try simp only [decide_eq_true_eq, decide_eq_false_iff_not, Bool.not_eq_true, Bool.not_eq_false, Bool.not_eq_true', Bool.not_eq_false', Bool.and_eq_true, Bool.or_eq_true, Bool.and_eq_false_iff, Bool.or_eq_false_iff, Int.not_lt, Int.not_le, gt_iff_lt, ge_iff_le, ne_eq, Decidable.not_not, beq_iff_eq] at hc)
            have hc2 := hc; clear hc
            refine cw_skip ?_
            refine hK27 _ _ ?_
            refine cw_seq fun K29 hK29 => ?_
            refine cw_block ?_
            obtain ⟨x, hx⟩ := get_lt (xs := a) (k := i) (by omega)
            obtain ⟨y, hy⟩ := get_lt (xs := b) (k := i) (by omega)
            refine cw_draw_sat hS [(0, 0), (1, 0), (2, 0), (3, 0), (4, 0), (5, 1), (6, 0), (7, 0), (8, 0), (9, 1), (10, 0), (11, 0), (12, 0)] mixed (planFast_ok (by kernel_rfl)) (by rintro _ _ _ ⟨⟩) ?_
            clear hS; intro w hS
            refine pl_take rfl (yes_none rfl) (vr_move (v := .bool same) rfl) ?_
            refine pl_take rfl (yes_none rfl) (vr_move (v := .bool same) rfl) ?_
            refine pl_split 74 rfl (fun hc => ?_) (fun hc => ?_)
            · (try simp only [decide_eq_true_eq, decide_eq_false_iff_not, Bool.not_eq_true, Bool.not_eq_false, Bool.not_eq_true', Bool.not_eq_false', Bool.and_eq_true, Bool.or_eq_true, Bool.and_eq_false_iff, Bool.or_eq_false_iff, Int.not_lt, Int.not_le, gt_iff_lt, ge_iff_le, ne_eq, Decidable.not_not, beq_iff_eq] at hc)
              have hsame := hc; clear hc
              refine pl_take rfl (yes_some rfl rfl rfl rfl) (vr_move (v := v23) rfl) ?_
              refine pl_take rfl (yes_some rfl rfl rfl rfl) (vr_move (v := .int .i64 (i : Int)) rfl) ?_
              refine pl_take rfl (yes_some rfl rfl rfl rfl) (vr_indexV (v := v23) Try.underlying23 sz_3 rfl hvA rfl (by omega) (by omega)) ?_
              refine pl_load rfl (yes_some rfl rfl rfl rfl) (lr_loadV1 (u := .int .i64 _) Try.underlying3 rfl rfl hvA (by first | exact List.Mem.head _ | exact List.Mem.tail _ (List.Mem.head _) | exact List.Mem.tail _ (List.Mem.tail _ (List.Mem.head _)) | exact List.Mem.tail _ (List.Mem.tail _ (List.Mem.tail _ (List.Mem.head _))) | exact List.Mem.tail _ (List.Mem.tail _ (List.Mem.tail _ (List.Mem.tail _ (List.Mem.head _)))) | exact List.Mem.tail _ (List.Mem.tail _ (List.Mem.tail _ (List.Mem.tail _ (List.Mem.tail _ (List.Mem.head _))))) | exact List.Mem.tail _ (List.Mem.tail _ (List.Mem.tail _ (List.Mem.tail _ (List.Mem.tail _ (List.Mem.tail _ (List.Mem.head _)))))) | exact List.Mem.tail _ (List.Mem.tail _ (List.Mem.tail _ (List.Mem.tail _ (List.Mem.tail _ (List.Mem.tail _ (List.Mem.tail _ (List.Mem.head _))))))) | exact List.Mem.tail _ (List.Mem.tail _ (List.Mem.tail _ (List.Mem.tail _ (List.Mem.tail _ (List.Mem.tail _ (List.Mem.tail _ (List.Mem.tail _ (List.Mem.head _)))))))) | exact (by assumption) | exact List.Mem.tail _ ((by assumption)) | exact List.Mem.tail _ (List.Mem.tail _ ((by assumption))) | exact List.Mem.tail _ (List.Mem.tail _ (List.Mem.tail _ ((by assumption)))) | exact List.Mem.tail _ (List.Mem.tail _ (List.Mem.tail _ (List.Mem.tail _ ((by assumption))))) | exact List.Mem.tail _ (List.Mem.tail _ (List.Mem.tail _ (List.Mem.tail _ (List.Mem.tail _ ((by assumption))))))) (hx) (by exact fun _ => rfl) (by rfl)) ?_
              refine pl_take rfl (yes_some rfl rfl rfl rfl) (vr_move (v := v25) rfl) ?_
              refine pl_take rfl (yes_some rfl rfl rfl rfl) (vr_move (v := .int .i64 (i : Int)) rfl) ?_
              refine pl_take rfl (yes_some rfl rfl rfl rfl) (vr_indexV (v := v25) Try.underlying23 sz_3 rfl hvB rfl (by omega) (by omega)) ?_
              refine pl_load rfl (yes_some rfl rfl rfl rfl) (lr_loadV1 (u := .int .i64 _) Try.underlying3 rfl rfl hvB (by first | exact List.Mem.head _ | exact List.Mem.tail _ (List.Mem.head _) | exact List.Mem.tail _ (List.Mem.tail _ (List.Mem.head _)) | exact List.Mem.tail _ (List.Mem.tail _ (List.Mem.tail _ (List.Mem.head _))) | exact List.Mem.tail _ (List.Mem.tail _ (List.Mem.tail _ (List.Mem.tail _ (List.Mem.head _)))) | exact List.Mem.tail _ (List.Mem.tail _ (List.Mem.tail _ (List.Mem.tail _ (List.Mem.tail _ (List.Mem.head _))))) | exact List.Mem.tail _ (List.Mem.tail _ (List.Mem.tail _ (List.Mem.tail _ (List.Mem.tail _ (List.Mem.tail _ (List.Mem.head _)))))) | exact List.Mem.tail _ (List.Mem.tail _ (List.Mem.tail _ (List.Mem.tail _ (List.Mem.tail _ (List.Mem.tail _ (List.Mem.tail _ (List.Mem.head _))))))) | exact List.Mem.tail _ (List.Mem.tail _ (List.Mem.tail _ (List.Mem.tail _ (List.Mem.tail _ (List.Mem.tail _ (List.Mem.tail _ (List.Mem.tail _ (List.Mem.head _)))))))) | exact (by assumption) | exact List.Mem.tail _ ((by assumption)) | exact List.Mem.tail _ (List.Mem.tail _ ((by assumption))) | exact List.Mem.tail _ (List.Mem.tail _ (List.Mem.tail _ ((by assumption)))) | exact List.Mem.tail _ (List.Mem.tail _ (List.Mem.tail _ (List.Mem.tail _ ((by assumption))))) | exact List.Mem.tail _ (List.Mem.tail _ (List.Mem.tail _ (List.Mem.tail _ (List.Mem.tail _ ((by assumption))))))) (hy) (by exact fun _ => rfl) (by rfl)) ?_
              refine pl_take rfl (yes_some rfl rfl rfl rfl) (vr_eql rfl rfl) ?_
              refine pl_take rfl (yes_none rfl) (vr_pick (b := true) (v := .bool _) rfl rfl) ?_
              refine pl_take rfl (yes_none rfl) (vr_assign (v := .bool _) rfl) ?_
              refine pl_nil hS ?_
              clear hS; intro w hS
              refine hK29 _ _ ?_
              refine cw_region ?_
              refine wl_op rfl rfl (ow_vr (vr_move (v := .int .i64 (i : Int)) rfl) ?_)
              first | (refine wl_op rfl rfl (ow_vr (vr_addi rfl rfl (by unfold inI64; omega)) ?_)) | (refine wl_op rfl rfl (ow_vr (vr_add rfl rfl) ?_))
              refine wl_op rfl rfl (ow_vr (vr_assign (v := .int .i64 _) rfl) ?_)
              refine wl_nil ?_
              refine thenF_normal ⟨_, ?_, i + 1, _, _, (reb (reb (reb (reb (reb (reb (reb (reb (reb (reb rfl rfl) rfl) rfl) rfl) rfl) rfl) rfl) rfl) rfl) rfl), ?_, rfl, hS⟩
              · omega
              · exact ⟨by omega, by rw [take_snoc hx, take_snoc hy]; simp_all⟩
            · (try simp only [decide_eq_true_eq, decide_eq_false_iff_not, Bool.not_eq_true, Bool.not_eq_false, Bool.not_eq_true', Bool.not_eq_false', Bool.and_eq_true, Bool.or_eq_true, Bool.and_eq_false_iff, Bool.or_eq_false_iff, Int.not_lt, Int.not_le, gt_iff_lt, ge_iff_le, ne_eq, Decidable.not_not, beq_iff_eq] at hc)
              have hsame := hc; clear hc
              refine pl_noD rfl (yes_not rfl rfl rfl rfl rfl) ?_
              refine pl_noD rfl (yes_not rfl rfl rfl rfl rfl) ?_
              refine pl_noD rfl (yes_not rfl rfl rfl rfl rfl) ?_
              refine pl_noD rfl (yes_not rfl rfl rfl rfl rfl) ?_
              refine pl_noD rfl (yes_not rfl rfl rfl rfl rfl) ?_
              refine pl_noD rfl (yes_not rfl rfl rfl rfl rfl) ?_
              refine pl_noD rfl (yes_not rfl rfl rfl rfl rfl) ?_
              refine pl_noD rfl (yes_not rfl rfl rfl rfl rfl) ?_
              refine pl_noD rfl (yes_not rfl rfl rfl rfl rfl) ?_
              refine pl_take rfl (yes_none rfl) (vr_pick (b := false) (v := .bool _) rfl rfl) ?_
              refine pl_take rfl (yes_none rfl) (vr_assign (v := .bool _) rfl) ?_
              refine pl_nil hS ?_
              clear hS; intro w hS
              refine hK29 _ _ ?_
              refine cw_region ?_
              refine wl_op rfl rfl (ow_vr (vr_move (v := .int .i64 (i : Int)) rfl) ?_)
              first | (refine wl_op rfl rfl (ow_vr (vr_addi rfl rfl (by unfold inI64; omega)) ?_)) | (refine wl_op rfl rfl (ow_vr (vr_add rfl rfl) ?_))
              refine wl_op rfl rfl (ow_vr (vr_assign (v := .int .i64 _) rfl) ?_)
              refine wl_nil ?_
              refine thenF_normal ⟨_, ?_, i + 1, _, _, (reb (reb (reb (reb (reb (reb (reb (reb (reb (reb rfl rfl) rfl) rfl) rfl) rfl) rfl) rfl) rfl) rfl) rfl), ?_, rfl, hS⟩
              · omega
              · exact ⟨by omega, by rw [take_snoc hx, take_snoc hy]; simp_all⟩
          · (try simp only [decide_eq_true_eq, decide_eq_false_iff_not, Bool.not_eq_true, Bool.not_eq_false, Bool.not_eq_true', Bool.not_eq_false', Bool.and_eq_true, Bool.or_eq_true, Bool.and_eq_false_iff, Bool.or_eq_false_iff, Int.not_lt, Int.not_le, gt_iff_lt, ge_iff_le, ne_eq, Decidable.not_not, beq_iff_eq] at hc)
            have hc2 := hc; clear hc
            refine cw_exit ?_
            refine hK25 _ _ ?_
            refine cw_seq fun K30 hK30 => ?_
            obtain rfl : i = 16 := by omega
            rw [List.take_of_length_le (by omega), List.take_of_length_le (by omega)] at hsm
            refine cw_draw_sat hS [(0, 0), (1, 0), (2, 1), (3, 0), (4, 0), (5, 1), (6, 0), (7, 0), (8, 0), (9, 0), (10, 1), (11, 0), (12, 0), (13, 1), (14, 0), (15, 0), (16, 0), (17, 0), (18, 0), (19, 1), (20, 0), (21, 0), (22, 1), (23, 0), (24, 0), (25, 0)] mixed (planFast_ok (by kernel_rfl)) (by rintro _ _ _ ⟨⟩) ?_
            clear hS; intro w hS
            refine pl_take rfl (yes_none rfl) (vr_move (v := vx) rfl) ?_
            refine pl_take rfl (yes_none rfl) (vr_indexV (v := vx) Try.underlying22 sz_9 rfl hvx rfl (by omega) (by simp [pagesB])) ?_
            refine pl_load rfl (yes_none rfl) (lr_loadV1 (u := str _) Try.underlying9 rfl rfl hvx (by first | exact List.Mem.head _ | exact List.Mem.tail _ (List.Mem.head _) | exact List.Mem.tail _ (List.Mem.tail _ (List.Mem.head _)) | exact List.Mem.tail _ (List.Mem.tail _ (List.Mem.tail _ (List.Mem.head _))) | exact List.Mem.tail _ (List.Mem.tail _ (List.Mem.tail _ (List.Mem.tail _ (List.Mem.head _)))) | exact List.Mem.tail _ (List.Mem.tail _ (List.Mem.tail _ (List.Mem.tail _ (List.Mem.tail _ (List.Mem.head _))))) | exact List.Mem.tail _ (List.Mem.tail _ (List.Mem.tail _ (List.Mem.tail _ (List.Mem.tail _ (List.Mem.tail _ (List.Mem.head _)))))) | exact List.Mem.tail _ (List.Mem.tail _ (List.Mem.tail _ (List.Mem.tail _ (List.Mem.tail _ (List.Mem.tail _ (List.Mem.tail _ (List.Mem.head _))))))) | exact List.Mem.tail _ (List.Mem.tail _ (List.Mem.tail _ (List.Mem.tail _ (List.Mem.tail _ (List.Mem.tail _ (List.Mem.tail _ (List.Mem.tail _ (List.Mem.head _)))))))) | exact (by assumption) | exact List.Mem.tail _ ((by assumption)) | exact List.Mem.tail _ (List.Mem.tail _ ((by assumption))) | exact List.Mem.tail _ (List.Mem.tail _ (List.Mem.tail _ ((by assumption)))) | exact List.Mem.tail _ (List.Mem.tail _ (List.Mem.tail _ (List.Mem.tail _ ((by assumption))))) | exact List.Mem.tail _ (List.Mem.tail _ (List.Mem.tail _ (List.Mem.tail _ (List.Mem.tail _ ((by assumption))))))) ((rfl : (pagesB (allP no v a))[0]? = some (chunkB (allP no v a) 0))) (by exact fun _ => rfl) (by rfl)) ?_
            refine pl_take rfl (yes_none rfl) (vr_move (v := vy) rfl) ?_
            refine pl_take rfl (yes_none rfl) (vr_indexV (v := vy) Try.underlying22 sz_9 rfl hvy rfl (by omega) (by simp [pagesB])) ?_
            refine pl_load rfl (yes_none rfl) (lr_loadV1 (u := str _) Try.underlying9 rfl rfl hvy (by first | exact List.Mem.head _ | exact List.Mem.tail _ (List.Mem.head _) | exact List.Mem.tail _ (List.Mem.tail _ (List.Mem.head _)) | exact List.Mem.tail _ (List.Mem.tail _ (List.Mem.tail _ (List.Mem.head _))) | exact List.Mem.tail _ (List.Mem.tail _ (List.Mem.tail _ (List.Mem.tail _ (List.Mem.head _)))) | exact List.Mem.tail _ (List.Mem.tail _ (List.Mem.tail _ (List.Mem.tail _ (List.Mem.tail _ (List.Mem.head _))))) | exact List.Mem.tail _ (List.Mem.tail _ (List.Mem.tail _ (List.Mem.tail _ (List.Mem.tail _ (List.Mem.tail _ (List.Mem.head _)))))) | exact List.Mem.tail _ (List.Mem.tail _ (List.Mem.tail _ (List.Mem.tail _ (List.Mem.tail _ (List.Mem.tail _ (List.Mem.tail _ (List.Mem.head _))))))) | exact List.Mem.tail _ (List.Mem.tail _ (List.Mem.tail _ (List.Mem.tail _ (List.Mem.tail _ (List.Mem.tail _ (List.Mem.tail _ (List.Mem.tail _ (List.Mem.head _)))))))) | exact (by assumption) | exact List.Mem.tail _ ((by assumption)) | exact List.Mem.tail _ (List.Mem.tail _ ((by assumption))) | exact List.Mem.tail _ (List.Mem.tail _ (List.Mem.tail _ ((by assumption)))) | exact List.Mem.tail _ (List.Mem.tail _ (List.Mem.tail _ (List.Mem.tail _ ((by assumption))))) | exact List.Mem.tail _ (List.Mem.tail _ (List.Mem.tail _ (List.Mem.tail _ (List.Mem.tail _ ((by assumption))))))) ((rfl : (pagesB (allP n2 v2 b))[0]? = some (chunkB (allP n2 v2 b) 0))) (by exact fun _ => rfl) (by rfl)) ?_
            refine pl_take rfl (yes_none rfl) (vr_eql_s rfl rfl) ?_
            refine pl_take rfl (yes_none rfl) (vr_move (v := .bool _) rfl) ?_
            refine pl_split 92 rfl (fun hc => ?_) (fun hc => ?_)
            · (try simp only [decide_eq_true_eq, decide_eq_false_iff_not, Bool.not_eq_true, Bool.not_eq_false, Bool.not_eq_true', Bool.not_eq_false', Bool.and_eq_true, Bool.or_eq_true, Bool.and_eq_false_iff, Bool.or_eq_false_iff, Int.not_lt, Int.not_le, gt_iff_lt, ge_iff_le, ne_eq, Decidable.not_not, beq_iff_eq] at hc)
              have h92 := hc; clear hc
              refine pl_take rfl (yes_some rfl rfl rfl rfl) (vr_move (v := vx) rfl) ?_
              refine pl_take rfl (yes_some rfl rfl rfl rfl) (vr_indexV (v := vx) Try.underlying22 sz_9 rfl hvx rfl (by omega) (by simp [pagesB])) ?_
              refine pl_load rfl (yes_some rfl rfl rfl rfl) (lr_loadV1 (u := str _) Try.underlying9 rfl rfl hvx (by first | exact List.Mem.head _ | exact List.Mem.tail _ (List.Mem.head _) | exact List.Mem.tail _ (List.Mem.tail _ (List.Mem.head _)) | exact List.Mem.tail _ (List.Mem.tail _ (List.Mem.tail _ (List.Mem.head _))) | exact List.Mem.tail _ (List.Mem.tail _ (List.Mem.tail _ (List.Mem.tail _ (List.Mem.head _)))) | exact List.Mem.tail _ (List.Mem.tail _ (List.Mem.tail _ (List.Mem.tail _ (List.Mem.tail _ (List.Mem.head _))))) | exact List.Mem.tail _ (List.Mem.tail _ (List.Mem.tail _ (List.Mem.tail _ (List.Mem.tail _ (List.Mem.tail _ (List.Mem.head _)))))) | exact List.Mem.tail _ (List.Mem.tail _ (List.Mem.tail _ (List.Mem.tail _ (List.Mem.tail _ (List.Mem.tail _ (List.Mem.tail _ (List.Mem.head _))))))) | exact List.Mem.tail _ (List.Mem.tail _ (List.Mem.tail _ (List.Mem.tail _ (List.Mem.tail _ (List.Mem.tail _ (List.Mem.tail _ (List.Mem.tail _ (List.Mem.head _)))))))) | exact (by assumption) | exact List.Mem.tail _ ((by assumption)) | exact List.Mem.tail _ (List.Mem.tail _ ((by assumption))) | exact List.Mem.tail _ (List.Mem.tail _ (List.Mem.tail _ ((by assumption)))) | exact List.Mem.tail _ (List.Mem.tail _ (List.Mem.tail _ (List.Mem.tail _ ((by assumption))))) | exact List.Mem.tail _ (List.Mem.tail _ (List.Mem.tail _ (List.Mem.tail _ (List.Mem.tail _ ((by assumption))))))) ((rfl : (pagesB (allP no v a))[1]? = some (chunkB (allP no v a) 1))) (by exact fun _ => rfl) (by rfl)) ?_
              refine pl_take rfl (yes_some rfl rfl rfl rfl) (vr_move (v := vy) rfl) ?_
              refine pl_take rfl (yes_some rfl rfl rfl rfl) (vr_indexV (v := vy) Try.underlying22 sz_9 rfl hvy rfl (by omega) (by simp [pagesB])) ?_
              refine pl_load rfl (yes_some rfl rfl rfl rfl) (lr_loadV1 (u := str _) Try.underlying9 rfl rfl hvy (by first | exact List.Mem.head _ | exact List.Mem.tail _ (List.Mem.head _) | exact List.Mem.tail _ (List.Mem.tail _ (List.Mem.head _)) | exact List.Mem.tail _ (List.Mem.tail _ (List.Mem.tail _ (List.Mem.head _))) | exact List.Mem.tail _ (List.Mem.tail _ (List.Mem.tail _ (List.Mem.tail _ (List.Mem.head _)))) | exact List.Mem.tail _ (List.Mem.tail _ (List.Mem.tail _ (List.Mem.tail _ (List.Mem.tail _ (List.Mem.head _))))) | exact List.Mem.tail _ (List.Mem.tail _ (List.Mem.tail _ (List.Mem.tail _ (List.Mem.tail _ (List.Mem.tail _ (List.Mem.head _)))))) | exact List.Mem.tail _ (List.Mem.tail _ (List.Mem.tail _ (List.Mem.tail _ (List.Mem.tail _ (List.Mem.tail _ (List.Mem.tail _ (List.Mem.head _))))))) | exact List.Mem.tail _ (List.Mem.tail _ (List.Mem.tail _ (List.Mem.tail _ (List.Mem.tail _ (List.Mem.tail _ (List.Mem.tail _ (List.Mem.tail _ (List.Mem.head _)))))))) | exact (by assumption) | exact List.Mem.tail _ ((by assumption)) | exact List.Mem.tail _ (List.Mem.tail _ ((by assumption))) | exact List.Mem.tail _ (List.Mem.tail _ (List.Mem.tail _ ((by assumption)))) | exact List.Mem.tail _ (List.Mem.tail _ (List.Mem.tail _ (List.Mem.tail _ ((by assumption))))) | exact List.Mem.tail _ (List.Mem.tail _ (List.Mem.tail _ (List.Mem.tail _ (List.Mem.tail _ ((by assumption))))))) ((rfl : (pagesB (allP n2 v2 b))[1]? = some (chunkB (allP n2 v2 b) 1))) (by exact fun _ => rfl) (by rfl)) ?_
              refine pl_take rfl (yes_some rfl rfl rfl rfl) (vr_eql_s rfl rfl) ?_
              refine pl_take rfl (yes_none rfl) (vr_pick (b := true) (v := .bool _) rfl rfl) ?_
              refine pl_take rfl (yes_none rfl) (vr_move (v := .bool _) rfl) ?_
              refine pl_split 101 rfl (fun hc => ?_) (fun hc => ?_)
              · (try simp only [decide_eq_true_eq, decide_eq_false_iff_not, Bool.not_eq_true, Bool.not_eq_false, Bool.not_eq_true', Bool.not_eq_false', Bool.and_eq_true, Bool.or_eq_true, Bool.and_eq_false_iff, Bool.or_eq_false_iff, Int.not_lt, Int.not_le, gt_iff_lt, ge_iff_le, ne_eq, Decidable.not_not, beq_iff_eq] at hc)
                have h101 := hc; clear hc
                refine pl_take rfl (yes_some rfl rfl rfl rfl) (vr_move (v := vx) rfl) ?_
                refine pl_take rfl (yes_some rfl rfl rfl rfl) (vr_indexV (v := vx) Try.underlying22 sz_9 rfl hvx rfl (by omega) (by simp [pagesB])) ?_
                refine pl_load rfl (yes_some rfl rfl rfl rfl) (lr_loadV1 (u := str _) Try.underlying9 rfl rfl hvx (by first | exact List.Mem.head _ | exact List.Mem.tail _ (List.Mem.head _) | exact List.Mem.tail _ (List.Mem.tail _ (List.Mem.head _)) | exact List.Mem.tail _ (List.Mem.tail _ (List.Mem.tail _ (List.Mem.head _))) | exact List.Mem.tail _ (List.Mem.tail _ (List.Mem.tail _ (List.Mem.tail _ (List.Mem.head _)))) | exact List.Mem.tail _ (List.Mem.tail _ (List.Mem.tail _ (List.Mem.tail _ (List.Mem.tail _ (List.Mem.head _))))) | exact List.Mem.tail _ (List.Mem.tail _ (List.Mem.tail _ (List.Mem.tail _ (List.Mem.tail _ (List.Mem.tail _ (List.Mem.head _)))))) | exact List.Mem.tail _ (List.Mem.tail _ (List.Mem.tail _ (List.Mem.tail _ (List.Mem.tail _ (List.Mem.tail _ (List.Mem.tail _ (List.Mem.head _))))))) | exact List.Mem.tail _ (List.Mem.tail _ (List.Mem.tail _ (List.Mem.tail _ (List.Mem.tail _ (List.Mem.tail _ (List.Mem.tail _ (List.Mem.tail _ (List.Mem.head _)))))))) | exact (by assumption) | exact List.Mem.tail _ ((by assumption)) | exact List.Mem.tail _ (List.Mem.tail _ ((by assumption))) | exact List.Mem.tail _ (List.Mem.tail _ (List.Mem.tail _ ((by assumption)))) | exact List.Mem.tail _ (List.Mem.tail _ (List.Mem.tail _ (List.Mem.tail _ ((by assumption))))) | exact List.Mem.tail _ (List.Mem.tail _ (List.Mem.tail _ (List.Mem.tail _ (List.Mem.tail _ ((by assumption))))))) ((rfl : (pagesB (allP no v a))[2]? = some (chunkB (allP no v a) 2))) (by exact fun _ => rfl) (by rfl)) ?_
                refine pl_take rfl (yes_some rfl rfl rfl rfl) (vr_move (v := vy) rfl) ?_
                refine pl_take rfl (yes_some rfl rfl rfl rfl) (vr_indexV (v := vy) Try.underlying22 sz_9 rfl hvy rfl (by omega) (by simp [pagesB])) ?_
                refine pl_load rfl (yes_some rfl rfl rfl rfl) (lr_loadV1 (u := str _) Try.underlying9 rfl rfl hvy (by first | exact List.Mem.head _ | exact List.Mem.tail _ (List.Mem.head _) | exact List.Mem.tail _ (List.Mem.tail _ (List.Mem.head _)) | exact List.Mem.tail _ (List.Mem.tail _ (List.Mem.tail _ (List.Mem.head _))) | exact List.Mem.tail _ (List.Mem.tail _ (List.Mem.tail _ (List.Mem.tail _ (List.Mem.head _)))) | exact List.Mem.tail _ (List.Mem.tail _ (List.Mem.tail _ (List.Mem.tail _ (List.Mem.tail _ (List.Mem.head _))))) | exact List.Mem.tail _ (List.Mem.tail _ (List.Mem.tail _ (List.Mem.tail _ (List.Mem.tail _ (List.Mem.tail _ (List.Mem.head _)))))) | exact List.Mem.tail _ (List.Mem.tail _ (List.Mem.tail _ (List.Mem.tail _ (List.Mem.tail _ (List.Mem.tail _ (List.Mem.tail _ (List.Mem.head _))))))) | exact List.Mem.tail _ (List.Mem.tail _ (List.Mem.tail _ (List.Mem.tail _ (List.Mem.tail _ (List.Mem.tail _ (List.Mem.tail _ (List.Mem.tail _ (List.Mem.head _)))))))) | exact (by assumption) | exact List.Mem.tail _ ((by assumption)) | exact List.Mem.tail _ (List.Mem.tail _ ((by assumption))) | exact List.Mem.tail _ (List.Mem.tail _ (List.Mem.tail _ ((by assumption)))) | exact List.Mem.tail _ (List.Mem.tail _ (List.Mem.tail _ (List.Mem.tail _ ((by assumption))))) | exact List.Mem.tail _ (List.Mem.tail _ (List.Mem.tail _ (List.Mem.tail _ (List.Mem.tail _ ((by assumption))))))) ((rfl : (pagesB (allP n2 v2 b))[2]? = some (chunkB (allP n2 v2 b) 2))) (by exact fun _ => rfl) (by rfl)) ?_
                refine pl_take rfl (yes_some rfl rfl rfl rfl) (vr_eql_s rfl rfl) ?_
                refine pl_take rfl (yes_none rfl) (vr_pick (b := true) (v := .bool _) rfl rfl) ?_
                refine pl_take rfl (yes_none rfl) (vr_assign (v := .bool _) rfl) ?_
                refine pl_nil hS ?_
                clear hS; intro w hS
                refine hK30 _ _ ?_
                refine cw_seq fun K31 hK31 => ?_
                refine cw_region ?_
                refine wl_op rfl rfl (ow_vr (vr_move (v := .int .i64 n2) rfl) ?_)
                refine wl_op rfl rfl (ow_vr (vr_move (v := .int .i64 v2) rfl) ?_)
                refine wl_op rfl rfl (ow_vr (vr_move (v := vx) rfl) ?_)
                refine wl_op rfl rfl (ow_fng (vs := [.int .i64 n2, .int .i64 v2, vx]) en_53 rfl hS (page_At n2 v2 (pagesB (allP no v a)) _ _ hvx (by simp [pagesB]) (by rw [pages_flat (all_length hk1), all_length hk1]; omega)) (by first | exact needs1 (by first | exact List.Mem.head _ | exact List.Mem.tail _ (List.Mem.head _) | exact List.Mem.tail _ (List.Mem.tail _ (List.Mem.head _)) | exact List.Mem.tail _ (List.Mem.tail _ (List.Mem.tail _ (List.Mem.head _))) | exact List.Mem.tail _ (List.Mem.tail _ (List.Mem.tail _ (List.Mem.tail _ (List.Mem.head _)))) | exact List.Mem.tail _ (List.Mem.tail _ (List.Mem.tail _ (List.Mem.tail _ (List.Mem.tail _ (List.Mem.head _))))) | exact List.Mem.tail _ (List.Mem.tail _ (List.Mem.tail _ (List.Mem.tail _ (List.Mem.tail _ (List.Mem.tail _ (List.Mem.head _)))))) | exact List.Mem.tail _ (List.Mem.tail _ (List.Mem.tail _ (List.Mem.tail _ (List.Mem.tail _ (List.Mem.tail _ (List.Mem.tail _ (List.Mem.head _))))))) | exact List.Mem.tail _ (List.Mem.tail _ (List.Mem.tail _ (List.Mem.tail _ (List.Mem.tail _ (List.Mem.tail _ (List.Mem.tail _ (List.Mem.tail _ (List.Mem.head _)))))))) | exact (by assumption) | exact List.Mem.tail _ ((by assumption)) | exact List.Mem.tail _ (List.Mem.tail _ ((by assumption))) | exact List.Mem.tail _ (List.Mem.tail _ (List.Mem.tail _ ((by assumption)))) | exact List.Mem.tail _ (List.Mem.tail _ (List.Mem.tail _ (List.Mem.tail _ ((by assumption))))) | exact List.Mem.tail _ (List.Mem.tail _ (List.Mem.tail _ (List.Mem.tail _ (List.Mem.tail _ ((by assumption))))))) | exact needs0 | exact needs2 (by first | exact List.Mem.head _ | exact List.Mem.tail _ (List.Mem.head _) | exact List.Mem.tail _ (List.Mem.tail _ (List.Mem.head _)) | exact List.Mem.tail _ (List.Mem.tail _ (List.Mem.tail _ (List.Mem.head _))) | exact List.Mem.tail _ (List.Mem.tail _ (List.Mem.tail _ (List.Mem.tail _ (List.Mem.head _)))) | exact List.Mem.tail _ (List.Mem.tail _ (List.Mem.tail _ (List.Mem.tail _ (List.Mem.tail _ (List.Mem.head _))))) | exact List.Mem.tail _ (List.Mem.tail _ (List.Mem.tail _ (List.Mem.tail _ (List.Mem.tail _ (List.Mem.tail _ (List.Mem.head _)))))) | exact List.Mem.tail _ (List.Mem.tail _ (List.Mem.tail _ (List.Mem.tail _ (List.Mem.tail _ (List.Mem.tail _ (List.Mem.tail _ (List.Mem.head _))))))) | exact List.Mem.tail _ (List.Mem.tail _ (List.Mem.tail _ (List.Mem.tail _ (List.Mem.tail _ (List.Mem.tail _ (List.Mem.tail _ (List.Mem.tail _ (List.Mem.head _)))))))) | exact (by assumption) | exact List.Mem.tail _ ((by assumption)) | exact List.Mem.tail _ (List.Mem.tail _ ((by assumption))) | exact List.Mem.tail _ (List.Mem.tail _ (List.Mem.tail _ ((by assumption)))) | exact List.Mem.tail _ (List.Mem.tail _ (List.Mem.tail _ (List.Mem.tail _ ((by assumption))))) | exact List.Mem.tail _ (List.Mem.tail _ (List.Mem.tail _ (List.Mem.tail _ (List.Mem.tail _ ((by assumption))))))) (by first | exact List.Mem.head _ | exact List.Mem.tail _ (List.Mem.head _) | exact List.Mem.tail _ (List.Mem.tail _ (List.Mem.head _)) | exact List.Mem.tail _ (List.Mem.tail _ (List.Mem.tail _ (List.Mem.head _))) | exact List.Mem.tail _ (List.Mem.tail _ (List.Mem.tail _ (List.Mem.tail _ (List.Mem.head _)))) | exact List.Mem.tail _ (List.Mem.tail _ (List.Mem.tail _ (List.Mem.tail _ (List.Mem.tail _ (List.Mem.head _))))) | exact List.Mem.tail _ (List.Mem.tail _ (List.Mem.tail _ (List.Mem.tail _ (List.Mem.tail _ (List.Mem.tail _ (List.Mem.head _)))))) | exact List.Mem.tail _ (List.Mem.tail _ (List.Mem.tail _ (List.Mem.tail _ (List.Mem.tail _ (List.Mem.tail _ (List.Mem.tail _ (List.Mem.head _))))))) | exact List.Mem.tail _ (List.Mem.tail _ (List.Mem.tail _ (List.Mem.tail _ (List.Mem.tail _ (List.Mem.tail _ (List.Mem.tail _ (List.Mem.tail _ (List.Mem.head _)))))))) | exact (by assumption) | exact List.Mem.tail _ ((by assumption)) | exact List.Mem.tail _ (List.Mem.tail _ ((by assumption))) | exact List.Mem.tail _ (List.Mem.tail _ (List.Mem.tail _ ((by assumption)))) | exact List.Mem.tail _ (List.Mem.tail _ (List.Mem.tail _ (List.Mem.tail _ ((by assumption))))) | exact List.Mem.tail _ (List.Mem.tail _ (List.Mem.tail _ (List.Mem.tail _ (List.Mem.tail _ ((by assumption))))))) | exact needs3 (by first | exact List.Mem.head _ | exact List.Mem.tail _ (List.Mem.head _) | exact List.Mem.tail _ (List.Mem.tail _ (List.Mem.head _)) | exact List.Mem.tail _ (List.Mem.tail _ (List.Mem.tail _ (List.Mem.head _))) | exact List.Mem.tail _ (List.Mem.tail _ (List.Mem.tail _ (List.Mem.tail _ (List.Mem.head _)))) | exact List.Mem.tail _ (List.Mem.tail _ (List.Mem.tail _ (List.Mem.tail _ (List.Mem.tail _ (List.Mem.head _))))) | exact List.Mem.tail _ (List.Mem.tail _ (List.Mem.tail _ (List.Mem.tail _ (List.Mem.tail _ (List.Mem.tail _ (List.Mem.head _)))))) | exact List.Mem.tail _ (List.Mem.tail _ (List.Mem.tail _ (List.Mem.tail _ (List.Mem.tail _ (List.Mem.tail _ (List.Mem.tail _ (List.Mem.head _))))))) | exact List.Mem.tail _ (List.Mem.tail _ (List.Mem.tail _ (List.Mem.tail _ (List.Mem.tail _ (List.Mem.tail _ (List.Mem.tail _ (List.Mem.tail _ (List.Mem.head _)))))))) | exact (by assumption) | exact List.Mem.tail _ ((by assumption)) | exact List.Mem.tail _ (List.Mem.tail _ ((by assumption))) | exact List.Mem.tail _ (List.Mem.tail _ (List.Mem.tail _ ((by assumption)))) | exact List.Mem.tail _ (List.Mem.tail _ (List.Mem.tail _ (List.Mem.tail _ ((by assumption))))) | exact List.Mem.tail _ (List.Mem.tail _ (List.Mem.tail _ (List.Mem.tail _ (List.Mem.tail _ ((by assumption))))))) (by first | exact List.Mem.head _ | exact List.Mem.tail _ (List.Mem.head _) | exact List.Mem.tail _ (List.Mem.tail _ (List.Mem.head _)) | exact List.Mem.tail _ (List.Mem.tail _ (List.Mem.tail _ (List.Mem.head _))) | exact List.Mem.tail _ (List.Mem.tail _ (List.Mem.tail _ (List.Mem.tail _ (List.Mem.head _)))) | exact List.Mem.tail _ (List.Mem.tail _ (List.Mem.tail _ (List.Mem.tail _ (List.Mem.tail _ (List.Mem.head _))))) | exact List.Mem.tail _ (List.Mem.tail _ (List.Mem.tail _ (List.Mem.tail _ (List.Mem.tail _ (List.Mem.tail _ (List.Mem.head _)))))) | exact List.Mem.tail _ (List.Mem.tail _ (List.Mem.tail _ (List.Mem.tail _ (List.Mem.tail _ (List.Mem.tail _ (List.Mem.tail _ (List.Mem.head _))))))) | exact List.Mem.tail _ (List.Mem.tail _ (List.Mem.tail _ (List.Mem.tail _ (List.Mem.tail _ (List.Mem.tail _ (List.Mem.tail _ (List.Mem.tail _ (List.Mem.head _)))))))) | exact (by assumption) | exact List.Mem.tail _ ((by assumption)) | exact List.Mem.tail _ (List.Mem.tail _ ((by assumption))) | exact List.Mem.tail _ (List.Mem.tail _ (List.Mem.tail _ ((by assumption)))) | exact List.Mem.tail _ (List.Mem.tail _ (List.Mem.tail _ (List.Mem.tail _ ((by assumption))))) | exact List.Mem.tail _ (List.Mem.tail _ (List.Mem.tail _ (List.Mem.tail _ (List.Mem.tail _ ((by assumption))))))) (by first | exact List.Mem.head _ | exact List.Mem.tail _ (List.Mem.head _) | exact List.Mem.tail _ (List.Mem.tail _ (List.Mem.head _)) | exact List.Mem.tail _ (List.Mem.tail _ (List.Mem.tail _ (List.Mem.head _))) | exact List.Mem.tail _ (List.Mem.tail _ (List.Mem.tail _ (List.Mem.tail _ (List.Mem.head _)))) | exact List.Mem.tail _ (List.Mem.tail _ (List.Mem.tail _ (List.Mem.tail _ (List.Mem.tail _ (List.Mem.head _))))) | exact List.Mem.tail _ (List.Mem.tail _ (List.Mem.tail _ (List.Mem.tail _ (List.Mem.tail _ (List.Mem.tail _ (List.Mem.head _)))))) | exact List.Mem.tail _ (List.Mem.tail _ (List.Mem.tail _ (List.Mem.tail _ (List.Mem.tail _ (List.Mem.tail _ (List.Mem.tail _ (List.Mem.head _))))))) | exact List.Mem.tail _ (List.Mem.tail _ (List.Mem.tail _ (List.Mem.tail _ (List.Mem.tail _ (List.Mem.tail _ (List.Mem.tail _ (List.Mem.tail _ (List.Mem.head _)))))))) | exact (by assumption) | exact List.Mem.tail _ ((by assumption)) | exact List.Mem.tail _ (List.Mem.tail _ ((by assumption))) | exact List.Mem.tail _ (List.Mem.tail _ (List.Mem.tail _ ((by assumption)))) | exact List.Mem.tail _ (List.Mem.tail _ (List.Mem.tail _ (List.Mem.tail _ ((by assumption))))) | exact List.Mem.tail _ (List.Mem.tail _ (List.Mem.tail _ (List.Mem.tail _ (List.Mem.tail _ ((by assumption)))))))) ?_)
                clear hS; rintro v114 _ w ⟨vq, Dq, rfl, rfl, hoq⟩ hS; (try simp only [List.cons_append, List.nil_append] at hS)
                refine wl_op rfl rfl (ow_vr (vr_move (v := .tuple _) rfl) ?_)
                refine wl_op rfl rfl (ow_vr (vr_extract (v := vq) rfl rfl) ?_)
                refine wl_op rfl rfl (ow_vr (vr_extract (v := .bool _) rfl rfl) ?_)
                refine wl_op rfl rfl (ow_vr (vr_assign (v := vq) rfl) ?_)
                refine wl_op rfl rfl (ow_vr (vr_assign (v := .bool _) rfl) ?_)
                refine wl_nil ?_
                refine hK31 _ _ ?_
                refine cw_seq fun K32 hK32 => ?_
                have hinj := pages_inj hk1 hk2
                rw [pages_three] at hinj
                have hat := at_pages (m := n2) (w := v2) hk1
                refine cw_region ?_
                refine wl_op rfl rfl (ow_vr (vr_move (v := .bool _) rfl) ?_)
                refine wl_op rfl rfl (ow_vr (vr_move (v := .bool same) rfl) ?_)
                refine wl_op rfl rfl (ow_vr (vr_eqlb Try.underlying4 rfl rfl) ?_)
                refine wl_op rfl rfl (ow_vr (vr_move (v := .bool _) rfl) ?_)
                refine wl_known 120 rfl (c := true) (by (simp_all) <;> (by_cases hvv : v = v2 <;> simp_all)) ?_
                refine wl_yes rfl rfl rfl rfl rfl (ow_vr (vr_move (v := .bool _) rfl) ?_)
                refine wl_yes rfl rfl rfl rfl rfl (ow_vr (vr_move (v := .int .i64 no) rfl) ?_)
                refine wl_yes rfl rfl rfl rfl rfl (ow_vr (vr_move (v := .int .i64 n2) rfl) ?_)
                refine wl_yes rfl rfl rfl rfl rfl (ow_vr (vr_eql rfl rfl) ?_)
                refine wl_yes rfl rfl rfl rfl rfl (ow_vr (vr_move (v := .bool _) rfl) ?_)
                refine wl_split 125 rfl (fun hc => ?_) (fun hc => ?_)
                · (try simp only [decide_eq_true_eq, decide_eq_false_iff_not, Bool.not_eq_true, Bool.not_eq_false, Bool.not_eq_true', Bool.not_eq_false', Bool.and_eq_true, Bool.or_eq_true, Bool.and_eq_false_iff, Bool.or_eq_false_iff, Int.not_lt, Int.not_le, gt_iff_lt, ge_iff_le, ne_eq, Decidable.not_not, beq_iff_eq] at hc)
                  have h125 := hc; clear hc
                  refine wl_yes rfl rfl rfl rfl rfl (ow_vr (vr_move (v := .int .i64 v) rfl) ?_)
                  refine wl_yes rfl rfl rfl rfl rfl (ow_vr (vr_move (v := .int .i64 v2) rfl) ?_)
                  refine wl_yes rfl rfl rfl rfl rfl (ow_vr (vr_eql rfl rfl) ?_)
                  refine wl_yes rfl rfl rfl rfl rfl (ow_vr (vr_pick (b := true) (v := .bool _) rfl rfl) ?_)
                  refine wl_yes rfl rfl rfl rfl rfl (ow_vr (vr_eqlb Try.underlying4 rfl rfl) ?_)
                  refine wl_op rfl rfl (ow_vr (vr_pick (b := true) (v := .bool _) rfl rfl) ?_)
                  refine wl_op rfl rfl (ow_vr (vr_assign (v := .bool _) rfl) ?_)
                  refine wl_nil ?_
                  refine hK32 _ _ ?_
                  refine cw_ret ?_
                  refine ret_one (fn := Try.f9) (n := 132) (t := 12) (.inl rfl) rfl rfl ?_
                  exact ⟨[], ⟨congrArg Value.bool (by simp_all), rfl⟩, hS.tail1.tail1.tail1.tail1.tail1⟩
                · (try simp only [decide_eq_true_eq, decide_eq_false_iff_not, Bool.not_eq_true, Bool.not_eq_false, Bool.not_eq_true', Bool.not_eq_false', Bool.and_eq_true, Bool.or_eq_true, Bool.and_eq_false_iff, Bool.or_eq_false_iff, Int.not_lt, Int.not_le, gt_iff_lt, ge_iff_le, ne_eq, Decidable.not_not, beq_iff_eq] at hc)
                  have h125 := hc; clear hc
                  refine wl_noD rfl rfl rfl rfl rfl rfl ?_
                  refine wl_noD rfl rfl rfl rfl rfl rfl ?_
                  refine wl_noD rfl rfl rfl rfl rfl rfl ?_
                  refine wl_yes rfl rfl rfl rfl rfl (ow_vr (vr_pick (b := false) (v := .bool _) rfl rfl) ?_)
                  refine wl_yes rfl rfl rfl rfl rfl (ow_vr (vr_eqlb Try.underlying4 rfl rfl) ?_)
                  refine wl_op rfl rfl (ow_vr (vr_pick (b := true) (v := .bool _) rfl rfl) ?_)
                  refine wl_op rfl rfl (ow_vr (vr_assign (v := .bool _) rfl) ?_)
                  refine wl_nil ?_
                  refine hK32 _ _ ?_
                  refine cw_ret ?_
                  refine ret_one (fn := Try.f9) (n := 132) (t := 12) (.inl rfl) rfl rfl ?_
                  exact ⟨[], ⟨congrArg Value.bool (by simp_all), rfl⟩, hS.tail1.tail1.tail1.tail1.tail1⟩
              · (try simp only [decide_eq_true_eq, decide_eq_false_iff_not, Bool.not_eq_true, Bool.not_eq_false, Bool.not_eq_true', Bool.not_eq_false', Bool.and_eq_true, Bool.or_eq_true, Bool.and_eq_false_iff, Bool.or_eq_false_iff, Int.not_lt, Int.not_le, gt_iff_lt, ge_iff_le, ne_eq, Decidable.not_not, beq_iff_eq] at hc)
                have h101 := hc; clear hc
                refine pl_noD rfl (yes_not rfl rfl rfl rfl rfl) ?_
                refine pl_noD rfl (yes_not rfl rfl rfl rfl rfl) ?_
                refine pl_noD rfl (yes_not rfl rfl rfl rfl rfl) ?_
                refine pl_noD rfl (yes_not rfl rfl rfl rfl rfl) ?_
                refine pl_noD rfl (yes_not rfl rfl rfl rfl rfl) ?_
                refine pl_noD rfl (yes_not rfl rfl rfl rfl rfl) ?_
                refine pl_noD rfl (yes_not rfl rfl rfl rfl rfl) ?_
                refine pl_take rfl (yes_none rfl) (vr_pick (b := false) (v := .bool _) rfl rfl) ?_
                refine pl_take rfl (yes_none rfl) (vr_assign (v := .bool _) rfl) ?_
                refine pl_nil hS ?_
                clear hS; intro w hS
                refine hK30 _ _ ?_
                refine cw_seq fun K33 hK33 => ?_
                refine cw_region ?_
                refine wl_op rfl rfl (ow_vr (vr_move (v := .int .i64 n2) rfl) ?_)
                refine wl_op rfl rfl (ow_vr (vr_move (v := .int .i64 v2) rfl) ?_)
                refine wl_op rfl rfl (ow_vr (vr_move (v := vx) rfl) ?_)
                refine wl_op rfl rfl (ow_fng (vs := [.int .i64 n2, .int .i64 v2, vx]) en_53 rfl hS (page_At n2 v2 (pagesB (allP no v a)) _ _ hvx (by simp [pagesB]) (by rw [pages_flat (all_length hk1), all_length hk1]; omega)) (by first | exact needs1 (by first | exact List.Mem.head _ | exact List.Mem.tail _ (List.Mem.head _) | exact List.Mem.tail _ (List.Mem.tail _ (List.Mem.head _)) | exact List.Mem.tail _ (List.Mem.tail _ (List.Mem.tail _ (List.Mem.head _))) | exact List.Mem.tail _ (List.Mem.tail _ (List.Mem.tail _ (List.Mem.tail _ (List.Mem.head _)))) | exact List.Mem.tail _ (List.Mem.tail _ (List.Mem.tail _ (List.Mem.tail _ (List.Mem.tail _ (List.Mem.head _))))) | exact List.Mem.tail _ (List.Mem.tail _ (List.Mem.tail _ (List.Mem.tail _ (List.Mem.tail _ (List.Mem.tail _ (List.Mem.head _)))))) | exact List.Mem.tail _ (List.Mem.tail _ (List.Mem.tail _ (List.Mem.tail _ (List.Mem.tail _ (List.Mem.tail _ (List.Mem.tail _ (List.Mem.head _))))))) | exact List.Mem.tail _ (List.Mem.tail _ (List.Mem.tail _ (List.Mem.tail _ (List.Mem.tail _ (List.Mem.tail _ (List.Mem.tail _ (List.Mem.tail _ (List.Mem.head _)))))))) | exact (by assumption) | exact List.Mem.tail _ ((by assumption)) | exact List.Mem.tail _ (List.Mem.tail _ ((by assumption))) | exact List.Mem.tail _ (List.Mem.tail _ (List.Mem.tail _ ((by assumption)))) | exact List.Mem.tail _ (List.Mem.tail _ (List.Mem.tail _ (List.Mem.tail _ ((by assumption))))) | exact List.Mem.tail _ (List.Mem.tail _ (List.Mem.tail _ (List.Mem.tail _ (List.Mem.tail _ ((by assumption))))))) | exact needs0 | exact needs2 (by first | exact List.Mem.head _ | exact List.Mem.tail _ (List.Mem.head _) | exact List.Mem.tail _ (List.Mem.tail _ (List.Mem.head _)) | exact List.Mem.tail _ (List.Mem.tail _ (List.Mem.tail _ (List.Mem.head _))) | exact List.Mem.tail _ (List.Mem.tail _ (List.Mem.tail _ (List.Mem.tail _ (List.Mem.head _)))) | exact List.Mem.tail _ (List.Mem.tail _ (List.Mem.tail _ (List.Mem.tail _ (List.Mem.tail _ (List.Mem.head _))))) | exact List.Mem.tail _ (List.Mem.tail _ (List.Mem.tail _ (List.Mem.tail _ (List.Mem.tail _ (List.Mem.tail _ (List.Mem.head _)))))) | exact List.Mem.tail _ (List.Mem.tail _ (List.Mem.tail _ (List.Mem.tail _ (List.Mem.tail _ (List.Mem.tail _ (List.Mem.tail _ (List.Mem.head _))))))) | exact List.Mem.tail _ (List.Mem.tail _ (List.Mem.tail _ (List.Mem.tail _ (List.Mem.tail _ (List.Mem.tail _ (List.Mem.tail _ (List.Mem.tail _ (List.Mem.head _)))))))) | exact (by assumption) | exact List.Mem.tail _ ((by assumption)) | exact List.Mem.tail _ (List.Mem.tail _ ((by assumption))) | exact List.Mem.tail _ (List.Mem.tail _ (List.Mem.tail _ ((by assumption)))) | exact List.Mem.tail _ (List.Mem.tail _ (List.Mem.tail _ (List.Mem.tail _ ((by assumption))))) | exact List.Mem.tail _ (List.Mem.tail _ (List.Mem.tail _ (List.Mem.tail _ (List.Mem.tail _ ((by assumption))))))) (by first | exact List.Mem.head _ | exact List.Mem.tail _ (List.Mem.head _) | exact List.Mem.tail _ (List.Mem.tail _ (List.Mem.head _)) | exact List.Mem.tail _ (List.Mem.tail _ (List.Mem.tail _ (List.Mem.head _))) | exact List.Mem.tail _ (List.Mem.tail _ (List.Mem.tail _ (List.Mem.tail _ (List.Mem.head _)))) | exact List.Mem.tail _ (List.Mem.tail _ (List.Mem.tail _ (List.Mem.tail _ (List.Mem.tail _ (List.Mem.head _))))) | exact List.Mem.tail _ (List.Mem.tail _ (List.Mem.tail _ (List.Mem.tail _ (List.Mem.tail _ (List.Mem.tail _ (List.Mem.head _)))))) | exact List.Mem.tail _ (List.Mem.tail _ (List.Mem.tail _ (List.Mem.tail _ (List.Mem.tail _ (List.Mem.tail _ (List.Mem.tail _ (List.Mem.head _))))))) | exact List.Mem.tail _ (List.Mem.tail _ (List.Mem.tail _ (List.Mem.tail _ (List.Mem.tail _ (List.Mem.tail _ (List.Mem.tail _ (List.Mem.tail _ (List.Mem.head _)))))))) | exact (by assumption) | exact List.Mem.tail _ ((by assumption)) | exact List.Mem.tail _ (List.Mem.tail _ ((by assumption))) | exact List.Mem.tail _ (List.Mem.tail _ (List.Mem.tail _ ((by assumption)))) | exact List.Mem.tail _ (List.Mem.tail _ (List.Mem.tail _ (List.Mem.tail _ ((by assumption))))) | exact List.Mem.tail _ (List.Mem.tail _ (List.Mem.tail _ (List.Mem.tail _ (List.Mem.tail _ ((by assumption))))))) | exact needs3 (by first | exact List.Mem.head _ | exact List.Mem.tail _ (List.Mem.head _) | exact List.Mem.tail _ (List.Mem.tail _ (List.Mem.head _)) | exact List.Mem.tail _ (List.Mem.tail _ (List.Mem.tail _ (List.Mem.head _))) | exact List.Mem.tail _ (List.Mem.tail _ (List.Mem.tail _ (List.Mem.tail _ (List.Mem.head _)))) | exact List.Mem.tail _ (List.Mem.tail _ (List.Mem.tail _ (List.Mem.tail _ (List.Mem.tail _ (List.Mem.head _))))) | exact List.Mem.tail _ (List.Mem.tail _ (List.Mem.tail _ (List.Mem.tail _ (List.Mem.tail _ (List.Mem.tail _ (List.Mem.head _)))))) | exact List.Mem.tail _ (List.Mem.tail _ (List.Mem.tail _ (List.Mem.tail _ (List.Mem.tail _ (List.Mem.tail _ (List.Mem.tail _ (List.Mem.head _))))))) | exact List.Mem.tail _ (List.Mem.tail _ (List.Mem.tail _ (List.Mem.tail _ (List.Mem.tail _ (List.Mem.tail _ (List.Mem.tail _ (List.Mem.tail _ (List.Mem.head _)))))))) | exact (by assumption) | exact List.Mem.tail _ ((by assumption)) | exact List.Mem.tail _ (List.Mem.tail _ ((by assumption))) | exact List.Mem.tail _ (List.Mem.tail _ (List.Mem.tail _ ((by assumption)))) | exact List.Mem.tail _ (List.Mem.tail _ (List.Mem.tail _ (List.Mem.tail _ ((by assumption))))) | exact List.Mem.tail _ (List.Mem.tail _ (List.Mem.tail _ (List.Mem.tail _ (List.Mem.tail _ ((by assumption))))))) (by first | exact List.Mem.head _ | exact List.Mem.tail _ (List.Mem.head _) | exact List.Mem.tail _ (List.Mem.tail _ (List.Mem.head _)) | exact List.Mem.tail _ (List.Mem.tail _ (List.Mem.tail _ (List.Mem.head _))) | exact List.Mem.tail _ (List.Mem.tail _ (List.Mem.tail _ (List.Mem.tail _ (List.Mem.head _)))) | exact List.Mem.tail _ (List.Mem.tail _ (List.Mem.tail _ (List.Mem.tail _ (List.Mem.tail _ (List.Mem.head _))))) | exact List.Mem.tail _ (List.Mem.tail _ (List.Mem.tail _ (List.Mem.tail _ (List.Mem.tail _ (List.Mem.tail _ (List.Mem.head _)))))) | exact List.Mem.tail _ (List.Mem.tail _ (List.Mem.tail _ (List.Mem.tail _ (List.Mem.tail _ (List.Mem.tail _ (List.Mem.tail _ (List.Mem.head _))))))) | exact List.Mem.tail _ (List.Mem.tail _ (List.Mem.tail _ (List.Mem.tail _ (List.Mem.tail _ (List.Mem.tail _ (List.Mem.tail _ (List.Mem.tail _ (List.Mem.head _)))))))) | exact (by assumption) | exact List.Mem.tail _ ((by assumption)) | exact List.Mem.tail _ (List.Mem.tail _ ((by assumption))) | exact List.Mem.tail _ (List.Mem.tail _ (List.Mem.tail _ ((by assumption)))) | exact List.Mem.tail _ (List.Mem.tail _ (List.Mem.tail _ (List.Mem.tail _ ((by assumption))))) | exact List.Mem.tail _ (List.Mem.tail _ (List.Mem.tail _ (List.Mem.tail _ (List.Mem.tail _ ((by assumption))))))) (by first | exact List.Mem.head _ | exact List.Mem.tail _ (List.Mem.head _) | exact List.Mem.tail _ (List.Mem.tail _ (List.Mem.head _)) | exact List.Mem.tail _ (List.Mem.tail _ (List.Mem.tail _ (List.Mem.head _))) | exact List.Mem.tail _ (List.Mem.tail _ (List.Mem.tail _ (List.Mem.tail _ (List.Mem.head _)))) | exact List.Mem.tail _ (List.Mem.tail _ (List.Mem.tail _ (List.Mem.tail _ (List.Mem.tail _ (List.Mem.head _))))) | exact List.Mem.tail _ (List.Mem.tail _ (List.Mem.tail _ (List.Mem.tail _ (List.Mem.tail _ (List.Mem.tail _ (List.Mem.head _)))))) | exact List.Mem.tail _ (List.Mem.tail _ (List.Mem.tail _ (List.Mem.tail _ (List.Mem.tail _ (List.Mem.tail _ (List.Mem.tail _ (List.Mem.head _))))))) | exact List.Mem.tail _ (List.Mem.tail _ (List.Mem.tail _ (List.Mem.tail _ (List.Mem.tail _ (List.Mem.tail _ (List.Mem.tail _ (List.Mem.tail _ (List.Mem.head _)))))))) | exact (by assumption) | exact List.Mem.tail _ ((by assumption)) | exact List.Mem.tail _ (List.Mem.tail _ ((by assumption))) | exact List.Mem.tail _ (List.Mem.tail _ (List.Mem.tail _ ((by assumption)))) | exact List.Mem.tail _ (List.Mem.tail _ (List.Mem.tail _ (List.Mem.tail _ ((by assumption))))) | exact List.Mem.tail _ (List.Mem.tail _ (List.Mem.tail _ (List.Mem.tail _ (List.Mem.tail _ ((by assumption)))))))) ?_)
                clear hS; rintro v114 _ w ⟨vq, Dq, rfl, rfl, hoq⟩ hS; (try simp only [List.cons_append, List.nil_append] at hS)
                refine wl_op rfl rfl (ow_vr (vr_move (v := .tuple _) rfl) ?_)
                refine wl_op rfl rfl (ow_vr (vr_extract (v := vq) rfl rfl) ?_)
                refine wl_op rfl rfl (ow_vr (vr_extract (v := .bool _) rfl rfl) ?_)
                refine wl_op rfl rfl (ow_vr (vr_assign (v := vq) rfl) ?_)
                refine wl_op rfl rfl (ow_vr (vr_assign (v := .bool _) rfl) ?_)
                refine wl_nil ?_
                refine hK33 _ _ ?_
                refine cw_seq fun K34 hK34 => ?_
                have hinj := pages_inj hk1 hk2
                rw [pages_three] at hinj
                have hat := at_pages (m := n2) (w := v2) hk1
                refine cw_region ?_
                refine wl_op rfl rfl (ow_vr (vr_move (v := .bool _) rfl) ?_)
                refine wl_op rfl rfl (ow_vr (vr_move (v := .bool same) rfl) ?_)
                refine wl_op rfl rfl (ow_vr (vr_eqlb Try.underlying4 rfl rfl) ?_)
                refine wl_op rfl rfl (ow_vr (vr_move (v := .bool _) rfl) ?_)
                refine wl_known 120 rfl (c := true) (by (simp_all) <;> (by_cases hvv : v = v2 <;> simp_all)) ?_
                refine wl_yes rfl rfl rfl rfl rfl (ow_vr (vr_move (v := .bool _) rfl) ?_)
                refine wl_yes rfl rfl rfl rfl rfl (ow_vr (vr_move (v := .int .i64 no) rfl) ?_)
                refine wl_yes rfl rfl rfl rfl rfl (ow_vr (vr_move (v := .int .i64 n2) rfl) ?_)
                refine wl_yes rfl rfl rfl rfl rfl (ow_vr (vr_eql rfl rfl) ?_)
                refine wl_yes rfl rfl rfl rfl rfl (ow_vr (vr_move (v := .bool _) rfl) ?_)
                refine wl_split 125 rfl (fun hc => ?_) (fun hc => ?_)
                · (try simp only [decide_eq_true_eq, decide_eq_false_iff_not, Bool.not_eq_true, Bool.not_eq_false, Bool.not_eq_true', Bool.not_eq_false', Bool.and_eq_true, Bool.or_eq_true, Bool.and_eq_false_iff, Bool.or_eq_false_iff, Int.not_lt, Int.not_le, gt_iff_lt, ge_iff_le, ne_eq, Decidable.not_not, beq_iff_eq] at hc)
                  have h125 := hc; clear hc
                  refine wl_yes rfl rfl rfl rfl rfl (ow_vr (vr_move (v := .int .i64 v) rfl) ?_)
                  refine wl_yes rfl rfl rfl rfl rfl (ow_vr (vr_move (v := .int .i64 v2) rfl) ?_)
                  refine wl_yes rfl rfl rfl rfl rfl (ow_vr (vr_eql rfl rfl) ?_)
                  refine wl_yes rfl rfl rfl rfl rfl (ow_vr (vr_pick (b := true) (v := .bool _) rfl rfl) ?_)
                  refine wl_yes rfl rfl rfl rfl rfl (ow_vr (vr_eqlb Try.underlying4 rfl rfl) ?_)
                  refine wl_op rfl rfl (ow_vr (vr_pick (b := true) (v := .bool _) rfl rfl) ?_)
                  refine wl_op rfl rfl (ow_vr (vr_assign (v := .bool _) rfl) ?_)
                  refine wl_nil ?_
                  refine hK34 _ _ ?_
                  refine cw_ret ?_
                  refine ret_one (fn := Try.f9) (n := 132) (t := 12) (.inl rfl) rfl rfl ?_
                  exact ⟨[], ⟨congrArg Value.bool (by simp_all), rfl⟩, hS.tail1.tail1.tail1.tail1.tail1⟩
                · (try simp only [decide_eq_true_eq, decide_eq_false_iff_not, Bool.not_eq_true, Bool.not_eq_false, Bool.not_eq_true', Bool.not_eq_false', Bool.and_eq_true, Bool.or_eq_true, Bool.and_eq_false_iff, Bool.or_eq_false_iff, Int.not_lt, Int.not_le, gt_iff_lt, ge_iff_le, ne_eq, Decidable.not_not, beq_iff_eq] at hc)
                  have h125 := hc; clear hc
                  refine wl_noD rfl rfl rfl rfl rfl rfl ?_
                  refine wl_noD rfl rfl rfl rfl rfl rfl ?_
                  refine wl_noD rfl rfl rfl rfl rfl rfl ?_
                  refine wl_yes rfl rfl rfl rfl rfl (ow_vr (vr_pick (b := false) (v := .bool _) rfl rfl) ?_)
                  refine wl_yes rfl rfl rfl rfl rfl (ow_vr (vr_eqlb Try.underlying4 rfl rfl) ?_)
                  refine wl_op rfl rfl (ow_vr (vr_pick (b := true) (v := .bool _) rfl rfl) ?_)
                  refine wl_op rfl rfl (ow_vr (vr_assign (v := .bool _) rfl) ?_)
                  refine wl_nil ?_
                  refine hK34 _ _ ?_
                  refine cw_ret ?_
                  refine ret_one (fn := Try.f9) (n := 132) (t := 12) (.inl rfl) rfl rfl ?_
                  exact ⟨[], ⟨congrArg Value.bool (by simp_all), rfl⟩, hS.tail1.tail1.tail1.tail1.tail1⟩
            · (try simp only [decide_eq_true_eq, decide_eq_false_iff_not, Bool.not_eq_true, Bool.not_eq_false, Bool.not_eq_true', Bool.not_eq_false', Bool.and_eq_true, Bool.or_eq_true, Bool.and_eq_false_iff, Bool.or_eq_false_iff, Int.not_lt, Int.not_le, gt_iff_lt, ge_iff_le, ne_eq, Decidable.not_not, beq_iff_eq] at hc)
              have h92 := hc; clear hc
              refine pl_noD rfl (yes_not rfl rfl rfl rfl rfl) ?_
              refine pl_noD rfl (yes_not rfl rfl rfl rfl rfl) ?_
              refine pl_noD rfl (yes_not rfl rfl rfl rfl rfl) ?_
              refine pl_noD rfl (yes_not rfl rfl rfl rfl rfl) ?_
              refine pl_noD rfl (yes_not rfl rfl rfl rfl rfl) ?_
              refine pl_noD rfl (yes_not rfl rfl rfl rfl rfl) ?_
              refine pl_noD rfl (yes_not rfl rfl rfl rfl rfl) ?_
              refine pl_take rfl (yes_none rfl) (vr_pick (b := false) (v := .bool _) rfl rfl) ?_
              refine pl_take rfl (yes_none rfl) (vr_move (v := .bool _) rfl) ?_
              refine pl_noD rfl (yes_not rfl rfl rfl rfl rfl) ?_
              refine pl_noD rfl (yes_not rfl rfl rfl rfl rfl) ?_
              refine pl_noD rfl (yes_not rfl rfl rfl rfl rfl) ?_
              refine pl_noD rfl (yes_not rfl rfl rfl rfl rfl) ?_
              refine pl_noD rfl (yes_not rfl rfl rfl rfl rfl) ?_
              refine pl_noD rfl (yes_not rfl rfl rfl rfl rfl) ?_
              refine pl_noD rfl (yes_not rfl rfl rfl rfl rfl) ?_
              refine pl_take rfl (yes_none rfl) (vr_pick (b := false) (v := .bool _) rfl rfl) ?_
              refine pl_take rfl (yes_none rfl) (vr_assign (v := .bool _) rfl) ?_
              refine pl_nil hS ?_
              clear hS; intro w hS
              refine hK30 _ _ ?_
              refine cw_seq fun K35 hK35 => ?_
              refine cw_region ?_
              refine wl_op rfl rfl (ow_vr (vr_move (v := .int .i64 n2) rfl) ?_)
              refine wl_op rfl rfl (ow_vr (vr_move (v := .int .i64 v2) rfl) ?_)
              refine wl_op rfl rfl (ow_vr (vr_move (v := vx) rfl) ?_)
              refine wl_op rfl rfl (ow_fng (vs := [.int .i64 n2, .int .i64 v2, vx]) en_53 rfl hS (page_At n2 v2 (pagesB (allP no v a)) _ _ hvx (by simp [pagesB]) (by rw [pages_flat (all_length hk1), all_length hk1]; omega)) (by first | exact needs1 (by first | exact List.Mem.head _ | exact List.Mem.tail _ (List.Mem.head _) | exact List.Mem.tail _ (List.Mem.tail _ (List.Mem.head _)) | exact List.Mem.tail _ (List.Mem.tail _ (List.Mem.tail _ (List.Mem.head _))) | exact List.Mem.tail _ (List.Mem.tail _ (List.Mem.tail _ (List.Mem.tail _ (List.Mem.head _)))) | exact List.Mem.tail _ (List.Mem.tail _ (List.Mem.tail _ (List.Mem.tail _ (List.Mem.tail _ (List.Mem.head _))))) | exact List.Mem.tail _ (List.Mem.tail _ (List.Mem.tail _ (List.Mem.tail _ (List.Mem.tail _ (List.Mem.tail _ (List.Mem.head _)))))) | exact List.Mem.tail _ (List.Mem.tail _ (List.Mem.tail _ (List.Mem.tail _ (List.Mem.tail _ (List.Mem.tail _ (List.Mem.tail _ (List.Mem.head _))))))) | exact List.Mem.tail _ (List.Mem.tail _ (List.Mem.tail _ (List.Mem.tail _ (List.Mem.tail _ (List.Mem.tail _ (List.Mem.tail _ (List.Mem.tail _ (List.Mem.head _)))))))) | exact (by assumption) | exact List.Mem.tail _ ((by assumption)) | exact List.Mem.tail _ (List.Mem.tail _ ((by assumption))) | exact List.Mem.tail _ (List.Mem.tail _ (List.Mem.tail _ ((by assumption)))) | exact List.Mem.tail _ (List.Mem.tail _ (List.Mem.tail _ (List.Mem.tail _ ((by assumption))))) | exact List.Mem.tail _ (List.Mem.tail _ (List.Mem.tail _ (List.Mem.tail _ (List.Mem.tail _ ((by assumption))))))) | exact needs0 | exact needs2 (by first | exact List.Mem.head _ | exact List.Mem.tail _ (List.Mem.head _) | exact List.Mem.tail _ (List.Mem.tail _ (List.Mem.head _)) | exact List.Mem.tail _ (List.Mem.tail _ (List.Mem.tail _ (List.Mem.head _))) | exact List.Mem.tail _ (List.Mem.tail _ (List.Mem.tail _ (List.Mem.tail _ (List.Mem.head _)))) | exact List.Mem.tail _ (List.Mem.tail _ (List.Mem.tail _ (List.Mem.tail _ (List.Mem.tail _ (List.Mem.head _))))) | exact List.Mem.tail _ (List.Mem.tail _ (List.Mem.tail _ (List.Mem.tail _ (List.Mem.tail _ (List.Mem.tail _ (List.Mem.head _)))))) | exact List.Mem.tail _ (List.Mem.tail _ (List.Mem.tail _ (List.Mem.tail _ (List.Mem.tail _ (List.Mem.tail _ (List.Mem.tail _ (List.Mem.head _))))))) | exact List.Mem.tail _ (List.Mem.tail _ (List.Mem.tail _ (List.Mem.tail _ (List.Mem.tail _ (List.Mem.tail _ (List.Mem.tail _ (List.Mem.tail _ (List.Mem.head _)))))))) | exact (by assumption) | exact List.Mem.tail _ ((by assumption)) | exact List.Mem.tail _ (List.Mem.tail _ ((by assumption))) | exact List.Mem.tail _ (List.Mem.tail _ (List.Mem.tail _ ((by assumption)))) | exact List.Mem.tail _ (List.Mem.tail _ (List.Mem.tail _ (List.Mem.tail _ ((by assumption))))) | exact List.Mem.tail _ (List.Mem.tail _ (List.Mem.tail _ (List.Mem.tail _ (List.Mem.tail _ ((by assumption))))))) (by first | exact List.Mem.head _ | exact List.Mem.tail _ (List.Mem.head _) | exact List.Mem.tail _ (List.Mem.tail _ (List.Mem.head _)) | exact List.Mem.tail _ (List.Mem.tail _ (List.Mem.tail _ (List.Mem.head _))) | exact List.Mem.tail _ (List.Mem.tail _ (List.Mem.tail _ (List.Mem.tail _ (List.Mem.head _)))) | exact List.Mem.tail _ (List.Mem.tail _ (List.Mem.tail _ (List.Mem.tail _ (List.Mem.tail _ (List.Mem.head _))))) | exact List.Mem.tail _ (List.Mem.tail _ (List.Mem.tail _ (List.Mem.tail _ (List.Mem.tail _ (List.Mem.tail _ (List.Mem.head _)))))) | exact List.Mem.tail _ (List.Mem.tail _ (List.Mem.tail _ (List.Mem.tail _ (List.Mem.tail _ (List.Mem.tail _ (List.Mem.tail _ (List.Mem.head _))))))) | exact List.Mem.tail _ (List.Mem.tail _ (List.Mem.tail _ (List.Mem.tail _ (List.Mem.tail _ (List.Mem.tail _ (List.Mem.tail _ (List.Mem.tail _ (List.Mem.head _)))))))) | exact (by assumption) | exact List.Mem.tail _ ((by assumption)) | exact List.Mem.tail _ (List.Mem.tail _ ((by assumption))) | exact List.Mem.tail _ (List.Mem.tail _ (List.Mem.tail _ ((by assumption)))) | exact List.Mem.tail _ (List.Mem.tail _ (List.Mem.tail _ (List.Mem.tail _ ((by assumption))))) | exact List.Mem.tail _ (List.Mem.tail _ (List.Mem.tail _ (List.Mem.tail _ (List.Mem.tail _ ((by assumption))))))) | exact needs3 (by first | exact List.Mem.head _ | exact List.Mem.tail _ (List.Mem.head _) | exact List.Mem.tail _ (List.Mem.tail _ (List.Mem.head _)) | exact List.Mem.tail _ (List.Mem.tail _ (List.Mem.tail _ (List.Mem.head _))) | exact List.Mem.tail _ (List.Mem.tail _ (List.Mem.tail _ (List.Mem.tail _ (List.Mem.head _)))) | exact List.Mem.tail _ (List.Mem.tail _ (List.Mem.tail _ (List.Mem.tail _ (List.Mem.tail _ (List.Mem.head _))))) | exact List.Mem.tail _ (List.Mem.tail _ (List.Mem.tail _ (List.Mem.tail _ (List.Mem.tail _ (List.Mem.tail _ (List.Mem.head _)))))) | exact List.Mem.tail _ (List.Mem.tail _ (List.Mem.tail _ (List.Mem.tail _ (List.Mem.tail _ (List.Mem.tail _ (List.Mem.tail _ (List.Mem.head _))))))) | exact List.Mem.tail _ (List.Mem.tail _ (List.Mem.tail _ (List.Mem.tail _ (List.Mem.tail _ (List.Mem.tail _ (List.Mem.tail _ (List.Mem.tail _ (List.Mem.head _)))))))) | exact (by assumption) | exact List.Mem.tail _ ((by assumption)) | exact List.Mem.tail _ (List.Mem.tail _ ((by assumption))) | exact List.Mem.tail _ (List.Mem.tail _ (List.Mem.tail _ ((by assumption)))) | exact List.Mem.tail _ (List.Mem.tail _ (List.Mem.tail _ (List.Mem.tail _ ((by assumption))))) | exact List.Mem.tail _ (List.Mem.tail _ (List.Mem.tail _ (List.Mem.tail _ (List.Mem.tail _ ((by assumption))))))) (by first | exact List.Mem.head _ | exact List.Mem.tail _ (List.Mem.head _) | exact List.Mem.tail _ (List.Mem.tail _ (List.Mem.head _)) | exact List.Mem.tail _ (List.Mem.tail _ (List.Mem.tail _ (List.Mem.head _))) | exact List.Mem.tail _ (List.Mem.tail _ (List.Mem.tail _ (List.Mem.tail _ (List.Mem.head _)))) | exact List.Mem.tail _ (List.Mem.tail _ (List.Mem.tail _ (List.Mem.tail _ (List.Mem.tail _ (List.Mem.head _))))) | exact List.Mem.tail _ (List.Mem.tail _ (List.Mem.tail _ (List.Mem.tail _ (List.Mem.tail _ (List.Mem.tail _ (List.Mem.head _)))))) | exact List.Mem.tail _ (List.Mem.tail _ (List.Mem.tail _ (List.Mem.tail _ (List.Mem.tail _ (List.Mem.tail _ (List.Mem.tail _ (List.Mem.head _))))))) | exact List.Mem.tail _ (List.Mem.tail _ (List.Mem.tail _ (List.Mem.tail _ (List.Mem.tail _ (List.Mem.tail _ (List.Mem.tail _ (List.Mem.tail _ (List.Mem.head _)))))))) | exact (by assumption) | exact List.Mem.tail _ ((by assumption)) | exact List.Mem.tail _ (List.Mem.tail _ ((by assumption))) | exact List.Mem.tail _ (List.Mem.tail _ (List.Mem.tail _ ((by assumption)))) | exact List.Mem.tail _ (List.Mem.tail _ (List.Mem.tail _ (List.Mem.tail _ ((by assumption))))) | exact List.Mem.tail _ (List.Mem.tail _ (List.Mem.tail _ (List.Mem.tail _ (List.Mem.tail _ ((by assumption))))))) (by first | exact List.Mem.head _ | exact List.Mem.tail _ (List.Mem.head _) | exact List.Mem.tail _ (List.Mem.tail _ (List.Mem.head _)) | exact List.Mem.tail _ (List.Mem.tail _ (List.Mem.tail _ (List.Mem.head _))) | exact List.Mem.tail _ (List.Mem.tail _ (List.Mem.tail _ (List.Mem.tail _ (List.Mem.head _)))) | exact List.Mem.tail _ (List.Mem.tail _ (List.Mem.tail _ (List.Mem.tail _ (List.Mem.tail _ (List.Mem.head _))))) | exact List.Mem.tail _ (List.Mem.tail _ (List.Mem.tail _ (List.Mem.tail _ (List.Mem.tail _ (List.Mem.tail _ (List.Mem.head _)))))) | exact List.Mem.tail _ (List.Mem.tail _ (List.Mem.tail _ (List.Mem.tail _ (List.Mem.tail _ (List.Mem.tail _ (List.Mem.tail _ (List.Mem.head _))))))) | exact List.Mem.tail _ (List.Mem.tail _ (List.Mem.tail _ (List.Mem.tail _ (List.Mem.tail _ (List.Mem.tail _ (List.Mem.tail _ (List.Mem.tail _ (List.Mem.head _)))))))) | exact (by assumption) | exact List.Mem.tail _ ((by assumption)) | exact List.Mem.tail _ (List.Mem.tail _ ((by assumption))) | exact List.Mem.tail _ (List.Mem.tail _ (List.Mem.tail _ ((by assumption)))) | exact List.Mem.tail _ (List.Mem.tail _ (List.Mem.tail _ (List.Mem.tail _ ((by assumption))))) | exact List.Mem.tail _ (List.Mem.tail _ (List.Mem.tail _ (List.Mem.tail _ (List.Mem.tail _ ((by assumption)))))))) ?_)
              clear hS; rintro v114 _ w ⟨vq, Dq, rfl, rfl, hoq⟩ hS; (try simp only [List.cons_append, List.nil_append] at hS)
              refine wl_op rfl rfl (ow_vr (vr_move (v := .tuple _) rfl) ?_)
              refine wl_op rfl rfl (ow_vr (vr_extract (v := vq) rfl rfl) ?_)
              refine wl_op rfl rfl (ow_vr (vr_extract (v := .bool _) rfl rfl) ?_)
              refine wl_op rfl rfl (ow_vr (vr_assign (v := vq) rfl) ?_)
              refine wl_op rfl rfl (ow_vr (vr_assign (v := .bool _) rfl) ?_)
              refine wl_nil ?_
              refine hK35 _ _ ?_
              refine cw_seq fun K36 hK36 => ?_
              have hinj := pages_inj hk1 hk2
              rw [pages_three] at hinj
              have hat := at_pages (m := n2) (w := v2) hk1
              refine cw_region ?_
              refine wl_op rfl rfl (ow_vr (vr_move (v := .bool _) rfl) ?_)
              refine wl_op rfl rfl (ow_vr (vr_move (v := .bool same) rfl) ?_)
              refine wl_op rfl rfl (ow_vr (vr_eqlb Try.underlying4 rfl rfl) ?_)
              refine wl_op rfl rfl (ow_vr (vr_move (v := .bool _) rfl) ?_)
              refine wl_known 120 rfl (c := true) (by (simp_all) <;> (by_cases hvv : v = v2 <;> simp_all)) ?_
              refine wl_yes rfl rfl rfl rfl rfl (ow_vr (vr_move (v := .bool _) rfl) ?_)
              refine wl_yes rfl rfl rfl rfl rfl (ow_vr (vr_move (v := .int .i64 no) rfl) ?_)
              refine wl_yes rfl rfl rfl rfl rfl (ow_vr (vr_move (v := .int .i64 n2) rfl) ?_)
              refine wl_yes rfl rfl rfl rfl rfl (ow_vr (vr_eql rfl rfl) ?_)
              refine wl_yes rfl rfl rfl rfl rfl (ow_vr (vr_move (v := .bool _) rfl) ?_)
              refine wl_split 125 rfl (fun hc => ?_) (fun hc => ?_)
              · (try simp only [decide_eq_true_eq, decide_eq_false_iff_not, Bool.not_eq_true, Bool.not_eq_false, Bool.not_eq_true', Bool.not_eq_false', Bool.and_eq_true, Bool.or_eq_true, Bool.and_eq_false_iff, Bool.or_eq_false_iff, Int.not_lt, Int.not_le, gt_iff_lt, ge_iff_le, ne_eq, Decidable.not_not, beq_iff_eq] at hc)
                have h125 := hc; clear hc
                refine wl_yes rfl rfl rfl rfl rfl (ow_vr (vr_move (v := .int .i64 v) rfl) ?_)
                refine wl_yes rfl rfl rfl rfl rfl (ow_vr (vr_move (v := .int .i64 v2) rfl) ?_)
                refine wl_yes rfl rfl rfl rfl rfl (ow_vr (vr_eql rfl rfl) ?_)
                refine wl_yes rfl rfl rfl rfl rfl (ow_vr (vr_pick (b := true) (v := .bool _) rfl rfl) ?_)
                refine wl_yes rfl rfl rfl rfl rfl (ow_vr (vr_eqlb Try.underlying4 rfl rfl) ?_)
                refine wl_op rfl rfl (ow_vr (vr_pick (b := true) (v := .bool _) rfl rfl) ?_)
                refine wl_op rfl rfl (ow_vr (vr_assign (v := .bool _) rfl) ?_)
                refine wl_nil ?_
                refine hK36 _ _ ?_
                refine cw_ret ?_
                refine ret_one (fn := Try.f9) (n := 132) (t := 12) (.inl rfl) rfl rfl ?_
                exact ⟨[], ⟨congrArg Value.bool (by simp_all), rfl⟩, hS.tail1.tail1.tail1.tail1.tail1⟩
              · (try simp only [decide_eq_true_eq, decide_eq_false_iff_not, Bool.not_eq_true, Bool.not_eq_false, Bool.not_eq_true', Bool.not_eq_false', Bool.and_eq_true, Bool.or_eq_true, Bool.and_eq_false_iff, Bool.or_eq_false_iff, Int.not_lt, Int.not_le, gt_iff_lt, ge_iff_le, ne_eq, Decidable.not_not, beq_iff_eq] at hc)
                have h125 := hc; clear hc
                refine wl_noD rfl rfl rfl rfl rfl rfl ?_
                refine wl_noD rfl rfl rfl rfl rfl rfl ?_
                refine wl_noD rfl rfl rfl rfl rfl rfl ?_
                refine wl_yes rfl rfl rfl rfl rfl (ow_vr (vr_pick (b := false) (v := .bool _) rfl rfl) ?_)
                refine wl_yes rfl rfl rfl rfl rfl (ow_vr (vr_eqlb Try.underlying4 rfl rfl) ?_)
                refine wl_op rfl rfl (ow_vr (vr_pick (b := true) (v := .bool _) rfl rfl) ?_)
                refine wl_op rfl rfl (ow_vr (vr_assign (v := .bool _) rfl) ?_)
                refine wl_nil ?_
                refine hK36 _ _ ?_
                refine cw_ret ?_
                refine ret_one (fn := Try.f9) (n := 132) (t := 12) (.inl rfl) rfl rfl ?_
                exact ⟨[], ⟨congrArg Value.bool (by simp_all), rfl⟩, hS.tail1.tail1.tail1.tail1.tail1⟩
end Go.Proofs.Ytjhbmogpicddeaa
