/- PageTorn. -/
import Derived.Test.YtjhbmogpicddeaaLawPage
namespace Go.Proofs.Ytjhbmogpicddeaa
open Go Go.RowKit
set_option linter.unusedVariables false
set_option linter.unusedSimpArgs false
attribute [local irreducible] actF WL CW OW PL SW VR LR yes Returns Fn
/-- Is the k-th one taken? -/
def bitI (mix : Int) (k : Nat) : Bool := decide (andI (mix / 2 ^ k) 1 = 1)
def mixL (mix : Int) (pa pb : List (List UInt8)) : Nat → List (List UInt8)
  | 0 => pa
  | k + 1 => if bitI mix k then (mixL mix pa pb k).set k ((pb[k]?).getD []) else mixL mix pa pb k
def alikeL (mix : Int) (pa pb : List (List UInt8)) : Nat → Bool
  | 0 => true
  | k + 1 => alikeL mix pa pb k && (!bitI mix k || decide (pa[k]? = pb[k]?))
theorem mix_length (mix : Int) (pa pb : List (List UInt8)) : ∀ k, (mixL mix pa pb k).length = pa.length
  | 0 => rfl
  | k + 1 => by rw [mixL]; split <;> simp [mix_length mix pa pb k]
theorem mix_rest (mix : Int) (pa pb : List (List UInt8)) : ∀ k j, k ≤ j → (mixL mix pa pb k)[j]? = pa[j]?
  | 0, _, _ => rfl
  | k + 1, j, h => by
    rw [mixL]; split
    · rw [List.getElem?_set, if_neg (by omega)]; exact mix_rest mix pa pb k j (by omega)
    · exact mix_rest mix pa pb k j (by omega)
theorem mix_alike (mix : Int) (pa pb : List (List UInt8)) (h : pa.length = pb.length) : ∀ k, k ≤ pa.length → alikeL mix pa pb k = true → mixL mix pa pb k = pa
  | 0, _, _ => rfl
  | k + 1, hk, ha => by
    rw [alikeL, Bool.and_eq_true] at ha
    have ih := mix_alike mix pa pb h k (by omega) ha.1
    rw [mixL, ih]
    split
    · rename_i hb
      have h2 : pa[k]? = pb[k]? := by have := ha.2; rw [hb] at this; simpa using this
      obtain ⟨x, hx⟩ := get_lt (xs := pa) (k := k) (by omega)
      rw [← h2, hx]
      apply List.ext_getElem?
      intro i
      rw [List.getElem?_set]
      split
      · rename_i e; subst e; rw [hx, if_pos (by omega)]; rfl
      · rfl
    · rfl
theorem mix_mem (mix : Int) (pa pb : List (List UInt8)) (P : List UInt8 → Prop) (ha : ∀ x ∈ pa, P x) (hb : ∀ x ∈ pb, P x) (hl : pa.length = pb.length) : ∀ k, k ≤ pa.length → ∀ x ∈ mixL mix pa pb k, P x
  | 0, _ => ha
  | k + 1, hk => by
    rw [mixL]; split
    · intro x hx
      rcases List.mem_or_eq_of_mem_set hx with h | h
      · exact mix_mem mix pa pb P ha hb hl k (by omega) x h
      · obtain ⟨y, hy⟩ := get_lt (xs := pb) (k := k) (by omega)
        rw [h, hy]; exact hb y (List.mem_of_getElem? hy)
    · exact mix_mem mix pa pb P ha hb hl k (by omega)
theorem flat_le (l : List (List UInt8)) (h : ∀ x ∈ l, x.length = 32) : l.flatten.length = 32 * l.length := by
  induction l with
  | nil => rfl
  | cons x t ih => rw [List.flatten_cons, List.length_append, h x (by simp), ih (fun y hy => h y (by simp [hy])), List.length_cons]; omega
theorem pages_len {s : List UInt8} (h : s.length = 96) : ∀ x ∈ pagesB s, x.length = 32 := by
  intro x hx
  simp only [pagesB, List.mem_map, List.mem_range] at hx
  obtain ⟨k, hk, rfl⟩ := hx
  exact chunk_length h hk
set_option maxHeartbeats 1000000 in
theorem page_torn (no v v2 mix : Int) (la lb : List Int) (va vb : Value) (Δa Δb : Chunk) (hva : View 1 encI va la Δa) (hvb : View 1 encI vb lb Δb) (hna : la.length ≤ maxLen) (hnb : lb.length ≤ maxLen) :
    FnG Try.prog 8 [.int .i64 no, .int .i64 v, .int .i64 v2, va, vb, .int .i64 mix] [Δa, Δb] (fun u Δs => u = .bool true ∧ Δs = []) := by
  refine FnG.mk fun E F w hS hF => ?_
  have hFa : Δa ∈ F := hF _ (by simp)
  have hFb : Δb ∈ F := hF _ (by simp)
  obtain ⟨a, ha⟩ : ∃ a, sixteenL la = a := ⟨_, rfl⟩
  obtain ⟨b, hb⟩ : ∃ b, sixteenL lb = b := ⟨_, rfl⟩
  have hsA := law_Sixteen la va Δa hva hna
  have hsB := law_Sixteen lb vb Δb hvb hnb
  rw [ha] at hsA
  rw [hb] at hsB
  refine returns_enter Try.func8 rfl Try.ntmps8 rfl ?_
  refine cw_seq fun K1 hK1 => ?_
  refine cw_region ?_
  refine wl_op rfl rfl (ow_vr (vr_assign (v := .bool false) rfl) ?_)
  refine wl_nil ?_
  refine hK1 _ _ ?_
  refine cw_seq fun K2 hK2 => ?_
  refine cw_region ?_
  refine wl_op rfl rfl (ow_vr (vr_move (v := va) rfl) ?_)
  refine wl_op rfl rfl (ow_fng (vs := [va]) en_43 rfl hS (hsA) (by first | exact needs1 (by first | exact List.Mem.head _ | exact List.Mem.tail _ (List.Mem.head _) | exact List.Mem.tail _ (List.Mem.tail _ (List.Mem.head _)) | exact List.Mem.tail _ (List.Mem.tail _ (List.Mem.tail _ (List.Mem.head _))) | exact List.Mem.tail _ (List.Mem.tail _ (List.Mem.tail _ (List.Mem.tail _ (List.Mem.head _)))) | exact List.Mem.tail _ (List.Mem.tail _ (List.Mem.tail _ (List.Mem.tail _ (List.Mem.tail _ (List.Mem.head _))))) | exact List.Mem.tail _ (List.Mem.tail _ (List.Mem.tail _ (List.Mem.tail _ (List.Mem.tail _ (List.Mem.tail _ (List.Mem.head _)))))) | exact List.Mem.tail _ (List.Mem.tail _ (List.Mem.tail _ (List.Mem.tail _ (List.Mem.tail _ (List.Mem.tail _ (List.Mem.tail _ (List.Mem.head _))))))) | exact List.Mem.tail _ (List.Mem.tail _ (List.Mem.tail _ (List.Mem.tail _ (List.Mem.tail _ (List.Mem.tail _ (List.Mem.tail _ (List.Mem.tail _ (List.Mem.head _)))))))) | exact (by assumption) | exact List.Mem.tail _ ((by assumption)) | exact List.Mem.tail _ (List.Mem.tail _ ((by assumption))) | exact List.Mem.tail _ (List.Mem.tail _ (List.Mem.tail _ ((by assumption)))) | exact List.Mem.tail _ (List.Mem.tail _ (List.Mem.tail _ (List.Mem.tail _ ((by assumption))))) | exact List.Mem.tail _ (List.Mem.tail _ (List.Mem.tail _ (List.Mem.tail _ (List.Mem.tail _ ((by assumption))))))) | exact needs0 | exact needs2 (by first | exact List.Mem.head _ | exact List.Mem.tail _ (List.Mem.head _) | exact List.Mem.tail _ (List.Mem.tail _ (List.Mem.head _)) | exact List.Mem.tail _ (List.Mem.tail _ (List.Mem.tail _ (List.Mem.head _))) | exact List.Mem.tail _ (List.Mem.tail _ (List.Mem.tail _ (List.Mem.tail _ (List.Mem.head _)))) | exact List.Mem.tail _ (List.Mem.tail _ (List.Mem.tail _ (List.Mem.tail _ (List.Mem.tail _ (List.Mem.head _))))) | exact List.Mem.tail _ (List.Mem.tail _ (List.Mem.tail _ (List.Mem.tail _ (List.Mem.tail _ (List.Mem.tail _ (List.Mem.head _)))))) | exact List.Mem.tail _ (List.Mem.tail _ (List.Mem.tail _ (List.Mem.tail _ (List.Mem.tail _ (List.Mem.tail _ (List.Mem.tail _ (List.Mem.head _))))))) | exact List.Mem.tail _ (List.Mem.tail _ (List.Mem.tail _ (List.Mem.tail _ (List.Mem.tail _ (List.Mem.tail _ (List.Mem.tail _ (List.Mem.tail _ (List.Mem.head _)))))))) | exact (by assumption) | exact List.Mem.tail _ ((by assumption)) | exact List.Mem.tail _ (List.Mem.tail _ ((by assumption))) | exact List.Mem.tail _ (List.Mem.tail _ (List.Mem.tail _ ((by assumption)))) | exact List.Mem.tail _ (List.Mem.tail _ (List.Mem.tail _ (List.Mem.tail _ ((by assumption))))) | exact List.Mem.tail _ (List.Mem.tail _ (List.Mem.tail _ (List.Mem.tail _ (List.Mem.tail _ ((by assumption))))))) (by first | exact List.Mem.head _ | exact List.Mem.tail _ (List.Mem.head _) | exact List.Mem.tail _ (List.Mem.tail _ (List.Mem.head _)) | exact List.Mem.tail _ (List.Mem.tail _ (List.Mem.tail _ (List.Mem.head _))) | exact List.Mem.tail _ (List.Mem.tail _ (List.Mem.tail _ (List.Mem.tail _ (List.Mem.head _)))) | exact List.Mem.tail _ (List.Mem.tail _ (List.Mem.tail _ (List.Mem.tail _ (List.Mem.tail _ (List.Mem.head _))))) | exact List.Mem.tail _ (List.Mem.tail _ (List.Mem.tail _ (List.Mem.tail _ (List.Mem.tail _ (List.Mem.tail _ (List.Mem.head _)))))) | exact List.Mem.tail _ (List.Mem.tail _ (List.Mem.tail _ (List.Mem.tail _ (List.Mem.tail _ (List.Mem.tail _ (List.Mem.tail _ (List.Mem.head _))))))) | exact List.Mem.tail _ (List.Mem.tail _ (List.Mem.tail _ (List.Mem.tail _ (List.Mem.tail _ (List.Mem.tail _ (List.Mem.tail _ (List.Mem.tail _ (List.Mem.head _)))))))) | exact (by assumption) | exact List.Mem.tail _ ((by assumption)) | exact List.Mem.tail _ (List.Mem.tail _ ((by assumption))) | exact List.Mem.tail _ (List.Mem.tail _ (List.Mem.tail _ ((by assumption)))) | exact List.Mem.tail _ (List.Mem.tail _ (List.Mem.tail _ (List.Mem.tail _ ((by assumption))))) | exact List.Mem.tail _ (List.Mem.tail _ (List.Mem.tail _ (List.Mem.tail _ (List.Mem.tail _ ((by assumption))))))) | exact needs3 (by first | exact List.Mem.head _ | exact List.Mem.tail _ (List.Mem.head _) | exact List.Mem.tail _ (List.Mem.tail _ (List.Mem.head _)) | exact List.Mem.tail _ (List.Mem.tail _ (List.Mem.tail _ (List.Mem.head _))) | exact List.Mem.tail _ (List.Mem.tail _ (List.Mem.tail _ (List.Mem.tail _ (List.Mem.head _)))) | exact List.Mem.tail _ (List.Mem.tail _ (List.Mem.tail _ (List.Mem.tail _ (List.Mem.tail _ (List.Mem.head _))))) | exact List.Mem.tail _ (List.Mem.tail _ (List.Mem.tail _ (List.Mem.tail _ (List.Mem.tail _ (List.Mem.tail _ (List.Mem.head _)))))) | exact List.Mem.tail _ (List.Mem.tail _ (List.Mem.tail _ (List.Mem.tail _ (List.Mem.tail _ (List.Mem.tail _ (List.Mem.tail _ (List.Mem.head _))))))) | exact List.Mem.tail _ (List.Mem.tail _ (List.Mem.tail _ (List.Mem.tail _ (List.Mem.tail _ (List.Mem.tail _ (List.Mem.tail _ (List.Mem.tail _ (List.Mem.head _)))))))) | exact (by assumption) | exact List.Mem.tail _ ((by assumption)) | exact List.Mem.tail _ (List.Mem.tail _ ((by assumption))) | exact List.Mem.tail _ (List.Mem.tail _ (List.Mem.tail _ ((by assumption)))) | exact List.Mem.tail _ (List.Mem.tail _ (List.Mem.tail _ (List.Mem.tail _ ((by assumption))))) | exact List.Mem.tail _ (List.Mem.tail _ (List.Mem.tail _ (List.Mem.tail _ (List.Mem.tail _ ((by assumption))))))) (by first | exact List.Mem.head _ | exact List.Mem.tail _ (List.Mem.head _) | exact List.Mem.tail _ (List.Mem.tail _ (List.Mem.head _)) | exact List.Mem.tail _ (List.Mem.tail _ (List.Mem.tail _ (List.Mem.head _))) | exact List.Mem.tail _ (List.Mem.tail _ (List.Mem.tail _ (List.Mem.tail _ (List.Mem.head _)))) | exact List.Mem.tail _ (List.Mem.tail _ (List.Mem.tail _ (List.Mem.tail _ (List.Mem.tail _ (List.Mem.head _))))) | exact List.Mem.tail _ (List.Mem.tail _ (List.Mem.tail _ (List.Mem.tail _ (List.Mem.tail _ (List.Mem.tail _ (List.Mem.head _)))))) | exact List.Mem.tail _ (List.Mem.tail _ (List.Mem.tail _ (List.Mem.tail _ (List.Mem.tail _ (List.Mem.tail _ (List.Mem.tail _ (List.Mem.head _))))))) | exact List.Mem.tail _ (List.Mem.tail _ (List.Mem.tail _ (List.Mem.tail _ (List.Mem.tail _ (List.Mem.tail _ (List.Mem.tail _ (List.Mem.tail _ (List.Mem.head _)))))))) | exact (by assumption) | exact List.Mem.tail _ ((by assumption)) | exact List.Mem.tail _ (List.Mem.tail _ ((by assumption))) | exact List.Mem.tail _ (List.Mem.tail _ (List.Mem.tail _ ((by assumption)))) | exact List.Mem.tail _ (List.Mem.tail _ (List.Mem.tail _ (List.Mem.tail _ ((by assumption))))) | exact List.Mem.tail _ (List.Mem.tail _ (List.Mem.tail _ (List.Mem.tail _ (List.Mem.tail _ ((by assumption))))))) (by first | exact List.Mem.head _ | exact List.Mem.tail _ (List.Mem.head _) | exact List.Mem.tail _ (List.Mem.tail _ (List.Mem.head _)) | exact List.Mem.tail _ (List.Mem.tail _ (List.Mem.tail _ (List.Mem.head _))) | exact List.Mem.tail _ (List.Mem.tail _ (List.Mem.tail _ (List.Mem.tail _ (List.Mem.head _)))) | exact List.Mem.tail _ (List.Mem.tail _ (List.Mem.tail _ (List.Mem.tail _ (List.Mem.tail _ (List.Mem.head _))))) | exact List.Mem.tail _ (List.Mem.tail _ (List.Mem.tail _ (List.Mem.tail _ (List.Mem.tail _ (List.Mem.tail _ (List.Mem.head _)))))) | exact List.Mem.tail _ (List.Mem.tail _ (List.Mem.tail _ (List.Mem.tail _ (List.Mem.tail _ (List.Mem.tail _ (List.Mem.tail _ (List.Mem.head _))))))) | exact List.Mem.tail _ (List.Mem.tail _ (List.Mem.tail _ (List.Mem.tail _ (List.Mem.tail _ (List.Mem.tail _ (List.Mem.tail _ (List.Mem.tail _ (List.Mem.head _)))))))) | exact (by assumption) | exact List.Mem.tail _ ((by assumption)) | exact List.Mem.tail _ (List.Mem.tail _ ((by assumption))) | exact List.Mem.tail _ (List.Mem.tail _ (List.Mem.tail _ ((by assumption)))) | exact List.Mem.tail _ (List.Mem.tail _ (List.Mem.tail _ (List.Mem.tail _ ((by assumption))))) | exact List.Mem.tail _ (List.Mem.tail _ (List.Mem.tail _ (List.Mem.tail _ (List.Mem.tail _ ((by assumption)))))))) ?_)
  clear hS; rintro v29 _ w ⟨DA, rfl, hoA⟩ hS; (try simp only [List.cons_append, List.nil_append] at hS)
  refine wl_op rfl rfl (ow_vr (vr_move (v := vb) rfl) ?_)
  refine wl_op rfl rfl (ow_fng (vs := [vb]) en_43 rfl hS (hsB) (by first | exact needs1 (by first | exact List.Mem.head _ | exact List.Mem.tail _ (List.Mem.head _) | exact List.Mem.tail _ (List.Mem.tail _ (List.Mem.head _)) | exact List.Mem.tail _ (List.Mem.tail _ (List.Mem.tail _ (List.Mem.head _))) | exact List.Mem.tail _ (List.Mem.tail _ (List.Mem.tail _ (List.Mem.tail _ (List.Mem.head _)))) | exact List.Mem.tail _ (List.Mem.tail _ (List.Mem.tail _ (List.Mem.tail _ (List.Mem.tail _ (List.Mem.head _))))) | exact List.Mem.tail _ (List.Mem.tail _ (List.Mem.tail _ (List.Mem.tail _ (List.Mem.tail _ (List.Mem.tail _ (List.Mem.head _)))))) | exact List.Mem.tail _ (List.Mem.tail _ (List.Mem.tail _ (List.Mem.tail _ (List.Mem.tail _ (List.Mem.tail _ (List.Mem.tail _ (List.Mem.head _))))))) | exact List.Mem.tail _ (List.Mem.tail _ (List.Mem.tail _ (List.Mem.tail _ (List.Mem.tail _ (List.Mem.tail _ (List.Mem.tail _ (List.Mem.tail _ (List.Mem.head _)))))))) | exact (by assumption) | exact List.Mem.tail _ ((by assumption)) | exact List.Mem.tail _ (List.Mem.tail _ ((by assumption))) | exact List.Mem.tail _ (List.Mem.tail _ (List.Mem.tail _ ((by assumption)))) | exact List.Mem.tail _ (List.Mem.tail _ (List.Mem.tail _ (List.Mem.tail _ ((by assumption))))) | exact List.Mem.tail _ (List.Mem.tail _ (List.Mem.tail _ (List.Mem.tail _ (List.Mem.tail _ ((by assumption))))))) | exact needs0 | exact needs2 (by first | exact List.Mem.head _ | exact List.Mem.tail _ (List.Mem.head _) | exact List.Mem.tail _ (List.Mem.tail _ (List.Mem.head _)) | exact List.Mem.tail _ (List.Mem.tail _ (List.Mem.tail _ (List.Mem.head _))) | exact List.Mem.tail _ (List.Mem.tail _ (List.Mem.tail _ (List.Mem.tail _ (List.Mem.head _)))) | exact List.Mem.tail _ (List.Mem.tail _ (List.Mem.tail _ (List.Mem.tail _ (List.Mem.tail _ (List.Mem.head _))))) | exact List.Mem.tail _ (List.Mem.tail _ (List.Mem.tail _ (List.Mem.tail _ (List.Mem.tail _ (List.Mem.tail _ (List.Mem.head _)))))) | exact List.Mem.tail _ (List.Mem.tail _ (List.Mem.tail _ (List.Mem.tail _ (List.Mem.tail _ (List.Mem.tail _ (List.Mem.tail _ (List.Mem.head _))))))) | exact List.Mem.tail _ (List.Mem.tail _ (List.Mem.tail _ (List.Mem.tail _ (List.Mem.tail _ (List.Mem.tail _ (List.Mem.tail _ (List.Mem.tail _ (List.Mem.head _)))))))) | exact (by assumption) | exact List.Mem.tail _ ((by assumption)) | exact List.Mem.tail _ (List.Mem.tail _ ((by assumption))) | exact List.Mem.tail _ (List.Mem.tail _ (List.Mem.tail _ ((by assumption)))) | exact List.Mem.tail _ (List.Mem.tail _ (List.Mem.tail _ (List.Mem.tail _ ((by assumption))))) | exact List.Mem.tail _ (List.Mem.tail _ (List.Mem.tail _ (List.Mem.tail _ (List.Mem.tail _ ((by assumption))))))) (by first | exact List.Mem.head _ | exact List.Mem.tail _ (List.Mem.head _) | exact List.Mem.tail _ (List.Mem.tail _ (List.Mem.head _)) | exact List.Mem.tail _ (List.Mem.tail _ (List.Mem.tail _ (List.Mem.head _))) | exact List.Mem.tail _ (List.Mem.tail _ (List.Mem.tail _ (List.Mem.tail _ (List.Mem.head _)))) | exact List.Mem.tail _ (List.Mem.tail _ (List.Mem.tail _ (List.Mem.tail _ (List.Mem.tail _ (List.Mem.head _))))) | exact List.Mem.tail _ (List.Mem.tail _ (List.Mem.tail _ (List.Mem.tail _ (List.Mem.tail _ (List.Mem.tail _ (List.Mem.head _)))))) | exact List.Mem.tail _ (List.Mem.tail _ (List.Mem.tail _ (List.Mem.tail _ (List.Mem.tail _ (List.Mem.tail _ (List.Mem.tail _ (List.Mem.head _))))))) | exact List.Mem.tail _ (List.Mem.tail _ (List.Mem.tail _ (List.Mem.tail _ (List.Mem.tail _ (List.Mem.tail _ (List.Mem.tail _ (List.Mem.tail _ (List.Mem.head _)))))))) | exact (by assumption) | exact List.Mem.tail _ ((by assumption)) | exact List.Mem.tail _ (List.Mem.tail _ ((by assumption))) | exact List.Mem.tail _ (List.Mem.tail _ (List.Mem.tail _ ((by assumption)))) | exact List.Mem.tail _ (List.Mem.tail _ (List.Mem.tail _ (List.Mem.tail _ ((by assumption))))) | exact List.Mem.tail _ (List.Mem.tail _ (List.Mem.tail _ (List.Mem.tail _ (List.Mem.tail _ ((by assumption))))))) | exact needs3 (by first | exact List.Mem.head _ | exact List.Mem.tail _ (List.Mem.head _) | exact List.Mem.tail _ (List.Mem.tail _ (List.Mem.head _)) | exact List.Mem.tail _ (List.Mem.tail _ (List.Mem.tail _ (List.Mem.head _))) | exact List.Mem.tail _ (List.Mem.tail _ (List.Mem.tail _ (List.Mem.tail _ (List.Mem.head _)))) | exact List.Mem.tail _ (List.Mem.tail _ (List.Mem.tail _ (List.Mem.tail _ (List.Mem.tail _ (List.Mem.head _))))) | exact List.Mem.tail _ (List.Mem.tail _ (List.Mem.tail _ (List.Mem.tail _ (List.Mem.tail _ (List.Mem.tail _ (List.Mem.head _)))))) | exact List.Mem.tail _ (List.Mem.tail _ (List.Mem.tail _ (List.Mem.tail _ (List.Mem.tail _ (List.Mem.tail _ (List.Mem.tail _ (List.Mem.head _))))))) | exact List.Mem.tail _ (List.Mem.tail _ (List.Mem.tail _ (List.Mem.tail _ (List.Mem.tail _ (List.Mem.tail _ (List.Mem.tail _ (List.Mem.tail _ (List.Mem.head _)))))))) | exact (by assumption) | exact List.Mem.tail _ ((by assumption)) | exact List.Mem.tail _ (List.Mem.tail _ ((by assumption))) | exact List.Mem.tail _ (List.Mem.tail _ (List.Mem.tail _ ((by assumption)))) | exact List.Mem.tail _ (List.Mem.tail _ (List.Mem.tail _ (List.Mem.tail _ ((by assumption))))) | exact List.Mem.tail _ (List.Mem.tail _ (List.Mem.tail _ (List.Mem.tail _ (List.Mem.tail _ ((by assumption))))))) (by first | exact List.Mem.head _ | exact List.Mem.tail _ (List.Mem.head _) | exact List.Mem.tail _ (List.Mem.tail _ (List.Mem.head _)) | exact List.Mem.tail _ (List.Mem.tail _ (List.Mem.tail _ (List.Mem.head _))) | exact List.Mem.tail _ (List.Mem.tail _ (List.Mem.tail _ (List.Mem.tail _ (List.Mem.head _)))) | exact List.Mem.tail _ (List.Mem.tail _ (List.Mem.tail _ (List.Mem.tail _ (List.Mem.tail _ (List.Mem.head _))))) | exact List.Mem.tail _ (List.Mem.tail _ (List.Mem.tail _ (List.Mem.tail _ (List.Mem.tail _ (List.Mem.tail _ (List.Mem.head _)))))) | exact List.Mem.tail _ (List.Mem.tail _ (List.Mem.tail _ (List.Mem.tail _ (List.Mem.tail _ (List.Mem.tail _ (List.Mem.tail _ (List.Mem.head _))))))) | exact List.Mem.tail _ (List.Mem.tail _ (List.Mem.tail _ (List.Mem.tail _ (List.Mem.tail _ (List.Mem.tail _ (List.Mem.tail _ (List.Mem.tail _ (List.Mem.head _)))))))) | exact (by assumption) | exact List.Mem.tail _ ((by assumption)) | exact List.Mem.tail _ (List.Mem.tail _ ((by assumption))) | exact List.Mem.tail _ (List.Mem.tail _ (List.Mem.tail _ ((by assumption)))) | exact List.Mem.tail _ (List.Mem.tail _ (List.Mem.tail _ (List.Mem.tail _ ((by assumption))))) | exact List.Mem.tail _ (List.Mem.tail _ (List.Mem.tail _ (List.Mem.tail _ (List.Mem.tail _ ((by assumption))))))) (by first | exact List.Mem.head _ | exact List.Mem.tail _ (List.Mem.head _) | exact List.Mem.tail _ (List.Mem.tail _ (List.Mem.head _)) | exact List.Mem.tail _ (List.Mem.tail _ (List.Mem.tail _ (List.Mem.head _))) | exact List.Mem.tail _ (List.Mem.tail _ (List.Mem.tail _ (List.Mem.tail _ (List.Mem.head _)))) | exact List.Mem.tail _ (List.Mem.tail _ (List.Mem.tail _ (List.Mem.tail _ (List.Mem.tail _ (List.Mem.head _))))) | exact List.Mem.tail _ (List.Mem.tail _ (List.Mem.tail _ (List.Mem.tail _ (List.Mem.tail _ (List.Mem.tail _ (List.Mem.head _)))))) | exact List.Mem.tail _ (List.Mem.tail _ (List.Mem.tail _ (List.Mem.tail _ (List.Mem.tail _ (List.Mem.tail _ (List.Mem.tail _ (List.Mem.head _))))))) | exact List.Mem.tail _ (List.Mem.tail _ (List.Mem.tail _ (List.Mem.tail _ (List.Mem.tail _ (List.Mem.tail _ (List.Mem.tail _ (List.Mem.tail _ (List.Mem.head _)))))))) | exact (by assumption) | exact List.Mem.tail _ ((by assumption)) | exact List.Mem.tail _ (List.Mem.tail _ ((by assumption))) | exact List.Mem.tail _ (List.Mem.tail _ (List.Mem.tail _ ((by assumption)))) | exact List.Mem.tail _ (List.Mem.tail _ (List.Mem.tail _ (List.Mem.tail _ ((by assumption))))) | exact List.Mem.tail _ (List.Mem.tail _ (List.Mem.tail _ (List.Mem.tail _ (List.Mem.tail _ ((by assumption)))))))) ?_)
  clear hS; rintro v31 _ w ⟨DB, rfl, hoB⟩ hS; (try simp only [List.cons_append, List.nil_append] at hS)
  refine wl_op rfl rfl (ow_vr (vr_assign (v := v29) rfl) ?_)
  refine wl_op rfl rfl (ow_vr (vr_assign (v := v31) rfl) ?_)
  refine wl_nil ?_
  refine hK2 _ _ ?_
  refine cw_seq fun K3 hK3 => ?_
  refine cw_seq fun K4 hK4 => ?_
  refine cw_region ?_
  refine wl_op rfl rfl (ow_fn (vs := []) en_42 rfl hS (alive4) ?_)
  clear hS; rintro _ _ w ⟨rfl, rfl⟩ hS; (try simp only [List.cons_append, List.nil_append] at hS)
  refine wl_op rfl rfl (ow_vr (vr_not rfl) ?_)
  refine wl_nil ?_
  refine hK4 _ _ ?_
  refine cw_cond_f rfl rfl (rfl) ?_
  refine cw_skip ?_
  refine hK3 _ _ ?_
  refine cw_seq fun K5 hK5 => ?_
  refine cw_region ?_
  refine wl_op rfl rfl (ow_vr (vr_move (v := .int .i64 _) rfl) ?_)
  refine wl_op rfl rfl (ow_vr (vr_move (v := .int .i64 _) rfl) ?_)
  refine wl_op rfl rfl (ow_vr (vr_move (v := v29) rfl) ?_)
  refine wl_op rfl rfl (ow_fng (vs := [.int .i64 _, .int .i64 _, v29]) en_45 rfl hS (page_Put no v a _ _ (Own.view (by exact fun _ => rfl) hoA)) (by first | exact needs1 (by first | exact List.Mem.head _ | exact List.Mem.tail _ (List.Mem.head _) | exact List.Mem.tail _ (List.Mem.tail _ (List.Mem.head _)) | exact List.Mem.tail _ (List.Mem.tail _ (List.Mem.tail _ (List.Mem.head _))) | exact List.Mem.tail _ (List.Mem.tail _ (List.Mem.tail _ (List.Mem.tail _ (List.Mem.head _)))) | exact List.Mem.tail _ (List.Mem.tail _ (List.Mem.tail _ (List.Mem.tail _ (List.Mem.tail _ (List.Mem.head _))))) | exact List.Mem.tail _ (List.Mem.tail _ (List.Mem.tail _ (List.Mem.tail _ (List.Mem.tail _ (List.Mem.tail _ (List.Mem.head _)))))) | exact List.Mem.tail _ (List.Mem.tail _ (List.Mem.tail _ (List.Mem.tail _ (List.Mem.tail _ (List.Mem.tail _ (List.Mem.tail _ (List.Mem.head _))))))) | exact List.Mem.tail _ (List.Mem.tail _ (List.Mem.tail _ (List.Mem.tail _ (List.Mem.tail _ (List.Mem.tail _ (List.Mem.tail _ (List.Mem.tail _ (List.Mem.head _)))))))) | exact (by assumption) | exact List.Mem.tail _ ((by assumption)) | exact List.Mem.tail _ (List.Mem.tail _ ((by assumption))) | exact List.Mem.tail _ (List.Mem.tail _ (List.Mem.tail _ ((by assumption)))) | exact List.Mem.tail _ (List.Mem.tail _ (List.Mem.tail _ (List.Mem.tail _ ((by assumption))))) | exact List.Mem.tail _ (List.Mem.tail _ (List.Mem.tail _ (List.Mem.tail _ (List.Mem.tail _ ((by assumption))))))) | exact needs0 | exact needs2 (by first | exact List.Mem.head _ | exact List.Mem.tail _ (List.Mem.head _) | exact List.Mem.tail _ (List.Mem.tail _ (List.Mem.head _)) | exact List.Mem.tail _ (List.Mem.tail _ (List.Mem.tail _ (List.Mem.head _))) | exact List.Mem.tail _ (List.Mem.tail _ (List.Mem.tail _ (List.Mem.tail _ (List.Mem.head _)))) | exact List.Mem.tail _ (List.Mem.tail _ (List.Mem.tail _ (List.Mem.tail _ (List.Mem.tail _ (List.Mem.head _))))) | exact List.Mem.tail _ (List.Mem.tail _ (List.Mem.tail _ (List.Mem.tail _ (List.Mem.tail _ (List.Mem.tail _ (List.Mem.head _)))))) | exact List.Mem.tail _ (List.Mem.tail _ (List.Mem.tail _ (List.Mem.tail _ (List.Mem.tail _ (List.Mem.tail _ (List.Mem.tail _ (List.Mem.head _))))))) | exact List.Mem.tail _ (List.Mem.tail _ (List.Mem.tail _ (List.Mem.tail _ (List.Mem.tail _ (List.Mem.tail _ (List.Mem.tail _ (List.Mem.tail _ (List.Mem.head _)))))))) | exact (by assumption) | exact List.Mem.tail _ ((by assumption)) | exact List.Mem.tail _ (List.Mem.tail _ ((by assumption))) | exact List.Mem.tail _ (List.Mem.tail _ (List.Mem.tail _ ((by assumption)))) | exact List.Mem.tail _ (List.Mem.tail _ (List.Mem.tail _ (List.Mem.tail _ ((by assumption))))) | exact List.Mem.tail _ (List.Mem.tail _ (List.Mem.tail _ (List.Mem.tail _ (List.Mem.tail _ ((by assumption))))))) (by first | exact List.Mem.head _ | exact List.Mem.tail _ (List.Mem.head _) | exact List.Mem.tail _ (List.Mem.tail _ (List.Mem.head _)) | exact List.Mem.tail _ (List.Mem.tail _ (List.Mem.tail _ (List.Mem.head _))) | exact List.Mem.tail _ (List.Mem.tail _ (List.Mem.tail _ (List.Mem.tail _ (List.Mem.head _)))) | exact List.Mem.tail _ (List.Mem.tail _ (List.Mem.tail _ (List.Mem.tail _ (List.Mem.tail _ (List.Mem.head _))))) | exact List.Mem.tail _ (List.Mem.tail _ (List.Mem.tail _ (List.Mem.tail _ (List.Mem.tail _ (List.Mem.tail _ (List.Mem.head _)))))) | exact List.Mem.tail _ (List.Mem.tail _ (List.Mem.tail _ (List.Mem.tail _ (List.Mem.tail _ (List.Mem.tail _ (List.Mem.tail _ (List.Mem.head _))))))) | exact List.Mem.tail _ (List.Mem.tail _ (List.Mem.tail _ (List.Mem.tail _ (List.Mem.tail _ (List.Mem.tail _ (List.Mem.tail _ (List.Mem.tail _ (List.Mem.head _)))))))) | exact (by assumption) | exact List.Mem.tail _ ((by assumption)) | exact List.Mem.tail _ (List.Mem.tail _ ((by assumption))) | exact List.Mem.tail _ (List.Mem.tail _ (List.Mem.tail _ ((by assumption)))) | exact List.Mem.tail _ (List.Mem.tail _ (List.Mem.tail _ (List.Mem.tail _ ((by assumption))))) | exact List.Mem.tail _ (List.Mem.tail _ (List.Mem.tail _ (List.Mem.tail _ (List.Mem.tail _ ((by assumption))))))) | exact needs3 (by first | exact List.Mem.head _ | exact List.Mem.tail _ (List.Mem.head _) | exact List.Mem.tail _ (List.Mem.tail _ (List.Mem.head _)) | exact List.Mem.tail _ (List.Mem.tail _ (List.Mem.tail _ (List.Mem.head _))) | exact List.Mem.tail _ (List.Mem.tail _ (List.Mem.tail _ (List.Mem.tail _ (List.Mem.head _)))) | exact List.Mem.tail _ (List.Mem.tail _ (List.Mem.tail _ (List.Mem.tail _ (List.Mem.tail _ (List.Mem.head _))))) | exact List.Mem.tail _ (List.Mem.tail _ (List.Mem.tail _ (List.Mem.tail _ (List.Mem.tail _ (List.Mem.tail _ (List.Mem.head _)))))) | exact List.Mem.tail _ (List.Mem.tail _ (List.Mem.tail _ (List.Mem.tail _ (List.Mem.tail _ (List.Mem.tail _ (List.Mem.tail _ (List.Mem.head _))))))) | exact List.Mem.tail _ (List.Mem.tail _ (List.Mem.tail _ (List.Mem.tail _ (List.Mem.tail _ (List.Mem.tail _ (List.Mem.tail _ (List.Mem.tail _ (List.Mem.head _)))))))) | exact (by assumption) | exact List.Mem.tail _ ((by assumption)) | exact List.Mem.tail _ (List.Mem.tail _ ((by assumption))) | exact List.Mem.tail _ (List.Mem.tail _ (List.Mem.tail _ ((by assumption)))) | exact List.Mem.tail _ (List.Mem.tail _ (List.Mem.tail _ (List.Mem.tail _ ((by assumption))))) | exact List.Mem.tail _ (List.Mem.tail _ (List.Mem.tail _ (List.Mem.tail _ (List.Mem.tail _ ((by assumption))))))) (by first | exact List.Mem.head _ | exact List.Mem.tail _ (List.Mem.head _) | exact List.Mem.tail _ (List.Mem.tail _ (List.Mem.head _)) | exact List.Mem.tail _ (List.Mem.tail _ (List.Mem.tail _ (List.Mem.head _))) | exact List.Mem.tail _ (List.Mem.tail _ (List.Mem.tail _ (List.Mem.tail _ (List.Mem.head _)))) | exact List.Mem.tail _ (List.Mem.tail _ (List.Mem.tail _ (List.Mem.tail _ (List.Mem.tail _ (List.Mem.head _))))) | exact List.Mem.tail _ (List.Mem.tail _ (List.Mem.tail _ (List.Mem.tail _ (List.Mem.tail _ (List.Mem.tail _ (List.Mem.head _)))))) | exact List.Mem.tail _ (List.Mem.tail _ (List.Mem.tail _ (List.Mem.tail _ (List.Mem.tail _ (List.Mem.tail _ (List.Mem.tail _ (List.Mem.head _))))))) | exact List.Mem.tail _ (List.Mem.tail _ (List.Mem.tail _ (List.Mem.tail _ (List.Mem.tail _ (List.Mem.tail _ (List.Mem.tail _ (List.Mem.tail _ (List.Mem.head _)))))))) | exact (by assumption) | exact List.Mem.tail _ ((by assumption)) | exact List.Mem.tail _ (List.Mem.tail _ ((by assumption))) | exact List.Mem.tail _ (List.Mem.tail _ (List.Mem.tail _ ((by assumption)))) | exact List.Mem.tail _ (List.Mem.tail _ (List.Mem.tail _ (List.Mem.tail _ ((by assumption))))) | exact List.Mem.tail _ (List.Mem.tail _ (List.Mem.tail _ (List.Mem.tail _ (List.Mem.tail _ ((by assumption))))))) (by first | exact List.Mem.head _ | exact List.Mem.tail _ (List.Mem.head _) | exact List.Mem.tail _ (List.Mem.tail _ (List.Mem.head _)) | exact List.Mem.tail _ (List.Mem.tail _ (List.Mem.tail _ (List.Mem.head _))) | exact List.Mem.tail _ (List.Mem.tail _ (List.Mem.tail _ (List.Mem.tail _ (List.Mem.head _)))) | exact List.Mem.tail _ (List.Mem.tail _ (List.Mem.tail _ (List.Mem.tail _ (List.Mem.tail _ (List.Mem.head _))))) | exact List.Mem.tail _ (List.Mem.tail _ (List.Mem.tail _ (List.Mem.tail _ (List.Mem.tail _ (List.Mem.tail _ (List.Mem.head _)))))) | exact List.Mem.tail _ (List.Mem.tail _ (List.Mem.tail _ (List.Mem.tail _ (List.Mem.tail _ (List.Mem.tail _ (List.Mem.tail _ (List.Mem.head _))))))) | exact List.Mem.tail _ (List.Mem.tail _ (List.Mem.tail _ (List.Mem.tail _ (List.Mem.tail _ (List.Mem.tail _ (List.Mem.tail _ (List.Mem.tail _ (List.Mem.head _)))))))) | exact (by assumption) | exact List.Mem.tail _ ((by assumption)) | exact List.Mem.tail _ (List.Mem.tail _ ((by assumption))) | exact List.Mem.tail _ (List.Mem.tail _ (List.Mem.tail _ ((by assumption)))) | exact List.Mem.tail _ (List.Mem.tail _ (List.Mem.tail _ (List.Mem.tail _ ((by assumption))))) | exact List.Mem.tail _ (List.Mem.tail _ (List.Mem.tail _ (List.Mem.tail _ (List.Mem.tail _ ((by assumption)))))))) ?_)
  clear hS; rintro v38 _ w ⟨vx, Dx, rfl, rfl, hox⟩ hS; (try simp only [List.cons_append, List.nil_append] at hS)
  refine wl_op rfl rfl (ow_vr (vr_move (v := .tuple _) rfl) ?_)
  refine wl_op rfl rfl (ow_vr (vr_extract (v := vx) rfl rfl) ?_)
  refine wl_op rfl rfl (ow_vr (vr_extract (v := .bool _) rfl rfl) ?_)
  refine wl_op rfl rfl (ow_vr (vr_assign (v := vx) rfl) ?_)
  refine wl_op rfl rfl (ow_vr (vr_assign (v := .bool _) rfl) ?_)
  refine wl_nil ?_
  refine hK5 _ _ ?_
  refine cw_seq fun K6 hK6 => ?_
  refine cw_region ?_
  refine wl_op rfl rfl (ow_vr (vr_move (v := .int .i64 _) rfl) ?_)
  refine wl_op rfl rfl (ow_vr (vr_move (v := .int .i64 _) rfl) ?_)
  refine wl_op rfl rfl (ow_vr (vr_move (v := v31) rfl) ?_)
  refine wl_op rfl rfl (ow_fng (vs := [.int .i64 _, .int .i64 _, v31]) en_45 rfl hS (page_Put no v2 b _ _ (Own.view (by exact fun _ => rfl) hoB)) (by first | exact needs1 (by first | exact List.Mem.head _ | exact List.Mem.tail _ (List.Mem.head _) | exact List.Mem.tail _ (List.Mem.tail _ (List.Mem.head _)) | exact List.Mem.tail _ (List.Mem.tail _ (List.Mem.tail _ (List.Mem.head _))) | exact List.Mem.tail _ (List.Mem.tail _ (List.Mem.tail _ (List.Mem.tail _ (List.Mem.head _)))) | exact List.Mem.tail _ (List.Mem.tail _ (List.Mem.tail _ (List.Mem.tail _ (List.Mem.tail _ (List.Mem.head _))))) | exact List.Mem.tail _ (List.Mem.tail _ (List.Mem.tail _ (List.Mem.tail _ (List.Mem.tail _ (List.Mem.tail _ (List.Mem.head _)))))) | exact List.Mem.tail _ (List.Mem.tail _ (List.Mem.tail _ (List.Mem.tail _ (List.Mem.tail _ (List.Mem.tail _ (List.Mem.tail _ (List.Mem.head _))))))) | exact List.Mem.tail _ (List.Mem.tail _ (List.Mem.tail _ (List.Mem.tail _ (List.Mem.tail _ (List.Mem.tail _ (List.Mem.tail _ (List.Mem.tail _ (List.Mem.head _)))))))) | exact (by assumption) | exact List.Mem.tail _ ((by assumption)) | exact List.Mem.tail _ (List.Mem.tail _ ((by assumption))) | exact List.Mem.tail _ (List.Mem.tail _ (List.Mem.tail _ ((by assumption)))) | exact List.Mem.tail _ (List.Mem.tail _ (List.Mem.tail _ (List.Mem.tail _ ((by assumption))))) | exact List.Mem.tail _ (List.Mem.tail _ (List.Mem.tail _ (List.Mem.tail _ (List.Mem.tail _ ((by assumption))))))) | exact needs0 | exact needs2 (by first | exact List.Mem.head _ | exact List.Mem.tail _ (List.Mem.head _) | exact List.Mem.tail _ (List.Mem.tail _ (List.Mem.head _)) | exact List.Mem.tail _ (List.Mem.tail _ (List.Mem.tail _ (List.Mem.head _))) | exact List.Mem.tail _ (List.Mem.tail _ (List.Mem.tail _ (List.Mem.tail _ (List.Mem.head _)))) | exact List.Mem.tail _ (List.Mem.tail _ (List.Mem.tail _ (List.Mem.tail _ (List.Mem.tail _ (List.Mem.head _))))) | exact List.Mem.tail _ (List.Mem.tail _ (List.Mem.tail _ (List.Mem.tail _ (List.Mem.tail _ (List.Mem.tail _ (List.Mem.head _)))))) | exact List.Mem.tail _ (List.Mem.tail _ (List.Mem.tail _ (List.Mem.tail _ (List.Mem.tail _ (List.Mem.tail _ (List.Mem.tail _ (List.Mem.head _))))))) | exact List.Mem.tail _ (List.Mem.tail _ (List.Mem.tail _ (List.Mem.tail _ (List.Mem.tail _ (List.Mem.tail _ (List.Mem.tail _ (List.Mem.tail _ (List.Mem.head _)))))))) | exact (by assumption) | exact List.Mem.tail _ ((by assumption)) | exact List.Mem.tail _ (List.Mem.tail _ ((by assumption))) | exact List.Mem.tail _ (List.Mem.tail _ (List.Mem.tail _ ((by assumption)))) | exact List.Mem.tail _ (List.Mem.tail _ (List.Mem.tail _ (List.Mem.tail _ ((by assumption))))) | exact List.Mem.tail _ (List.Mem.tail _ (List.Mem.tail _ (List.Mem.tail _ (List.Mem.tail _ ((by assumption))))))) (by first | exact List.Mem.head _ | exact List.Mem.tail _ (List.Mem.head _) | exact List.Mem.tail _ (List.Mem.tail _ (List.Mem.head _)) | exact List.Mem.tail _ (List.Mem.tail _ (List.Mem.tail _ (List.Mem.head _))) | exact List.Mem.tail _ (List.Mem.tail _ (List.Mem.tail _ (List.Mem.tail _ (List.Mem.head _)))) | exact List.Mem.tail _ (List.Mem.tail _ (List.Mem.tail _ (List.Mem.tail _ (List.Mem.tail _ (List.Mem.head _))))) | exact List.Mem.tail _ (List.Mem.tail _ (List.Mem.tail _ (List.Mem.tail _ (List.Mem.tail _ (List.Mem.tail _ (List.Mem.head _)))))) | exact List.Mem.tail _ (List.Mem.tail _ (List.Mem.tail _ (List.Mem.tail _ (List.Mem.tail _ (List.Mem.tail _ (List.Mem.tail _ (List.Mem.head _))))))) | exact List.Mem.tail _ (List.Mem.tail _ (List.Mem.tail _ (List.Mem.tail _ (List.Mem.tail _ (List.Mem.tail _ (List.Mem.tail _ (List.Mem.tail _ (List.Mem.head _)))))))) | exact (by assumption) | exact List.Mem.tail _ ((by assumption)) | exact List.Mem.tail _ (List.Mem.tail _ ((by assumption))) | exact List.Mem.tail _ (List.Mem.tail _ (List.Mem.tail _ ((by assumption)))) | exact List.Mem.tail _ (List.Mem.tail _ (List.Mem.tail _ (List.Mem.tail _ ((by assumption))))) | exact List.Mem.tail _ (List.Mem.tail _ (List.Mem.tail _ (List.Mem.tail _ (List.Mem.tail _ ((by assumption))))))) | exact needs3 (by first | exact List.Mem.head _ | exact List.Mem.tail _ (List.Mem.head _) | exact List.Mem.tail _ (List.Mem.tail _ (List.Mem.head _)) | exact List.Mem.tail _ (List.Mem.tail _ (List.Mem.tail _ (List.Mem.head _))) | exact List.Mem.tail _ (List.Mem.tail _ (List.Mem.tail _ (List.Mem.tail _ (List.Mem.head _)))) | exact List.Mem.tail _ (List.Mem.tail _ (List.Mem.tail _ (List.Mem.tail _ (List.Mem.tail _ (List.Mem.head _))))) | exact List.Mem.tail _ (List.Mem.tail _ (List.Mem.tail _ (List.Mem.tail _ (List.Mem.tail _ (List.Mem.tail _ (List.Mem.head _)))))) | exact List.Mem.tail _ (List.Mem.tail _ (List.Mem.tail _ (List.Mem.tail _ (List.Mem.tail _ (List.Mem.tail _ (List.Mem.tail _ (List.Mem.head _))))))) | exact List.Mem.tail _ (List.Mem.tail _ (List.Mem.tail _ (List.Mem.tail _ (List.Mem.tail _ (List.Mem.tail _ (List.Mem.tail _ (List.Mem.tail _ (List.Mem.head _)))))))) | exact (by assumption) | exact List.Mem.tail _ ((by assumption)) | exact List.Mem.tail _ (List.Mem.tail _ ((by assumption))) | exact List.Mem.tail _ (List.Mem.tail _ (List.Mem.tail _ ((by assumption)))) | exact List.Mem.tail _ (List.Mem.tail _ (List.Mem.tail _ (List.Mem.tail _ ((by assumption))))) | exact List.Mem.tail _ (List.Mem.tail _ (List.Mem.tail _ (List.Mem.tail _ (List.Mem.tail _ ((by assumption))))))) (by first | exact List.Mem.head _ | exact List.Mem.tail _ (List.Mem.head _) | exact List.Mem.tail _ (List.Mem.tail _ (List.Mem.head _)) | exact List.Mem.tail _ (List.Mem.tail _ (List.Mem.tail _ (List.Mem.head _))) | exact List.Mem.tail _ (List.Mem.tail _ (List.Mem.tail _ (List.Mem.tail _ (List.Mem.head _)))) | exact List.Mem.tail _ (List.Mem.tail _ (List.Mem.tail _ (List.Mem.tail _ (List.Mem.tail _ (List.Mem.head _))))) | exact List.Mem.tail _ (List.Mem.tail _ (List.Mem.tail _ (List.Mem.tail _ (List.Mem.tail _ (List.Mem.tail _ (List.Mem.head _)))))) | exact List.Mem.tail _ (List.Mem.tail _ (List.Mem.tail _ (List.Mem.tail _ (List.Mem.tail _ (List.Mem.tail _ (List.Mem.tail _ (List.Mem.head _))))))) | exact List.Mem.tail _ (List.Mem.tail _ (List.Mem.tail _ (List.Mem.tail _ (List.Mem.tail _ (List.Mem.tail _ (List.Mem.tail _ (List.Mem.tail _ (List.Mem.head _)))))))) | exact (by assumption) | exact List.Mem.tail _ ((by assumption)) | exact List.Mem.tail _ (List.Mem.tail _ ((by assumption))) | exact List.Mem.tail _ (List.Mem.tail _ (List.Mem.tail _ ((by assumption)))) | exact List.Mem.tail _ (List.Mem.tail _ (List.Mem.tail _ (List.Mem.tail _ ((by assumption))))) | exact List.Mem.tail _ (List.Mem.tail _ (List.Mem.tail _ (List.Mem.tail _ (List.Mem.tail _ ((by assumption))))))) (by first | exact List.Mem.head _ | exact List.Mem.tail _ (List.Mem.head _) | exact List.Mem.tail _ (List.Mem.tail _ (List.Mem.head _)) | exact List.Mem.tail _ (List.Mem.tail _ (List.Mem.tail _ (List.Mem.head _))) | exact List.Mem.tail _ (List.Mem.tail _ (List.Mem.tail _ (List.Mem.tail _ (List.Mem.head _)))) | exact List.Mem.tail _ (List.Mem.tail _ (List.Mem.tail _ (List.Mem.tail _ (List.Mem.tail _ (List.Mem.head _))))) | exact List.Mem.tail _ (List.Mem.tail _ (List.Mem.tail _ (List.Mem.tail _ (List.Mem.tail _ (List.Mem.tail _ (List.Mem.head _)))))) | exact List.Mem.tail _ (List.Mem.tail _ (List.Mem.tail _ (List.Mem.tail _ (List.Mem.tail _ (List.Mem.tail _ (List.Mem.tail _ (List.Mem.head _))))))) | exact List.Mem.tail _ (List.Mem.tail _ (List.Mem.tail _ (List.Mem.tail _ (List.Mem.tail _ (List.Mem.tail _ (List.Mem.tail _ (List.Mem.tail _ (List.Mem.head _)))))))) | exact (by assumption) | exact List.Mem.tail _ ((by assumption)) | exact List.Mem.tail _ (List.Mem.tail _ ((by assumption))) | exact List.Mem.tail _ (List.Mem.tail _ (List.Mem.tail _ ((by assumption)))) | exact List.Mem.tail _ (List.Mem.tail _ (List.Mem.tail _ (List.Mem.tail _ ((by assumption))))) | exact List.Mem.tail _ (List.Mem.tail _ (List.Mem.tail _ (List.Mem.tail _ (List.Mem.tail _ ((by assumption)))))))) ?_)
  clear hS; rintro v45 _ w ⟨vy, Dy, rfl, rfl, hoy⟩ hS; (try simp only [List.cons_append, List.nil_append] at hS)
  refine wl_op rfl rfl (ow_vr (vr_move (v := .tuple _) rfl) ?_)
  refine wl_op rfl rfl (ow_vr (vr_extract (v := vy) rfl rfl) ?_)
  refine wl_op rfl rfl (ow_vr (vr_extract (v := .bool _) rfl rfl) ?_)
  refine wl_op rfl rfl (ow_vr (vr_assign (v := vy) rfl) ?_)
  refine wl_op rfl rfl (ow_vr (vr_assign (v := .bool _) rfl) ?_)
  refine wl_nil ?_
  refine hK6 _ _ ?_
  refine cw_seq fun K7 hK7 => ?_
  refine cw_seq fun K8 hK8 => ?_
  refine cw_region ?_
  refine wl_op rfl rfl (ow_vr (vr_move (v := .bool _) rfl) ?_)
  refine wl_op rfl rfl (ow_vr (vr_not rfl) ?_)
  refine wl_op rfl rfl (ow_vr (vr_move (v := .bool _) rfl) ?_)
  refine wl_split 50 rfl (fun hc => ?_) (fun hc => ?_)
  · (try simp only [decide_eq_true_eq, decide_eq_false_iff_not, Bool.not_eq_true, Bool.not_eq_false, Bool.not_eq_true', Bool.not_eq_false', Bool.and_eq_true, Bool.or_eq_true, Bool.and_eq_false_iff, Bool.or_eq_false_iff, Int.not_lt, Int.not_le, gt_iff_lt, ge_iff_le, ne_eq, Decidable.not_not, beq_iff_eq] at hc)
    have hk1 := hc; clear hc
    refine wl_noD rfl rfl rfl rfl rfl rfl ?_
    refine wl_noD rfl rfl rfl rfl rfl rfl ?_
    refine wl_op rfl rfl (ow_vr (vr_pick (b := true) (v := .bool _) rfl rfl) ?_)
    refine wl_op rfl rfl (ow_vr (vr_move (v := .bool _) rfl) ?_)
    refine wl_noD rfl rfl rfl rfl rfl rfl ?_
    refine wl_noD rfl rfl rfl rfl rfl rfl ?_
    refine wl_noD rfl rfl rfl rfl rfl rfl ?_
    refine wl_op rfl rfl (ow_vr (vr_pick (b := true) (v := .bool _) rfl rfl) ?_)
    refine wl_op rfl rfl (ow_vr (vr_move (v := .bool _) rfl) ?_)
    refine wl_noD rfl rfl rfl rfl rfl rfl ?_
    refine wl_noD rfl rfl rfl rfl rfl rfl ?_
    refine wl_noD rfl rfl rfl rfl rfl rfl ?_
    refine wl_op rfl rfl (ow_vr (vr_pick (b := true) (v := .bool _) rfl rfl) ?_)
    refine wl_nil ?_
    refine hK8 _ _ ?_
    refine cw_cond_t rfl rfl (rfl) ?_
    refine cw_seq fun K9 hK9 => ?_
    refine cw_region ?_
    refine wl_op rfl rfl (ow_vr (vr_assign (v := .bool true) rfl) ?_)
    refine wl_nil ?_
    refine hK9 _ _ ?_
    refine cw_ret ?_
    refine thenF_ret (?_)
    refine ret_one (fn := Try.f8) (n := 136) (t := 12) (.inl rfl) rfl rfl ?_
    exact ⟨[], ⟨rfl, rfl⟩, hS.tail1.tail1.tail1.tail1⟩
  · (try simp only [decide_eq_true_eq, decide_eq_false_iff_not, Bool.not_eq_true, Bool.not_eq_false, Bool.not_eq_true', Bool.not_eq_false', Bool.and_eq_true, Bool.or_eq_true, Bool.and_eq_false_iff, Bool.or_eq_false_iff, Int.not_lt, Int.not_le, gt_iff_lt, ge_iff_le, ne_eq, Decidable.not_not, beq_iff_eq] at hc)
    have hk1 := hc; clear hc
    refine wl_yes rfl rfl rfl rfl rfl (ow_vr (vr_move (v := .bool _) rfl) ?_)
    refine wl_yes rfl rfl rfl rfl rfl (ow_vr (vr_not rfl) ?_)
    refine wl_op rfl rfl (ow_vr (vr_pick (b := false) (v := .bool _) rfl rfl) ?_)
    refine wl_op rfl rfl (ow_vr (vr_move (v := .bool _) rfl) ?_)
    refine wl_split 54 rfl (fun hc => ?_) (fun hc => ?_)
    · (try simp only [decide_eq_true_eq, decide_eq_false_iff_not, Bool.not_eq_true, Bool.not_eq_false, Bool.not_eq_true', Bool.not_eq_false', Bool.and_eq_true, Bool.or_eq_true, Bool.and_eq_false_iff, Bool.or_eq_false_iff, Int.not_lt, Int.not_le, gt_iff_lt, ge_iff_le, ne_eq, Decidable.not_not, beq_iff_eq] at hc)
      have hk2 := hc; clear hc
      refine wl_noD rfl rfl rfl rfl rfl rfl ?_
      refine wl_noD rfl rfl rfl rfl rfl rfl ?_
      refine wl_noD rfl rfl rfl rfl rfl rfl ?_
      refine wl_op rfl rfl (ow_vr (vr_pick (b := true) (v := .bool _) rfl rfl) ?_)
      refine wl_op rfl rfl (ow_vr (vr_move (v := .bool _) rfl) ?_)
      refine wl_noD rfl rfl rfl rfl rfl rfl ?_
      refine wl_noD rfl rfl rfl rfl rfl rfl ?_
      refine wl_noD rfl rfl rfl rfl rfl rfl ?_
      refine wl_op rfl rfl (ow_vr (vr_pick (b := true) (v := .bool _) rfl rfl) ?_)
      refine wl_nil ?_
      refine hK8 _ _ ?_
      refine cw_cond_t rfl rfl (rfl) ?_
      refine cw_seq fun K10 hK10 => ?_
      refine cw_region ?_
      refine wl_op rfl rfl (ow_vr (vr_assign (v := .bool true) rfl) ?_)
      refine wl_nil ?_
      refine hK10 _ _ ?_
      refine cw_ret ?_
      refine thenF_ret (?_)
      refine ret_one (fn := Try.f8) (n := 136) (t := 12) (.inl rfl) rfl rfl ?_
      exact ⟨[], ⟨rfl, rfl⟩, hS.tail1.tail1.tail1.tail1⟩
    · (try simp only [decide_eq_true_eq, decide_eq_false_iff_not, Bool.not_eq_true, Bool.not_eq_false, Bool.not_eq_true', Bool.not_eq_false', Bool.and_eq_true, Bool.or_eq_true, Bool.and_eq_false_iff, Bool.or_eq_false_iff, Int.not_lt, Int.not_le, gt_iff_lt, ge_iff_le, ne_eq, Decidable.not_not, beq_iff_eq] at hc)
      have hk2 := hc; clear hc
      refine wl_yes rfl rfl rfl rfl rfl (ow_vr (vr_move (v := .int .i64 _) rfl) ?_)
      refine wl_yes rfl rfl rfl rfl rfl (ow_vr (vr_and_any rfl rfl) ?_)
      refine wl_yes rfl rfl rfl rfl rfl (ow_vr (vr_eql rfl rfl) ?_)
      refine wl_op rfl rfl (ow_vr (vr_pick (b := false) (v := .bool _) rfl rfl) ?_)
      refine wl_op rfl rfl (ow_vr (vr_move (v := .bool _) rfl) ?_)
      refine wl_split 59 rfl (fun hc => ?_) (fun hc => ?_)
      · (try simp only [decide_eq_true_eq, decide_eq_false_iff_not, Bool.not_eq_true, Bool.not_eq_false, Bool.not_eq_true', Bool.not_eq_false', Bool.and_eq_true, Bool.or_eq_true, Bool.and_eq_false_iff, Bool.or_eq_false_iff, Int.not_lt, Int.not_le, gt_iff_lt, ge_iff_le, ne_eq, Decidable.not_not, beq_iff_eq] at hc)
        have hg59 := hc; clear hc
        refine wl_noD rfl rfl rfl rfl rfl rfl ?_
        refine wl_noD rfl rfl rfl rfl rfl rfl ?_
        refine wl_noD rfl rfl rfl rfl rfl rfl ?_
        refine wl_op rfl rfl (ow_vr (vr_pick (b := true) (v := .bool _) rfl rfl) ?_)
        refine wl_nil ?_
        refine hK8 _ _ ?_
        refine cw_cond_t rfl rfl (rfl) ?_
        refine cw_seq fun K11 hK11 => ?_
        refine cw_region ?_
        refine wl_op rfl rfl (ow_vr (vr_assign (v := .bool true) rfl) ?_)
        refine wl_nil ?_
        refine hK11 _ _ ?_
        refine cw_ret ?_
        refine thenF_ret (?_)
        refine ret_one (fn := Try.f8) (n := 136) (t := 12) (.inl rfl) rfl rfl ?_
        exact ⟨[], ⟨rfl, rfl⟩, hS.tail1.tail1.tail1.tail1⟩
      · (try simp only [decide_eq_true_eq, decide_eq_false_iff_not, Bool.not_eq_true, Bool.not_eq_false, Bool.not_eq_true', Bool.not_eq_false', Bool.and_eq_true, Bool.or_eq_true, Bool.and_eq_false_iff, Bool.or_eq_false_iff, Int.not_lt, Int.not_le, gt_iff_lt, ge_iff_le, ne_eq, Decidable.not_not, beq_iff_eq] at hc)
        have hg59 := hc; clear hc
        refine wl_yes rfl rfl rfl rfl rfl (ow_vr (vr_move (v := .int .i64 _) rfl) ?_)
        refine wl_yes rfl rfl rfl rfl rfl (ow_vr (vr_and_any rfl rfl) ?_)
        refine wl_yes rfl rfl rfl rfl rfl (ow_vr (vr_eql rfl rfl) ?_)
        refine wl_op rfl rfl (ow_vr (vr_pick (b := false) (v := .bool _) rfl rfl) ?_)
        refine wl_nil ?_
        refine hK8 _ _ ?_
        refine cw_cond rfl rfl (fun hc => ?_) (fun hc => ?_)
        · (try simp only [decide_eq_true_eq, decide_eq_false_iff_not, Bool.not_eq_true, Bool.not_eq_false, Bool.not_eq_true', Bool.not_eq_false', Bool.and_eq_true, Bool.or_eq_true, Bool.and_eq_false_iff, Bool.or_eq_false_iff, Int.not_lt, Int.not_le, gt_iff_lt, ge_iff_le, ne_eq, Decidable.not_not, beq_iff_eq] at hc)
          have hc1 := hc; clear hc
          refine cw_seq fun K12 hK12 => ?_
          refine cw_region ?_
          refine wl_op rfl rfl (ow_vr (vr_assign (v := .bool true) rfl) ?_)
          refine wl_nil ?_
          refine hK12 _ _ ?_
          refine cw_ret ?_
          refine thenF_ret (?_)
          refine ret_one (fn := Try.f8) (n := 136) (t := 12) (.inl rfl) rfl rfl ?_
          exact ⟨[], ⟨rfl, rfl⟩, hS.tail1.tail1.tail1.tail1⟩
        · (try simp only [decide_eq_true_eq, decide_eq_false_iff_not, Bool.not_eq_true, Bool.not_eq_false, Bool.not_eq_true', Bool.not_eq_false', Bool.and_eq_true, Bool.or_eq_true, Bool.and_eq_false_iff, Bool.or_eq_false_iff, Int.not_lt, Int.not_le, gt_iff_lt, ge_iff_le, ne_eq, Decidable.not_not, beq_iff_eq] at hc)
          have hc1 := hc; clear hc
          refine cw_skip ?_
          refine hK7 _ _ ?_
          refine cw_seq fun K13 hK13 => ?_
          refine cw_seq fun K14 hK14 => ?_
          have hk1 : okPg no v a = true := by simpa using hk1
          have hk2 : okPg no v2 b = true := by simpa using hk2
          rw [hk1, if_pos rfl] at hox
          rw [hk2, if_pos rfl] at hoy
          obtain ⟨pa, hpa⟩ : ∃ pa, pagesB (allP no v a) = pa := ⟨_, rfl⟩
          obtain ⟨pb, hpb⟩ : ∃ pb, pagesB (allP no v2 b) = pb := ⟨_, rfl⟩
          have hpal : pa.length = 3 := by rw [← hpa]; rfl
          have hpbl : pb.length = 3 := by rw [← hpb]; rfl
          have hlen := mix_mem mix pa pb (fun x => x.length = 32) (by rw [← hpa]; exact pages_len (all_length hk1)) (by rw [← hpb]; exact pages_len (all_length hk2)) (by omega)
          have hgpa : getOkP pa = true := by rw [← hpa]; exact getP_pages hk1
          have hnoa : noR pa.flatten = no := by rw [← hpa, pages_flat (all_length hk1)]; exact (read_all hk1).1
          rw [hpa] at hox
          rw [hpb] at hoy
          have hvx := Own.view (by exact fun _ => rfl) hox
          have hvy := Own.view (by exact fun _ => rfl) hoy
          refine cw_region ?_
          refine wl_op rfl rfl (ow_vr (vr_move (v := vx) rfl) ?_)
          refine wl_op rfl rfl (ow_vr (vr_len_v (v := vx) Try.underlying22 rfl hvx) ?_)
          refine wl_op rfl rfl (ow_vr (vr_neq rfl rfl) ?_)
          refine wl_op rfl rfl (ow_vr (vr_move (v := .bool _) rfl) ?_)
          refine wl_known 67 rfl (c := false) (by simp; omega) ?_
          refine wl_yes rfl rfl rfl rfl rfl (ow_vr (vr_move (v := vy) rfl) ?_)
          refine wl_yes rfl rfl rfl rfl rfl (ow_vr (vr_len_v (v := vy) Try.underlying22 rfl hvy) ?_)
          refine wl_yes rfl rfl rfl rfl rfl (ow_vr (vr_neq rfl rfl) ?_)
          refine wl_op rfl rfl (ow_vr (vr_pick (b := false) (v := .bool _) rfl rfl) ?_)
          refine wl_nil ?_
          refine hK14 _ _ ?_
          refine cw_cond_f rfl rfl (by simp; omega) ?_
          refine cw_skip ?_
          refine hK13 _ _ ?_
          refine cw_seq fun K15 hK15 => ?_
          have hS := Sat.nilc.2 hS
          refine cw_region ?_
          refine wl_op rfl rfl (ow_vr (vr_move (v := vx) rfl) ?_)
          refine wl_op rfl rfl (ow_append (v := .slice none 0 0) (u := vx) (enc := encS) hS Try.underlying22 Try.underlying22 if_9 rfl (by decide) rfl rfl Own.nil hvx HasC.here (by first | exact List.Mem.tail _ (List.Mem.tail _ (List.Mem.head _)) | exact List.Mem.tail _ (List.Mem.head _)) (by exact fun _ => rfl) (by exact fun _ => rfl) (by simp [maxLen]; omega) (by simp; omega) ?_)
          clear hS; intro v73 D73 w ho73 hS
          refine wl_op rfl rfl (ow_vr (vr_assign (v := v73) rfl) ?_)
          refine wl_nil ?_
          refine hK15 _ _ ?_
          refine cw_seq fun K16 hK16 => ?_
          refine cw_region ?_
          refine wl_op rfl rfl (ow_vr (vr_assign (v := .bool true) rfl) ?_)
          refine wl_nil ?_
          refine hK16 _ _ ?_
          refine cw_seq fun K17 hK17 => ?_
          refine cw_seq fun K18 hK18 => ?_
          refine cw_region ?_
          refine wl_op rfl rfl (ow_vr (vr_assign (v := .int .i64 0) rfl) ?_)
          refine wl_nil ?_
          refine hK18 _ _ ?_
          refine cw_block ?_
          refine cw_loop (fun m f w => ∃ (k : Nat) (al : Bool) (Dt : Chunk) (g : Nat → Value), f = (upd (upd (upd (upd (upd (upd (upd g 0 (.int .i64 no)) 5 (.int .i64 mix)) 13 (vx)) 15 (vy)) 17 (v73)) 18 (.bool al)) 19 (.int .i64 (k : Int))) ∧ ((k ≤ 3 ∧ al = alikeL mix pa pb k) ∧ Own 9 1 encS v73 (mixL mix pa pb k) Dt) ∧ m = 3 - k ∧ Sat E (Dt :: Dy :: Dx :: DB :: DA :: F) w) ⟨0, true, D73, _, (reb (reb (reb (reb (reb (reb (reb rfl rfl) rfl) rfl) rfl) rfl) rfl) rfl), ?_, rfl, hS⟩ ?_
          · exact ⟨⟨by omega, rfl⟩, ho73⟩
          clear hS; rintro m f w ⟨k, al, Dt, g, rfl, hI0, rfl, hS⟩
          obtain ⟨⟨hk, hald⟩, hot⟩ := hI0
          have hml := mix_length mix pa pb k
          refine cw_seq fun K19 hK19 => ?_
          refine cw_seq fun K20 hK20 => ?_
          refine cw_region ?_
          refine wl_op rfl rfl (ow_vr (vr_move (v := .int .i64 (k : Int)) rfl) ?_)
          refine wl_op rfl rfl (ow_vr (vr_lss rfl rfl) ?_)
          refine wl_nil ?_
          refine hK20 _ _ ?_
          refine cw_cond rfl rfl (fun hc => ?_) (fun hc => ?_)
          · (try simp only [decide_eq_true_eq, decide_eq_false_iff_not, Bool.not_eq_true, Bool.not_eq_false, Bool.not_eq_true', Bool.not_eq_false', Bool.and_eq_true, Bool.or_eq_true, Bool.and_eq_false_iff, Bool.or_eq_false_iff, Int.not_lt, Int.not_le, gt_iff_lt, ge_iff_le, ne_eq, Decidable.not_not, beq_iff_eq] at hc)
            have hc3 := hc; clear hc
            refine cw_skip ?_
            refine hK19 _ _ ?_
            refine cw_seq fun K21 hK21 => ?_
            refine cw_block ?_
            refine cw_seq fun K22 hK22 => ?_
            refine cw_region ?_
            refine wl_op rfl rfl (ow_vr (vr_move (v := .int .i64 mix) rfl) ?_)
            refine wl_op rfl rfl (ow_vr (vr_move (v := .int .i64 (k : Int)) rfl) ?_)
            refine wl_op rfl rfl (ow_vr (vr_as (v' := .int .i64 (mix / 2 ^ k)) (vr_shr rfl rfl (by omega)) (congrArg (Value.int .i64) (by rw [Int.toNat_natCast]))) ?_)
            refine wl_op rfl rfl (ow_vr (vr_and_any rfl rfl) ?_)
            refine wl_op rfl rfl (ow_vr (vr_eql rfl rfl) ?_)
            refine wl_nil ?_
            refine hK22 _ _ ?_
            refine cw_cond rfl rfl (fun hc => ?_) (fun hc => ?_)
            · (try simp only [decide_eq_true_eq, decide_eq_false_iff_not, Bool.not_eq_true, Bool.not_eq_false, Bool.not_eq_true', Bool.not_eq_false', Bool.and_eq_true, Bool.or_eq_true, Bool.and_eq_false_iff, Bool.or_eq_false_iff, Int.not_lt, Int.not_le, gt_iff_lt, ge_iff_le, ne_eq, Decidable.not_not, beq_iff_eq] at hc)
              have hbit := hc; clear hc
              refine cw_seq fun K23 hK23 => ?_
              have hbt : bitI mix k = true := by simpa [bitI] using hbit
              obtain ⟨x, hx⟩ := get_lt (xs := pa) (k := k) (by omega)
              obtain ⟨y, hy⟩ := get_lt (xs := pb) (k := k) (by omega)
              have hmk : (mixL mix pa pb k)[k]? = some x := by rw [mix_rest mix pa pb k k (Nat.le_refl _)]; exact hx
              refine cw_draw_sat hS [(0, 0), (1, 0), (2, 0), (3, 0), (4, 0), (5, 1), (6, 0), (7, 0), (8, 0), (9, 1), (10, 0), (11, 0), (12, 0)] mixed (planFast_ok (by kernel_rfl)) (by rintro _ _ _ ⟨⟩) ?_
              clear hS; intro w hS
              refine pl_take rfl (yes_none rfl) (vr_move (v := .bool al) rfl) ?_
              refine pl_take rfl (yes_none rfl) (vr_move (v := .bool al) rfl) ?_
              refine pl_split 84 rfl (fun hc => ?_) (fun hc => ?_)
              · (try simp only [decide_eq_true_eq, decide_eq_false_iff_not, Bool.not_eq_true, Bool.not_eq_false, Bool.not_eq_true', Bool.not_eq_false', Bool.and_eq_true, Bool.or_eq_true, Bool.and_eq_false_iff, Bool.or_eq_false_iff, Int.not_lt, Int.not_le, gt_iff_lt, ge_iff_le, ne_eq, Decidable.not_not, beq_iff_eq] at hc)
                have hal := hc; clear hc
                refine pl_take rfl (yes_some rfl rfl rfl rfl) (vr_move (v := vx) rfl) ?_
                refine pl_take rfl (yes_some rfl rfl rfl rfl) (vr_move (v := .int .i64 (k : Int)) rfl) ?_
                refine pl_take rfl (yes_some rfl rfl rfl rfl) (vr_indexV (v := vx) Try.underlying22 sz_9 rfl hvx rfl (by omega) (by omega)) ?_
                refine pl_load rfl (yes_some rfl rfl rfl rfl) (lr_loadV1 (u := str _) Try.underlying9 rfl rfl hvx (by first | exact List.Mem.head _ | exact List.Mem.tail _ (List.Mem.head _) | exact List.Mem.tail _ (List.Mem.tail _ (List.Mem.head _)) | exact List.Mem.tail _ (List.Mem.tail _ (List.Mem.tail _ (List.Mem.head _))) | exact List.Mem.tail _ (List.Mem.tail _ (List.Mem.tail _ (List.Mem.tail _ (List.Mem.head _)))) | exact List.Mem.tail _ (List.Mem.tail _ (List.Mem.tail _ (List.Mem.tail _ (List.Mem.tail _ (List.Mem.head _))))) | exact List.Mem.tail _ (List.Mem.tail _ (List.Mem.tail _ (List.Mem.tail _ (List.Mem.tail _ (List.Mem.tail _ (List.Mem.head _)))))) | exact List.Mem.tail _ (List.Mem.tail _ (List.Mem.tail _ (List.Mem.tail _ (List.Mem.tail _ (List.Mem.tail _ (List.Mem.tail _ (List.Mem.head _))))))) | exact List.Mem.tail _ (List.Mem.tail _ (List.Mem.tail _ (List.Mem.tail _ (List.Mem.tail _ (List.Mem.tail _ (List.Mem.tail _ (List.Mem.tail _ (List.Mem.head _)))))))) | exact (by assumption) | exact List.Mem.tail _ ((by assumption)) | exact List.Mem.tail _ (List.Mem.tail _ ((by assumption))) | exact List.Mem.tail _ (List.Mem.tail _ (List.Mem.tail _ ((by assumption)))) | exact List.Mem.tail _ (List.Mem.tail _ (List.Mem.tail _ (List.Mem.tail _ ((by assumption))))) | exact List.Mem.tail _ (List.Mem.tail _ (List.Mem.tail _ (List.Mem.tail _ (List.Mem.tail _ ((by assumption))))))) (hx) (by exact fun _ => rfl) (by rfl)) ?_
                refine pl_take rfl (yes_some rfl rfl rfl rfl) (vr_move (v := vy) rfl) ?_
                refine pl_take rfl (yes_some rfl rfl rfl rfl) (vr_move (v := .int .i64 (k : Int)) rfl) ?_
                refine pl_take rfl (yes_some rfl rfl rfl rfl) (vr_indexV (v := vy) Try.underlying22 sz_9 rfl hvy rfl (by omega) (by omega)) ?_
                refine pl_load rfl (yes_some rfl rfl rfl rfl) (lr_loadV1 (u := str _) Try.underlying9 rfl rfl hvy (by first | exact List.Mem.head _ | exact List.Mem.tail _ (List.Mem.head _) | exact List.Mem.tail _ (List.Mem.tail _ (List.Mem.head _)) | exact List.Mem.tail _ (List.Mem.tail _ (List.Mem.tail _ (List.Mem.head _))) | exact List.Mem.tail _ (List.Mem.tail _ (List.Mem.tail _ (List.Mem.tail _ (List.Mem.head _)))) | exact List.Mem.tail _ (List.Mem.tail _ (List.Mem.tail _ (List.Mem.tail _ (List.Mem.tail _ (List.Mem.head _))))) | exact List.Mem.tail _ (List.Mem.tail _ (List.Mem.tail _ (List.Mem.tail _ (List.Mem.tail _ (List.Mem.tail _ (List.Mem.head _)))))) | exact List.Mem.tail _ (List.Mem.tail _ (List.Mem.tail _ (List.Mem.tail _ (List.Mem.tail _ (List.Mem.tail _ (List.Mem.tail _ (List.Mem.head _))))))) | exact List.Mem.tail _ (List.Mem.tail _ (List.Mem.tail _ (List.Mem.tail _ (List.Mem.tail _ (List.Mem.tail _ (List.Mem.tail _ (List.Mem.tail _ (List.Mem.head _)))))))) | exact (by assumption) | exact List.Mem.tail _ ((by assumption)) | exact List.Mem.tail _ (List.Mem.tail _ ((by assumption))) | exact List.Mem.tail _ (List.Mem.tail _ (List.Mem.tail _ ((by assumption)))) | exact List.Mem.tail _ (List.Mem.tail _ (List.Mem.tail _ (List.Mem.tail _ ((by assumption))))) | exact List.Mem.tail _ (List.Mem.tail _ (List.Mem.tail _ (List.Mem.tail _ (List.Mem.tail _ ((by assumption))))))) (hy) (by exact fun _ => rfl) (by rfl)) ?_
                refine pl_take rfl (yes_some rfl rfl rfl rfl) (vr_eql_s rfl rfl) ?_
                refine pl_take rfl (yes_none rfl) (vr_pick (b := true) (v := .bool _) rfl rfl) ?_
                refine pl_take rfl (yes_none rfl) (vr_assign (v := .bool _) rfl) ?_
                refine pl_nil hS ?_
                clear hS; intro w hS
                refine hK23 _ _ ?_
                refine cw_region ?_
                refine wl_op rfl rfl (ow_vr (vr_move (v := v73) rfl) ?_)
                refine wl_op rfl rfl (ow_vr (vr_move (v := .int .i64 (k : Int)) rfl) ?_)
                refine wl_op rfl rfl (ow_vr (vr_move (v := vy) rfl) ?_)
                refine wl_op rfl rfl (ow_vr (vr_move (v := .int .i64 (k : Int)) rfl) ?_)
                refine wl_op rfl rfl (ow_vr (vr_indexV (v := vy) Try.underlying22 sz_9 rfl hvy rfl (by omega) (by omega)) ?_)
                refine wl_op rfl rfl (ow_lr (S := Sat _ _) (lr_loadV1 (u := str _) Try.underlying9 rfl rfl hvy (by first | exact List.Mem.head _ | exact List.Mem.tail _ (List.Mem.head _) | exact List.Mem.tail _ (List.Mem.tail _ (List.Mem.head _)) | exact List.Mem.tail _ (List.Mem.tail _ (List.Mem.tail _ (List.Mem.head _))) | exact List.Mem.tail _ (List.Mem.tail _ (List.Mem.tail _ (List.Mem.tail _ (List.Mem.head _)))) | exact List.Mem.tail _ (List.Mem.tail _ (List.Mem.tail _ (List.Mem.tail _ (List.Mem.tail _ (List.Mem.head _))))) | exact List.Mem.tail _ (List.Mem.tail _ (List.Mem.tail _ (List.Mem.tail _ (List.Mem.tail _ (List.Mem.tail _ (List.Mem.head _)))))) | exact List.Mem.tail _ (List.Mem.tail _ (List.Mem.tail _ (List.Mem.tail _ (List.Mem.tail _ (List.Mem.tail _ (List.Mem.tail _ (List.Mem.head _))))))) | exact List.Mem.tail _ (List.Mem.tail _ (List.Mem.tail _ (List.Mem.tail _ (List.Mem.tail _ (List.Mem.tail _ (List.Mem.tail _ (List.Mem.tail _ (List.Mem.head _)))))))) | exact (by assumption) | exact List.Mem.tail _ ((by assumption)) | exact List.Mem.tail _ (List.Mem.tail _ ((by assumption))) | exact List.Mem.tail _ (List.Mem.tail _ (List.Mem.tail _ ((by assumption)))) | exact List.Mem.tail _ (List.Mem.tail _ (List.Mem.tail _ (List.Mem.tail _ ((by assumption))))) | exact List.Mem.tail _ (List.Mem.tail _ (List.Mem.tail _ (List.Mem.tail _ (List.Mem.tail _ ((by assumption))))))) (hy) (by exact fun _ => rfl) (by rfl)) hS ?_)
                refine wl_op rfl rfl (ow_vr (vr_indexV (v := v73) Try.underlying22 sz_9 rfl (Own.view (by exact fun _ => rfl) hot) rfl (by omega) (by omega)) ?_)
                refine wl_op rfl rfl (ow_storeOwn (b' := y) hS sz_9 rfl rfl rfl (by assumption) (by first | exact HasC.here | exact HasC.there (HasC.here) | exact HasC.there (HasC.there (HasC.here)) | exact HasC.there (HasC.there (HasC.there (HasC.here))) | exact HasC.there (HasC.there (HasC.there (HasC.there (HasC.here)))) | exact HasC.there (HasC.there (HasC.there (HasC.there (HasC.there (HasC.here))))) | exact HasC.there (HasC.there (HasC.there (HasC.there (HasC.there (HasC.there (HasC.here)))))) | exact HasC.there (HasC.there (HasC.there (HasC.there (HasC.there (HasC.there (HasC.there (HasC.here))))))) | exact HasC.there (HasC.there (HasC.there (HasC.there (HasC.there (HasC.there (HasC.there (HasC.there (HasC.here))))))))) (hmk) (by exact fun _ => rfl) (by decide) rfl ?_)
                clear hS; intro D17_7 w ho17_7 hS
                refine wl_nil ?_
                refine hK21 _ _ ?_
                refine cw_region ?_
                refine wl_op rfl rfl (ow_vr (vr_move (v := .int .i64 (k : Int)) rfl) ?_)
                first | (refine wl_op rfl rfl (ow_vr (vr_addi rfl rfl (by unfold inI64; omega)) ?_)) | (refine wl_op rfl rfl (ow_vr (vr_add rfl rfl) ?_))
                refine wl_op rfl rfl (ow_vr (vr_assign (v := .int .i64 _) rfl) ?_)
                refine wl_nil ?_
                refine thenF_normal ⟨_, ?_, k + 1, _, D17_7, _, (reb (reb (reb (reb (reb (reb (reb rfl rfl) rfl) rfl) rfl) rfl) rfl) rfl), ?_, rfl, hS⟩
                · omega
                · exact ⟨⟨by omega, by rw [alikeL, hbt, hx, hy, ← hald]; simp_all⟩, by rw [mixL, if_pos hbt, hy]; exact ho17_7⟩
              · (try simp only [decide_eq_true_eq, decide_eq_false_iff_not, Bool.not_eq_true, Bool.not_eq_false, Bool.not_eq_true', Bool.not_eq_false', Bool.and_eq_true, Bool.or_eq_true, Bool.and_eq_false_iff, Bool.or_eq_false_iff, Int.not_lt, Int.not_le, gt_iff_lt, ge_iff_le, ne_eq, Decidable.not_not, beq_iff_eq] at hc)
                have hal := hc; clear hc
                refine pl_noD rfl (yes_not rfl rfl rfl rfl rfl) ?_
                refine pl_noD rfl (yes_not rfl rfl rfl rfl rfl) ?_
                refine pl_noD rfl (yes_not rfl rfl rfl rfl rfl) ?_
                refine pl_noD rfl (yes_not rfl rfl rfl rfl rfl) ?_
                refine pl_noD rfl (yes_not rfl rfl rfl rfl rfl) ?_
                refine pl_noD rfl (yes_not rfl rfl rfl rfl rfl) ?_
                refine pl_noD rfl (yes_not rfl rfl rfl rfl rfl) ?_
                refine pl_noD rfl (yes_not rfl rfl rfl rfl rfl) ?_
                refine pl_noD rfl (yes_not rfl rfl rfl rfl rfl) ?_
                refine pl_take rfl (yes_none rfl) (vr_pick (b := false) (v := .bool _) rfl rfl) ?_
                refine pl_take rfl (yes_none rfl) (vr_assign (v := .bool _) rfl) ?_
                refine pl_nil hS ?_
                clear hS; intro w hS
                refine hK23 _ _ ?_
                refine cw_region ?_
                refine wl_op rfl rfl (ow_vr (vr_move (v := v73) rfl) ?_)
                refine wl_op rfl rfl (ow_vr (vr_move (v := .int .i64 (k : Int)) rfl) ?_)
                refine wl_op rfl rfl (ow_vr (vr_move (v := vy) rfl) ?_)
                refine wl_op rfl rfl (ow_vr (vr_move (v := .int .i64 (k : Int)) rfl) ?_)
                refine wl_op rfl rfl (ow_vr (vr_indexV (v := vy) Try.underlying22 sz_9 rfl hvy rfl (by omega) (by omega)) ?_)
                refine wl_op rfl rfl (ow_lr (S := Sat _ _) (lr_loadV1 (u := str _) Try.underlying9 rfl rfl hvy (by first | exact List.Mem.head _ | exact List.Mem.tail _ (List.Mem.head _) | exact List.Mem.tail _ (List.Mem.tail _ (List.Mem.head _)) | exact List.Mem.tail _ (List.Mem.tail _ (List.Mem.tail _ (List.Mem.head _))) | exact List.Mem.tail _ (List.Mem.tail _ (List.Mem.tail _ (List.Mem.tail _ (List.Mem.head _)))) | exact List.Mem.tail _ (List.Mem.tail _ (List.Mem.tail _ (List.Mem.tail _ (List.Mem.tail _ (List.Mem.head _))))) | exact List.Mem.tail _ (List.Mem.tail _ (List.Mem.tail _ (List.Mem.tail _ (List.Mem.tail _ (List.Mem.tail _ (List.Mem.head _)))))) | exact List.Mem.tail _ (List.Mem.tail _ (List.Mem.tail _ (List.Mem.tail _ (List.Mem.tail _ (List.Mem.tail _ (List.Mem.tail _ (List.Mem.head _))))))) | exact List.Mem.tail _ (List.Mem.tail _ (List.Mem.tail _ (List.Mem.tail _ (List.Mem.tail _ (List.Mem.tail _ (List.Mem.tail _ (List.Mem.tail _ (List.Mem.head _)))))))) | exact (by assumption) | exact List.Mem.tail _ ((by assumption)) | exact List.Mem.tail _ (List.Mem.tail _ ((by assumption))) | exact List.Mem.tail _ (List.Mem.tail _ (List.Mem.tail _ ((by assumption)))) | exact List.Mem.tail _ (List.Mem.tail _ (List.Mem.tail _ (List.Mem.tail _ ((by assumption))))) | exact List.Mem.tail _ (List.Mem.tail _ (List.Mem.tail _ (List.Mem.tail _ (List.Mem.tail _ ((by assumption))))))) (hy) (by exact fun _ => rfl) (by rfl)) hS ?_)
                refine wl_op rfl rfl (ow_vr (vr_indexV (v := v73) Try.underlying22 sz_9 rfl (Own.view (by exact fun _ => rfl) hot) rfl (by omega) (by omega)) ?_)
                refine wl_op rfl rfl (ow_storeOwn (b' := y) hS sz_9 rfl rfl rfl (by assumption) (by first | exact HasC.here | exact HasC.there (HasC.here) | exact HasC.there (HasC.there (HasC.here)) | exact HasC.there (HasC.there (HasC.there (HasC.here))) | exact HasC.there (HasC.there (HasC.there (HasC.there (HasC.here)))) | exact HasC.there (HasC.there (HasC.there (HasC.there (HasC.there (HasC.here))))) | exact HasC.there (HasC.there (HasC.there (HasC.there (HasC.there (HasC.there (HasC.here)))))) | exact HasC.there (HasC.there (HasC.there (HasC.there (HasC.there (HasC.there (HasC.there (HasC.here))))))) | exact HasC.there (HasC.there (HasC.there (HasC.there (HasC.there (HasC.there (HasC.there (HasC.there (HasC.here))))))))) (hmk) (by exact fun _ => rfl) (by decide) rfl ?_)
                clear hS; intro D17_7 w ho17_7 hS
                refine wl_nil ?_
                refine hK21 _ _ ?_
                refine cw_region ?_
                refine wl_op rfl rfl (ow_vr (vr_move (v := .int .i64 (k : Int)) rfl) ?_)
                first | (refine wl_op rfl rfl (ow_vr (vr_addi rfl rfl (by unfold inI64; omega)) ?_)) | (refine wl_op rfl rfl (ow_vr (vr_add rfl rfl) ?_))
                refine wl_op rfl rfl (ow_vr (vr_assign (v := .int .i64 _) rfl) ?_)
                refine wl_nil ?_
                refine thenF_normal ⟨_, ?_, k + 1, _, D17_7, _, (reb (reb (reb (reb (reb (reb (reb rfl rfl) rfl) rfl) rfl) rfl) rfl) rfl), ?_, rfl, hS⟩
                · omega
                · exact ⟨⟨by omega, by rw [alikeL, hbt, hx, hy, ← hald]; simp_all⟩, by rw [mixL, if_pos hbt, hy]; exact ho17_7⟩
            · (try simp only [decide_eq_true_eq, decide_eq_false_iff_not, Bool.not_eq_true, Bool.not_eq_false, Bool.not_eq_true', Bool.not_eq_false', Bool.and_eq_true, Bool.or_eq_true, Bool.and_eq_false_iff, Bool.or_eq_false_iff, Int.not_lt, Int.not_le, gt_iff_lt, ge_iff_le, ne_eq, Decidable.not_not, beq_iff_eq] at hc)
              have hbit := hc; clear hc
              refine cw_skip ?_
              refine hK21 _ _ ?_
              refine cw_region ?_
              refine wl_op rfl rfl (ow_vr (vr_move (v := .int .i64 (k : Int)) rfl) ?_)
              first | (refine wl_op rfl rfl (ow_vr (vr_addi rfl rfl (by unfold inI64; omega)) ?_)) | (refine wl_op rfl rfl (ow_vr (vr_add rfl rfl) ?_))
              refine wl_op rfl rfl (ow_vr (vr_assign (v := .int .i64 _) rfl) ?_)
              refine wl_nil ?_
              refine thenF_normal ⟨_, ?_, k + 1, al, Dt, _, (reb (reb (reb (reb (reb (reb (reb rfl rfl) rfl) rfl) rfl) rfl) rfl) rfl), ?_, rfl, hS⟩
              · omega
              · exact ⟨⟨by omega, by rw [alikeL, ← hald, show bitI mix k = false by simpa [bitI] using hbit]; simp⟩, by rw [mixL, if_neg (by simp [bitI]; exact hbit)]; exact hot⟩
          · (try simp only [decide_eq_true_eq, decide_eq_false_iff_not, Bool.not_eq_true, Bool.not_eq_false, Bool.not_eq_true', Bool.not_eq_false', Bool.and_eq_true, Bool.or_eq_true, Bool.and_eq_false_iff, Bool.or_eq_false_iff, Int.not_lt, Int.not_le, gt_iff_lt, ge_iff_le, ne_eq, Decidable.not_not, beq_iff_eq] at hc)
            have hc3 := hc; clear hc
            refine cw_exit ?_
            refine hK17 _ _ ?_
            refine cw_seq fun K24 hK24 => ?_
            obtain rfl : k = 3 := by omega
            obtain ⟨T, hT⟩ : ∃ T, mixL mix pa pb 3 = T := ⟨_, rfl⟩
            have hTl : T.length = 3 := by rw [← hT, mix_length]; exact hpal
            have hT32 : ∀ x ∈ T, x.length = 32 := by rw [← hT]; exact hlen 3 (by omega)
            have hTf : T.flatten.length ≤ 1000000 := by rw [flat_le T hT32]; omega
            have h20 : al = true → getOkP T = true ∧ noR T.flatten = no := fun h => by
              have e : T = pa := by rw [← hT]; exact mix_alike mix pa pb (by omega) 3 (by omega) (by rw [← hald]; exact h)
              rw [e]; exact ⟨hgpa, hnoa⟩
            rw [hT] at hot
            have hvt := Own.view (by exact fun _ => rfl) hot
            refine cw_region ?_
            refine wl_op rfl rfl (ow_vr (vr_move (v := v73) rfl) ?_)
            refine wl_op rfl rfl (ow_fng (vs := [v73]) en_50 rfl hS (page_Get T _ _ hvt (by omega) hTf) (by first | exact needs1 (by first | exact List.Mem.head _ | exact List.Mem.tail _ (List.Mem.head _) | exact List.Mem.tail _ (List.Mem.tail _ (List.Mem.head _)) | exact List.Mem.tail _ (List.Mem.tail _ (List.Mem.tail _ (List.Mem.head _))) | exact List.Mem.tail _ (List.Mem.tail _ (List.Mem.tail _ (List.Mem.tail _ (List.Mem.head _)))) | exact List.Mem.tail _ (List.Mem.tail _ (List.Mem.tail _ (List.Mem.tail _ (List.Mem.tail _ (List.Mem.head _))))) | exact List.Mem.tail _ (List.Mem.tail _ (List.Mem.tail _ (List.Mem.tail _ (List.Mem.tail _ (List.Mem.tail _ (List.Mem.head _)))))) | exact List.Mem.tail _ (List.Mem.tail _ (List.Mem.tail _ (List.Mem.tail _ (List.Mem.tail _ (List.Mem.tail _ (List.Mem.tail _ (List.Mem.head _))))))) | exact List.Mem.tail _ (List.Mem.tail _ (List.Mem.tail _ (List.Mem.tail _ (List.Mem.tail _ (List.Mem.tail _ (List.Mem.tail _ (List.Mem.tail _ (List.Mem.head _)))))))) | exact (by assumption) | exact List.Mem.tail _ ((by assumption)) | exact List.Mem.tail _ (List.Mem.tail _ ((by assumption))) | exact List.Mem.tail _ (List.Mem.tail _ (List.Mem.tail _ ((by assumption)))) | exact List.Mem.tail _ (List.Mem.tail _ (List.Mem.tail _ (List.Mem.tail _ ((by assumption))))) | exact List.Mem.tail _ (List.Mem.tail _ (List.Mem.tail _ (List.Mem.tail _ (List.Mem.tail _ ((by assumption))))))) | exact needs0 | exact needs2 (by first | exact List.Mem.head _ | exact List.Mem.tail _ (List.Mem.head _) | exact List.Mem.tail _ (List.Mem.tail _ (List.Mem.head _)) | exact List.Mem.tail _ (List.Mem.tail _ (List.Mem.tail _ (List.Mem.head _))) | exact List.Mem.tail _ (List.Mem.tail _ (List.Mem.tail _ (List.Mem.tail _ (List.Mem.head _)))) | exact List.Mem.tail _ (List.Mem.tail _ (List.Mem.tail _ (List.Mem.tail _ (List.Mem.tail _ (List.Mem.head _))))) | exact List.Mem.tail _ (List.Mem.tail _ (List.Mem.tail _ (List.Mem.tail _ (List.Mem.tail _ (List.Mem.tail _ (List.Mem.head _)))))) | exact List.Mem.tail _ (List.Mem.tail _ (List.Mem.tail _ (List.Mem.tail _ (List.Mem.tail _ (List.Mem.tail _ (List.Mem.tail _ (List.Mem.head _))))))) | exact List.Mem.tail _ (List.Mem.tail _ (List.Mem.tail _ (List.Mem.tail _ (List.Mem.tail _ (List.Mem.tail _ (List.Mem.tail _ (List.Mem.tail _ (List.Mem.head _)))))))) | exact (by assumption) | exact List.Mem.tail _ ((by assumption)) | exact List.Mem.tail _ (List.Mem.tail _ ((by assumption))) | exact List.Mem.tail _ (List.Mem.tail _ (List.Mem.tail _ ((by assumption)))) | exact List.Mem.tail _ (List.Mem.tail _ (List.Mem.tail _ (List.Mem.tail _ ((by assumption))))) | exact List.Mem.tail _ (List.Mem.tail _ (List.Mem.tail _ (List.Mem.tail _ (List.Mem.tail _ ((by assumption))))))) (by first | exact List.Mem.head _ | exact List.Mem.tail _ (List.Mem.head _) | exact List.Mem.tail _ (List.Mem.tail _ (List.Mem.head _)) | exact List.Mem.tail _ (List.Mem.tail _ (List.Mem.tail _ (List.Mem.head _))) | exact List.Mem.tail _ (List.Mem.tail _ (List.Mem.tail _ (List.Mem.tail _ (List.Mem.head _)))) | exact List.Mem.tail _ (List.Mem.tail _ (List.Mem.tail _ (List.Mem.tail _ (List.Mem.tail _ (List.Mem.head _))))) | exact List.Mem.tail _ (List.Mem.tail _ (List.Mem.tail _ (List.Mem.tail _ (List.Mem.tail _ (List.Mem.tail _ (List.Mem.head _)))))) | exact List.Mem.tail _ (List.Mem.tail _ (List.Mem.tail _ (List.Mem.tail _ (List.Mem.tail _ (List.Mem.tail _ (List.Mem.tail _ (List.Mem.head _))))))) | exact List.Mem.tail _ (List.Mem.tail _ (List.Mem.tail _ (List.Mem.tail _ (List.Mem.tail _ (List.Mem.tail _ (List.Mem.tail _ (List.Mem.tail _ (List.Mem.head _)))))))) | exact (by assumption) | exact List.Mem.tail _ ((by assumption)) | exact List.Mem.tail _ (List.Mem.tail _ ((by assumption))) | exact List.Mem.tail _ (List.Mem.tail _ (List.Mem.tail _ ((by assumption)))) | exact List.Mem.tail _ (List.Mem.tail _ (List.Mem.tail _ (List.Mem.tail _ ((by assumption))))) | exact List.Mem.tail _ (List.Mem.tail _ (List.Mem.tail _ (List.Mem.tail _ (List.Mem.tail _ ((by assumption))))))) | exact needs3 (by first | exact List.Mem.head _ | exact List.Mem.tail _ (List.Mem.head _) | exact List.Mem.tail _ (List.Mem.tail _ (List.Mem.head _)) | exact List.Mem.tail _ (List.Mem.tail _ (List.Mem.tail _ (List.Mem.head _))) | exact List.Mem.tail _ (List.Mem.tail _ (List.Mem.tail _ (List.Mem.tail _ (List.Mem.head _)))) | exact List.Mem.tail _ (List.Mem.tail _ (List.Mem.tail _ (List.Mem.tail _ (List.Mem.tail _ (List.Mem.head _))))) | exact List.Mem.tail _ (List.Mem.tail _ (List.Mem.tail _ (List.Mem.tail _ (List.Mem.tail _ (List.Mem.tail _ (List.Mem.head _)))))) | exact List.Mem.tail _ (List.Mem.tail _ (List.Mem.tail _ (List.Mem.tail _ (List.Mem.tail _ (List.Mem.tail _ (List.Mem.tail _ (List.Mem.head _))))))) | exact List.Mem.tail _ (List.Mem.tail _ (List.Mem.tail _ (List.Mem.tail _ (List.Mem.tail _ (List.Mem.tail _ (List.Mem.tail _ (List.Mem.tail _ (List.Mem.head _)))))))) | exact (by assumption) | exact List.Mem.tail _ ((by assumption)) | exact List.Mem.tail _ (List.Mem.tail _ ((by assumption))) | exact List.Mem.tail _ (List.Mem.tail _ (List.Mem.tail _ ((by assumption)))) | exact List.Mem.tail _ (List.Mem.tail _ (List.Mem.tail _ (List.Mem.tail _ ((by assumption))))) | exact List.Mem.tail _ (List.Mem.tail _ (List.Mem.tail _ (List.Mem.tail _ (List.Mem.tail _ ((by assumption))))))) (by first | exact List.Mem.head _ | exact List.Mem.tail _ (List.Mem.head _) | exact List.Mem.tail _ (List.Mem.tail _ (List.Mem.head _)) | exact List.Mem.tail _ (List.Mem.tail _ (List.Mem.tail _ (List.Mem.head _))) | exact List.Mem.tail _ (List.Mem.tail _ (List.Mem.tail _ (List.Mem.tail _ (List.Mem.head _)))) | exact List.Mem.tail _ (List.Mem.tail _ (List.Mem.tail _ (List.Mem.tail _ (List.Mem.tail _ (List.Mem.head _))))) | exact List.Mem.tail _ (List.Mem.tail _ (List.Mem.tail _ (List.Mem.tail _ (List.Mem.tail _ (List.Mem.tail _ (List.Mem.head _)))))) | exact List.Mem.tail _ (List.Mem.tail _ (List.Mem.tail _ (List.Mem.tail _ (List.Mem.tail _ (List.Mem.tail _ (List.Mem.tail _ (List.Mem.head _))))))) | exact List.Mem.tail _ (List.Mem.tail _ (List.Mem.tail _ (List.Mem.tail _ (List.Mem.tail _ (List.Mem.tail _ (List.Mem.tail _ (List.Mem.tail _ (List.Mem.head _)))))))) | exact (by assumption) | exact List.Mem.tail _ ((by assumption)) | exact List.Mem.tail _ (List.Mem.tail _ ((by assumption))) | exact List.Mem.tail _ (List.Mem.tail _ (List.Mem.tail _ ((by assumption)))) | exact List.Mem.tail _ (List.Mem.tail _ (List.Mem.tail _ (List.Mem.tail _ ((by assumption))))) | exact List.Mem.tail _ (List.Mem.tail _ (List.Mem.tail _ (List.Mem.tail _ (List.Mem.tail _ ((by assumption))))))) (by first | exact List.Mem.head _ | exact List.Mem.tail _ (List.Mem.head _) | exact List.Mem.tail _ (List.Mem.tail _ (List.Mem.head _)) | exact List.Mem.tail _ (List.Mem.tail _ (List.Mem.tail _ (List.Mem.head _))) | exact List.Mem.tail _ (List.Mem.tail _ (List.Mem.tail _ (List.Mem.tail _ (List.Mem.head _)))) | exact List.Mem.tail _ (List.Mem.tail _ (List.Mem.tail _ (List.Mem.tail _ (List.Mem.tail _ (List.Mem.head _))))) | exact List.Mem.tail _ (List.Mem.tail _ (List.Mem.tail _ (List.Mem.tail _ (List.Mem.tail _ (List.Mem.tail _ (List.Mem.head _)))))) | exact List.Mem.tail _ (List.Mem.tail _ (List.Mem.tail _ (List.Mem.tail _ (List.Mem.tail _ (List.Mem.tail _ (List.Mem.tail _ (List.Mem.head _))))))) | exact List.Mem.tail _ (List.Mem.tail _ (List.Mem.tail _ (List.Mem.tail _ (List.Mem.tail _ (List.Mem.tail _ (List.Mem.tail _ (List.Mem.tail _ (List.Mem.head _)))))))) | exact (by assumption) | exact List.Mem.tail _ ((by assumption)) | exact List.Mem.tail _ (List.Mem.tail _ ((by assumption))) | exact List.Mem.tail _ (List.Mem.tail _ (List.Mem.tail _ ((by assumption)))) | exact List.Mem.tail _ (List.Mem.tail _ (List.Mem.tail _ (List.Mem.tail _ ((by assumption))))) | exact List.Mem.tail _ (List.Mem.tail _ (List.Mem.tail _ (List.Mem.tail _ (List.Mem.tail _ ((by assumption)))))))) ?_)
            clear hS; rintro v104 _ w ⟨vG, DG, rfl, rfl, hoG⟩ hS; (try simp only [List.cons_append, List.nil_append] at hS)
            refine wl_op rfl rfl (ow_vr (vr_move (v := .tuple _) rfl) ?_)
            refine wl_op rfl rfl (ow_vr (vr_extract (v := .int .i64 _) rfl rfl) ?_)
            refine wl_op rfl rfl (ow_vr (vr_extract (v := .int .i64 _) rfl rfl) ?_)
            refine wl_op rfl rfl (ow_vr (vr_extract (v := vG) rfl rfl) ?_)
            refine wl_op rfl rfl (ow_vr (vr_extract (v := .bool _) rfl rfl) ?_)
            refine wl_op rfl rfl (ow_vr (vr_assign (v := .int .i64 _) rfl) ?_)
            refine wl_op rfl rfl (ow_vr (vr_assign (v := .int .i64 _) rfl) ?_)
            refine wl_op rfl rfl (ow_vr (vr_assign (v := vG) rfl) ?_)
            refine wl_op rfl rfl (ow_vr (vr_assign (v := .bool _) rfl) ?_)
            refine wl_nil ?_
            refine hK24 _ _ ?_
            refine cw_seq fun K25 hK25 => ?_
            refine cw_region ?_
            refine wl_op rfl rfl (ow_vr (vr_move (v := v73) rfl) ?_)
            refine wl_op rfl rfl (ow_fng (vs := [v73]) en_51 rfl hS (ref_Paged T _ _ hvt (by omega)) (by first | exact needs1 (by first | exact List.Mem.head _ | exact List.Mem.tail _ (List.Mem.head _) | exact List.Mem.tail _ (List.Mem.tail _ (List.Mem.head _)) | exact List.Mem.tail _ (List.Mem.tail _ (List.Mem.tail _ (List.Mem.head _))) | exact List.Mem.tail _ (List.Mem.tail _ (List.Mem.tail _ (List.Mem.tail _ (List.Mem.head _)))) | exact List.Mem.tail _ (List.Mem.tail _ (List.Mem.tail _ (List.Mem.tail _ (List.Mem.tail _ (List.Mem.head _))))) | exact List.Mem.tail _ (List.Mem.tail _ (List.Mem.tail _ (List.Mem.tail _ (List.Mem.tail _ (List.Mem.tail _ (List.Mem.head _)))))) | exact List.Mem.tail _ (List.Mem.tail _ (List.Mem.tail _ (List.Mem.tail _ (List.Mem.tail _ (List.Mem.tail _ (List.Mem.tail _ (List.Mem.head _))))))) | exact List.Mem.tail _ (List.Mem.tail _ (List.Mem.tail _ (List.Mem.tail _ (List.Mem.tail _ (List.Mem.tail _ (List.Mem.tail _ (List.Mem.tail _ (List.Mem.head _)))))))) | exact (by assumption) | exact List.Mem.tail _ ((by assumption)) | exact List.Mem.tail _ (List.Mem.tail _ ((by assumption))) | exact List.Mem.tail _ (List.Mem.tail _ (List.Mem.tail _ ((by assumption)))) | exact List.Mem.tail _ (List.Mem.tail _ (List.Mem.tail _ (List.Mem.tail _ ((by assumption))))) | exact List.Mem.tail _ (List.Mem.tail _ (List.Mem.tail _ (List.Mem.tail _ (List.Mem.tail _ ((by assumption))))))) | exact needs0 | exact needs2 (by first | exact List.Mem.head _ | exact List.Mem.tail _ (List.Mem.head _) | exact List.Mem.tail _ (List.Mem.tail _ (List.Mem.head _)) | exact List.Mem.tail _ (List.Mem.tail _ (List.Mem.tail _ (List.Mem.head _))) | exact List.Mem.tail _ (List.Mem.tail _ (List.Mem.tail _ (List.Mem.tail _ (List.Mem.head _)))) | exact List.Mem.tail _ (List.Mem.tail _ (List.Mem.tail _ (List.Mem.tail _ (List.Mem.tail _ (List.Mem.head _))))) | exact List.Mem.tail _ (List.Mem.tail _ (List.Mem.tail _ (List.Mem.tail _ (List.Mem.tail _ (List.Mem.tail _ (List.Mem.head _)))))) | exact List.Mem.tail _ (List.Mem.tail _ (List.Mem.tail _ (List.Mem.tail _ (List.Mem.tail _ (List.Mem.tail _ (List.Mem.tail _ (List.Mem.head _))))))) | exact List.Mem.tail _ (List.Mem.tail _ (List.Mem.tail _ (List.Mem.tail _ (List.Mem.tail _ (List.Mem.tail _ (List.Mem.tail _ (List.Mem.tail _ (List.Mem.head _)))))))) | exact (by assumption) | exact List.Mem.tail _ ((by assumption)) | exact List.Mem.tail _ (List.Mem.tail _ ((by assumption))) | exact List.Mem.tail _ (List.Mem.tail _ (List.Mem.tail _ ((by assumption)))) | exact List.Mem.tail _ (List.Mem.tail _ (List.Mem.tail _ (List.Mem.tail _ ((by assumption))))) | exact List.Mem.tail _ (List.Mem.tail _ (List.Mem.tail _ (List.Mem.tail _ (List.Mem.tail _ ((by assumption))))))) (by first | exact List.Mem.head _ | exact List.Mem.tail _ (List.Mem.head _) | exact List.Mem.tail _ (List.Mem.tail _ (List.Mem.head _)) | exact List.Mem.tail _ (List.Mem.tail _ (List.Mem.tail _ (List.Mem.head _))) | exact List.Mem.tail _ (List.Mem.tail _ (List.Mem.tail _ (List.Mem.tail _ (List.Mem.head _)))) | exact List.Mem.tail _ (List.Mem.tail _ (List.Mem.tail _ (List.Mem.tail _ (List.Mem.tail _ (List.Mem.head _))))) | exact List.Mem.tail _ (List.Mem.tail _ (List.Mem.tail _ (List.Mem.tail _ (List.Mem.tail _ (List.Mem.tail _ (List.Mem.head _)))))) | exact List.Mem.tail _ (List.Mem.tail _ (List.Mem.tail _ (List.Mem.tail _ (List.Mem.tail _ (List.Mem.tail _ (List.Mem.tail _ (List.Mem.head _))))))) | exact List.Mem.tail _ (List.Mem.tail _ (List.Mem.tail _ (List.Mem.tail _ (List.Mem.tail _ (List.Mem.tail _ (List.Mem.tail _ (List.Mem.tail _ (List.Mem.head _)))))))) | exact (by assumption) | exact List.Mem.tail _ ((by assumption)) | exact List.Mem.tail _ (List.Mem.tail _ ((by assumption))) | exact List.Mem.tail _ (List.Mem.tail _ (List.Mem.tail _ ((by assumption)))) | exact List.Mem.tail _ (List.Mem.tail _ (List.Mem.tail _ (List.Mem.tail _ ((by assumption))))) | exact List.Mem.tail _ (List.Mem.tail _ (List.Mem.tail _ (List.Mem.tail _ (List.Mem.tail _ ((by assumption))))))) | exact needs3 (by first | exact List.Mem.head _ | exact List.Mem.tail _ (List.Mem.head _) | exact List.Mem.tail _ (List.Mem.tail _ (List.Mem.head _)) | exact List.Mem.tail _ (List.Mem.tail _ (List.Mem.tail _ (List.Mem.head _))) | exact List.Mem.tail _ (List.Mem.tail _ (List.Mem.tail _ (List.Mem.tail _ (List.Mem.head _)))) | exact List.Mem.tail _ (List.Mem.tail _ (List.Mem.tail _ (List.Mem.tail _ (List.Mem.tail _ (List.Mem.head _))))) | exact List.Mem.tail _ (List.Mem.tail _ (List.Mem.tail _ (List.Mem.tail _ (List.Mem.tail _ (List.Mem.tail _ (List.Mem.head _)))))) | exact List.Mem.tail _ (List.Mem.tail _ (List.Mem.tail _ (List.Mem.tail _ (List.Mem.tail _ (List.Mem.tail _ (List.Mem.tail _ (List.Mem.head _))))))) | exact List.Mem.tail _ (List.Mem.tail _ (List.Mem.tail _ (List.Mem.tail _ (List.Mem.tail _ (List.Mem.tail _ (List.Mem.tail _ (List.Mem.tail _ (List.Mem.head _)))))))) | exact (by assumption) | exact List.Mem.tail _ ((by assumption)) | exact List.Mem.tail _ (List.Mem.tail _ ((by assumption))) | exact List.Mem.tail _ (List.Mem.tail _ (List.Mem.tail _ ((by assumption)))) | exact List.Mem.tail _ (List.Mem.tail _ (List.Mem.tail _ (List.Mem.tail _ ((by assumption))))) | exact List.Mem.tail _ (List.Mem.tail _ (List.Mem.tail _ (List.Mem.tail _ (List.Mem.tail _ ((by assumption))))))) (by first | exact List.Mem.head _ | exact List.Mem.tail _ (List.Mem.head _) | exact List.Mem.tail _ (List.Mem.tail _ (List.Mem.head _)) | exact List.Mem.tail _ (List.Mem.tail _ (List.Mem.tail _ (List.Mem.head _))) | exact List.Mem.tail _ (List.Mem.tail _ (List.Mem.tail _ (List.Mem.tail _ (List.Mem.head _)))) | exact List.Mem.tail _ (List.Mem.tail _ (List.Mem.tail _ (List.Mem.tail _ (List.Mem.tail _ (List.Mem.head _))))) | exact List.Mem.tail _ (List.Mem.tail _ (List.Mem.tail _ (List.Mem.tail _ (List.Mem.tail _ (List.Mem.tail _ (List.Mem.head _)))))) | exact List.Mem.tail _ (List.Mem.tail _ (List.Mem.tail _ (List.Mem.tail _ (List.Mem.tail _ (List.Mem.tail _ (List.Mem.tail _ (List.Mem.head _))))))) | exact List.Mem.tail _ (List.Mem.tail _ (List.Mem.tail _ (List.Mem.tail _ (List.Mem.tail _ (List.Mem.tail _ (List.Mem.tail _ (List.Mem.tail _ (List.Mem.head _)))))))) | exact (by assumption) | exact List.Mem.tail _ ((by assumption)) | exact List.Mem.tail _ (List.Mem.tail _ ((by assumption))) | exact List.Mem.tail _ (List.Mem.tail _ (List.Mem.tail _ ((by assumption)))) | exact List.Mem.tail _ (List.Mem.tail _ (List.Mem.tail _ (List.Mem.tail _ ((by assumption))))) | exact List.Mem.tail _ (List.Mem.tail _ (List.Mem.tail _ (List.Mem.tail _ (List.Mem.tail _ ((by assumption))))))) (by first | exact List.Mem.head _ | exact List.Mem.tail _ (List.Mem.head _) | exact List.Mem.tail _ (List.Mem.tail _ (List.Mem.head _)) | exact List.Mem.tail _ (List.Mem.tail _ (List.Mem.tail _ (List.Mem.head _))) | exact List.Mem.tail _ (List.Mem.tail _ (List.Mem.tail _ (List.Mem.tail _ (List.Mem.head _)))) | exact List.Mem.tail _ (List.Mem.tail _ (List.Mem.tail _ (List.Mem.tail _ (List.Mem.tail _ (List.Mem.head _))))) | exact List.Mem.tail _ (List.Mem.tail _ (List.Mem.tail _ (List.Mem.tail _ (List.Mem.tail _ (List.Mem.tail _ (List.Mem.head _)))))) | exact List.Mem.tail _ (List.Mem.tail _ (List.Mem.tail _ (List.Mem.tail _ (List.Mem.tail _ (List.Mem.tail _ (List.Mem.tail _ (List.Mem.head _))))))) | exact List.Mem.tail _ (List.Mem.tail _ (List.Mem.tail _ (List.Mem.tail _ (List.Mem.tail _ (List.Mem.tail _ (List.Mem.tail _ (List.Mem.tail _ (List.Mem.head _)))))))) | exact (by assumption) | exact List.Mem.tail _ ((by assumption)) | exact List.Mem.tail _ (List.Mem.tail _ ((by assumption))) | exact List.Mem.tail _ (List.Mem.tail _ (List.Mem.tail _ ((by assumption)))) | exact List.Mem.tail _ (List.Mem.tail _ (List.Mem.tail _ (List.Mem.tail _ ((by assumption))))) | exact List.Mem.tail _ (List.Mem.tail _ (List.Mem.tail _ (List.Mem.tail _ (List.Mem.tail _ ((by assumption)))))))) ?_)
            clear hS; rintro v111 _ w ⟨vH, DH, rfl, rfl, hoH⟩ hS; (try simp only [List.cons_append, List.nil_append] at hS)
            refine wl_op rfl rfl (ow_vr (vr_move (v := .tuple _) rfl) ?_)
            refine wl_op rfl rfl (ow_vr (vr_extract (v := .int .i64 _) rfl rfl) ?_)
            refine wl_op rfl rfl (ow_vr (vr_extract (v := .int .i64 _) rfl rfl) ?_)
            refine wl_op rfl rfl (ow_vr (vr_extract (v := vH) rfl rfl) ?_)
            refine wl_op rfl rfl (ow_vr (vr_extract (v := .bool _) rfl rfl) ?_)
            refine wl_op rfl rfl (ow_vr (vr_assign (v := .int .i64 _) rfl) ?_)
            refine wl_op rfl rfl (ow_vr (vr_assign (v := .int .i64 _) rfl) ?_)
            refine wl_op rfl rfl (ow_vr (vr_assign (v := vH) rfl) ?_)
            refine wl_op rfl rfl (ow_vr (vr_assign (v := .bool _) rfl) ?_)
            refine wl_nil ?_
            refine hK25 _ _ ?_
            refine cw_seq fun K26 hK26 => ?_
            obtain ⟨X, hX⟩ : ∃ X, (if getOkP T then cellsR T.flatten else []) = X := ⟨_, rfl⟩
            rw [hX] at hoG hoH
            have hXl : X.length ≤ 16 := by rw [← hX]; split <;> simp [cellsR]
            refine cw_region ?_
            refine wl_op rfl rfl (ow_vr (vr_move (v := .bool _) rfl) ?_)
            refine wl_op rfl rfl (ow_vr (vr_move (v := .bool _) rfl) ?_)
            refine wl_op rfl rfl (ow_vr (vr_eqlb Try.underlying4 rfl rfl) ?_)
            refine wl_op rfl rfl (ow_vr (vr_move (v := .bool _) rfl) ?_)
            refine wl_known 119 rfl (c := true) (by simp) ?_
            refine wl_yes rfl rfl rfl rfl rfl (ow_vr (vr_move (v := vG) rfl) ?_)
            refine wl_yes rfl rfl rfl rfl rfl (ow_vr (vr_move (v := vH) rfl) ?_)
            refine wl_yes rfl rfl rfl rfl rfl (ow_fng (vs := [vG, vH]) en_55 rfl hS (book_SameInts X X _ _ _ _ (Own.view (by exact fun _ => rfl) hoG) (Own.view (by exact fun _ => rfl) hoH) (by omega) (by omega)) (by first | exact needs1 (by first | exact List.Mem.head _ | exact List.Mem.tail _ (List.Mem.head _) | exact List.Mem.tail _ (List.Mem.tail _ (List.Mem.head _)) | exact List.Mem.tail _ (List.Mem.tail _ (List.Mem.tail _ (List.Mem.head _))) | exact List.Mem.tail _ (List.Mem.tail _ (List.Mem.tail _ (List.Mem.tail _ (List.Mem.head _)))) | exact List.Mem.tail _ (List.Mem.tail _ (List.Mem.tail _ (List.Mem.tail _ (List.Mem.tail _ (List.Mem.head _))))) | exact List.Mem.tail _ (List.Mem.tail _ (List.Mem.tail _ (List.Mem.tail _ (List.Mem.tail _ (List.Mem.tail _ (List.Mem.head _)))))) | exact List.Mem.tail _ (List.Mem.tail _ (List.Mem.tail _ (List.Mem.tail _ (List.Mem.tail _ (List.Mem.tail _ (List.Mem.tail _ (List.Mem.head _))))))) | exact List.Mem.tail _ (List.Mem.tail _ (List.Mem.tail _ (List.Mem.tail _ (List.Mem.tail _ (List.Mem.tail _ (List.Mem.tail _ (List.Mem.tail _ (List.Mem.head _)))))))) | exact (by assumption) | exact List.Mem.tail _ ((by assumption)) | exact List.Mem.tail _ (List.Mem.tail _ ((by assumption))) | exact List.Mem.tail _ (List.Mem.tail _ (List.Mem.tail _ ((by assumption)))) | exact List.Mem.tail _ (List.Mem.tail _ (List.Mem.tail _ (List.Mem.tail _ ((by assumption))))) | exact List.Mem.tail _ (List.Mem.tail _ (List.Mem.tail _ (List.Mem.tail _ (List.Mem.tail _ ((by assumption))))))) | exact needs0 | exact needs2 (by first | exact List.Mem.head _ | exact List.Mem.tail _ (List.Mem.head _) | exact List.Mem.tail _ (List.Mem.tail _ (List.Mem.head _)) | exact List.Mem.tail _ (List.Mem.tail _ (List.Mem.tail _ (List.Mem.head _))) | exact List.Mem.tail _ (List.Mem.tail _ (List.Mem.tail _ (List.Mem.tail _ (List.Mem.head _)))) | exact List.Mem.tail _ (List.Mem.tail _ (List.Mem.tail _ (List.Mem.tail _ (List.Mem.tail _ (List.Mem.head _))))) | exact List.Mem.tail _ (List.Mem.tail _ (List.Mem.tail _ (List.Mem.tail _ (List.Mem.tail _ (List.Mem.tail _ (List.Mem.head _)))))) | exact List.Mem.tail _ (List.Mem.tail _ (List.Mem.tail _ (List.Mem.tail _ (List.Mem.tail _ (List.Mem.tail _ (List.Mem.tail _ (List.Mem.head _))))))) | exact List.Mem.tail _ (List.Mem.tail _ (List.Mem.tail _ (List.Mem.tail _ (List.Mem.tail _ (List.Mem.tail _ (List.Mem.tail _ (List.Mem.tail _ (List.Mem.head _)))))))) | exact (by assumption) | exact List.Mem.tail _ ((by assumption)) | exact List.Mem.tail _ (List.Mem.tail _ ((by assumption))) | exact List.Mem.tail _ (List.Mem.tail _ (List.Mem.tail _ ((by assumption)))) | exact List.Mem.tail _ (List.Mem.tail _ (List.Mem.tail _ (List.Mem.tail _ ((by assumption))))) | exact List.Mem.tail _ (List.Mem.tail _ (List.Mem.tail _ (List.Mem.tail _ (List.Mem.tail _ ((by assumption))))))) (by first | exact List.Mem.head _ | exact List.Mem.tail _ (List.Mem.head _) | exact List.Mem.tail _ (List.Mem.tail _ (List.Mem.head _)) | exact List.Mem.tail _ (List.Mem.tail _ (List.Mem.tail _ (List.Mem.head _))) | exact List.Mem.tail _ (List.Mem.tail _ (List.Mem.tail _ (List.Mem.tail _ (List.Mem.head _)))) | exact List.Mem.tail _ (List.Mem.tail _ (List.Mem.tail _ (List.Mem.tail _ (List.Mem.tail _ (List.Mem.head _))))) | exact List.Mem.tail _ (List.Mem.tail _ (List.Mem.tail _ (List.Mem.tail _ (List.Mem.tail _ (List.Mem.tail _ (List.Mem.head _)))))) | exact List.Mem.tail _ (List.Mem.tail _ (List.Mem.tail _ (List.Mem.tail _ (List.Mem.tail _ (List.Mem.tail _ (List.Mem.tail _ (List.Mem.head _))))))) | exact List.Mem.tail _ (List.Mem.tail _ (List.Mem.tail _ (List.Mem.tail _ (List.Mem.tail _ (List.Mem.tail _ (List.Mem.tail _ (List.Mem.tail _ (List.Mem.head _)))))))) | exact (by assumption) | exact List.Mem.tail _ ((by assumption)) | exact List.Mem.tail _ (List.Mem.tail _ ((by assumption))) | exact List.Mem.tail _ (List.Mem.tail _ (List.Mem.tail _ ((by assumption)))) | exact List.Mem.tail _ (List.Mem.tail _ (List.Mem.tail _ (List.Mem.tail _ ((by assumption))))) | exact List.Mem.tail _ (List.Mem.tail _ (List.Mem.tail _ (List.Mem.tail _ (List.Mem.tail _ ((by assumption))))))) | exact needs3 (by first | exact List.Mem.head _ | exact List.Mem.tail _ (List.Mem.head _) | exact List.Mem.tail _ (List.Mem.tail _ (List.Mem.head _)) | exact List.Mem.tail _ (List.Mem.tail _ (List.Mem.tail _ (List.Mem.head _))) | exact List.Mem.tail _ (List.Mem.tail _ (List.Mem.tail _ (List.Mem.tail _ (List.Mem.head _)))) | exact List.Mem.tail _ (List.Mem.tail _ (List.Mem.tail _ (List.Mem.tail _ (List.Mem.tail _ (List.Mem.head _))))) | exact List.Mem.tail _ (List.Mem.tail _ (List.Mem.tail _ (List.Mem.tail _ (List.Mem.tail _ (List.Mem.tail _ (List.Mem.head _)))))) | exact List.Mem.tail _ (List.Mem.tail _ (List.Mem.tail _ (List.Mem.tail _ (List.Mem.tail _ (List.Mem.tail _ (List.Mem.tail _ (List.Mem.head _))))))) | exact List.Mem.tail _ (List.Mem.tail _ (List.Mem.tail _ (List.Mem.tail _ (List.Mem.tail _ (List.Mem.tail _ (List.Mem.tail _ (List.Mem.tail _ (List.Mem.head _)))))))) | exact (by assumption) | exact List.Mem.tail _ ((by assumption)) | exact List.Mem.tail _ (List.Mem.tail _ ((by assumption))) | exact List.Mem.tail _ (List.Mem.tail _ (List.Mem.tail _ ((by assumption)))) | exact List.Mem.tail _ (List.Mem.tail _ (List.Mem.tail _ (List.Mem.tail _ ((by assumption))))) | exact List.Mem.tail _ (List.Mem.tail _ (List.Mem.tail _ (List.Mem.tail _ (List.Mem.tail _ ((by assumption))))))) (by first | exact List.Mem.head _ | exact List.Mem.tail _ (List.Mem.head _) | exact List.Mem.tail _ (List.Mem.tail _ (List.Mem.head _)) | exact List.Mem.tail _ (List.Mem.tail _ (List.Mem.tail _ (List.Mem.head _))) | exact List.Mem.tail _ (List.Mem.tail _ (List.Mem.tail _ (List.Mem.tail _ (List.Mem.head _)))) | exact List.Mem.tail _ (List.Mem.tail _ (List.Mem.tail _ (List.Mem.tail _ (List.Mem.tail _ (List.Mem.head _))))) | exact List.Mem.tail _ (List.Mem.tail _ (List.Mem.tail _ (List.Mem.tail _ (List.Mem.tail _ (List.Mem.tail _ (List.Mem.head _)))))) | exact List.Mem.tail _ (List.Mem.tail _ (List.Mem.tail _ (List.Mem.tail _ (List.Mem.tail _ (List.Mem.tail _ (List.Mem.tail _ (List.Mem.head _))))))) | exact List.Mem.tail _ (List.Mem.tail _ (List.Mem.tail _ (List.Mem.tail _ (List.Mem.tail _ (List.Mem.tail _ (List.Mem.tail _ (List.Mem.tail _ (List.Mem.head _)))))))) | exact (by assumption) | exact List.Mem.tail _ ((by assumption)) | exact List.Mem.tail _ (List.Mem.tail _ ((by assumption))) | exact List.Mem.tail _ (List.Mem.tail _ (List.Mem.tail _ ((by assumption)))) | exact List.Mem.tail _ (List.Mem.tail _ (List.Mem.tail _ (List.Mem.tail _ ((by assumption))))) | exact List.Mem.tail _ (List.Mem.tail _ (List.Mem.tail _ (List.Mem.tail _ (List.Mem.tail _ ((by assumption))))))) (by first | exact List.Mem.head _ | exact List.Mem.tail _ (List.Mem.head _) | exact List.Mem.tail _ (List.Mem.tail _ (List.Mem.head _)) | exact List.Mem.tail _ (List.Mem.tail _ (List.Mem.tail _ (List.Mem.head _))) | exact List.Mem.tail _ (List.Mem.tail _ (List.Mem.tail _ (List.Mem.tail _ (List.Mem.head _)))) | exact List.Mem.tail _ (List.Mem.tail _ (List.Mem.tail _ (List.Mem.tail _ (List.Mem.tail _ (List.Mem.head _))))) | exact List.Mem.tail _ (List.Mem.tail _ (List.Mem.tail _ (List.Mem.tail _ (List.Mem.tail _ (List.Mem.tail _ (List.Mem.head _)))))) | exact List.Mem.tail _ (List.Mem.tail _ (List.Mem.tail _ (List.Mem.tail _ (List.Mem.tail _ (List.Mem.tail _ (List.Mem.tail _ (List.Mem.head _))))))) | exact List.Mem.tail _ (List.Mem.tail _ (List.Mem.tail _ (List.Mem.tail _ (List.Mem.tail _ (List.Mem.tail _ (List.Mem.tail _ (List.Mem.tail _ (List.Mem.head _)))))))) | exact (by assumption) | exact List.Mem.tail _ ((by assumption)) | exact List.Mem.tail _ (List.Mem.tail _ ((by assumption))) | exact List.Mem.tail _ (List.Mem.tail _ (List.Mem.tail _ ((by assumption)))) | exact List.Mem.tail _ (List.Mem.tail _ (List.Mem.tail _ (List.Mem.tail _ ((by assumption))))) | exact List.Mem.tail _ (List.Mem.tail _ (List.Mem.tail _ (List.Mem.tail _ (List.Mem.tail _ ((by assumption)))))))) ?_)
            clear hS; rintro v122 _ w ⟨rfl, rfl⟩ hS; (try simp only [List.cons_append, List.nil_append] at hS)
            refine wl_op rfl rfl (ow_vr (vr_pick (b := true) (v := .bool _) rfl rfl) ?_)
            refine wl_op rfl rfl (ow_vr (vr_move (v := .bool _) rfl) ?_)
            refine wl_known 124 rfl (c := true) (by simp) ?_
            refine wl_yes rfl rfl rfl rfl rfl (ow_vr (vr_move (v := .bool al) rfl) ?_)
            refine wl_yes rfl rfl rfl rfl rfl (ow_vr (vr_not rfl) ?_)
            refine wl_yes rfl rfl rfl rfl rfl (ow_vr (vr_move (v := .bool _) rfl) ?_)
            refine wl_split 127 rfl (fun hc => ?_) (fun hc => ?_)
            · (try simp only [decide_eq_true_eq, decide_eq_false_iff_not, Bool.not_eq_true, Bool.not_eq_false, Bool.not_eq_true', Bool.not_eq_false', Bool.and_eq_true, Bool.or_eq_true, Bool.and_eq_false_iff, Bool.or_eq_false_iff, Int.not_lt, Int.not_le, gt_iff_lt, ge_iff_le, ne_eq, Decidable.not_not, beq_iff_eq] at hc)
              have hna := hc; clear hc
              refine wl_noD rfl rfl rfl rfl rfl rfl ?_
              refine wl_noD rfl rfl rfl rfl rfl rfl ?_
              refine wl_unD rfl rfl rfl rfl rfl ?_
              refine wl_unD rfl rfl rfl rfl rfl ?_
              refine wl_unD rfl rfl rfl rfl rfl ?_
              refine wl_noD rfl rfl rfl rfl rfl rfl ?_
              refine wl_yes rfl rfl rfl rfl rfl (ow_vr (vr_pick (b := true) (v := .bool _) rfl rfl) ?_)
              refine wl_op rfl rfl (ow_vr (vr_pick (b := true) (v := .bool _) rfl rfl) ?_)
              refine wl_op rfl rfl (ow_vr (vr_assign (v := .bool _) rfl) ?_)
              refine wl_nil ?_
              refine hK26 _ _ ?_
              refine cw_ret ?_
              refine ret_one (fn := Try.f8) (n := 136) (t := 12) (.inl rfl) rfl rfl ?_
              exact ⟨[], ⟨congrArg Value.bool (by simp_all), rfl⟩, hS.tail1.tail1.tail1.tail1.tail1.tail1.tail1⟩
            · (try simp only [decide_eq_true_eq, decide_eq_false_iff_not, Bool.not_eq_true, Bool.not_eq_false, Bool.not_eq_true', Bool.not_eq_false', Bool.and_eq_true, Bool.or_eq_true, Bool.and_eq_false_iff, Bool.or_eq_false_iff, Int.not_lt, Int.not_le, gt_iff_lt, ge_iff_le, ne_eq, Decidable.not_not, beq_iff_eq] at hc)
              have hna := hc; clear hc
              refine wl_yes rfl rfl rfl rfl rfl (ow_vr (vr_move (v := .bool _) rfl) ?_)
              refine wl_yes rfl rfl rfl rfl rfl (ow_vr (vr_move (v := .bool _) rfl) ?_)
              refine wl_split 129 rfl (fun hc => ?_) (fun hc => ?_)
              · (try simp only [decide_eq_true_eq, decide_eq_false_iff_not, Bool.not_eq_true, Bool.not_eq_false, Bool.not_eq_true', Bool.not_eq_false', Bool.and_eq_true, Bool.or_eq_true, Bool.and_eq_false_iff, Bool.or_eq_false_iff, Int.not_lt, Int.not_le, gt_iff_lt, ge_iff_le, ne_eq, Decidable.not_not, beq_iff_eq] at hc)
                have hon := hc; clear hc
                refine wl_yes rfl rfl rfl rfl rfl (ow_vr (vr_move (v := .int .i64 _) rfl) ?_)
                refine wl_yes rfl rfl rfl rfl rfl (ow_vr (vr_move (v := .int .i64 no) rfl) ?_)
                refine wl_yes rfl rfl rfl rfl rfl (ow_vr (vr_eql rfl rfl) ?_)
                refine wl_yes rfl rfl rfl rfl rfl (ow_vr (vr_pick (b := true) (v := .bool _) rfl rfl) ?_)
                refine wl_yes rfl rfl rfl rfl rfl (ow_vr (vr_pick (b := false) (v := .bool _) rfl rfl) ?_)
                refine wl_op rfl rfl (ow_vr (vr_pick (b := true) (v := .bool _) rfl rfl) ?_)
                refine wl_op rfl rfl (ow_vr (vr_assign (v := .bool _) rfl) ?_)
                refine wl_nil ?_
                refine hK26 _ _ ?_
                refine cw_ret ?_
                refine ret_one (fn := Try.f8) (n := 136) (t := 12) (.inl rfl) rfl rfl ?_
                exact ⟨[], ⟨congrArg Value.bool (by simp_all), rfl⟩, hS.tail1.tail1.tail1.tail1.tail1.tail1.tail1⟩
              · (try simp only [decide_eq_true_eq, decide_eq_false_iff_not, Bool.not_eq_true, Bool.not_eq_false, Bool.not_eq_true', Bool.not_eq_false', Bool.and_eq_true, Bool.or_eq_true, Bool.and_eq_false_iff, Bool.or_eq_false_iff, Int.not_lt, Int.not_le, gt_iff_lt, ge_iff_le, ne_eq, Decidable.not_not, beq_iff_eq] at hc)
                have hon := hc; clear hc
                refine wl_noD rfl rfl rfl rfl rfl rfl ?_
                refine wl_noD rfl rfl rfl rfl rfl rfl ?_
                refine wl_noD rfl rfl rfl rfl rfl rfl ?_
                refine wl_yes rfl rfl rfl rfl rfl (ow_vr (vr_pick (b := false) (v := .bool _) rfl rfl) ?_)
                refine wl_yes rfl rfl rfl rfl rfl (ow_vr (vr_pick (b := false) (v := .bool _) rfl rfl) ?_)
                refine wl_op rfl rfl (ow_vr (vr_pick (b := true) (v := .bool _) rfl rfl) ?_)
                refine wl_op rfl rfl (ow_vr (vr_assign (v := .bool _) rfl) ?_)
                refine wl_nil ?_
                refine hK26 _ _ ?_
                refine cw_ret ?_
                refine ret_one (fn := Try.f8) (n := 136) (t := 12) (.inl rfl) rfl rfl ?_
                exact ⟨[], ⟨congrArg Value.bool (by simp_all), rfl⟩, hS.tail1.tail1.tail1.tail1.tail1.tail1.tail1⟩
end Go.Proofs.Ytjhbmogpicddeaa
