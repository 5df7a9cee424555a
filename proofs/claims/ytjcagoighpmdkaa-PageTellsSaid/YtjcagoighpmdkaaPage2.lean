/- Pages read: page.At, and the document's own. -/
import Derived.Test.YtjcagoighpmdkaaPage
namespace Go.Proofs.Ytjcagoighpmdkaa
open Go Go.RowKit
set_option linter.unusedVariables false
set_option linter.unusedSimpArgs false
attribute [local irreducible] actF WL CW OW PL SW VR LR yes Returns Fn
/-! plain -/
theorem chunk_length {s : List UInt8} (h : s.length = 96) {k : Nat} (hk : k < 3) : (chunkB s k).length = 32 := by
  rw [chunkB, List.length_drop, List.length_take]; omega
theorem pages_flat {s : List UInt8} (h : s.length = 96) : (pagesB s).flatten = s := by
  have e : (pagesB s).flatten = chunkB s 0 ++ (chunkB s 1 ++ (chunkB s 2 ++ [])) := rfl
  rw [e, List.append_nil, chunk0, chunk2 h, chunkB]
  have h1 : (s.take 64).drop 32 ++ s.drop 64 = s.drop 32 := by
    have := List.take_append_drop 32 (s.drop 32)
    rw [List.drop_drop, List.take_drop] at this
    exact this
  show s.take 32 ++ ((s.take 64).drop 32 ++ s.drop 64) = s
  rw [h1, List.take_append_drop]
theorem pages_cat {s : List UInt8} (h : s.length = 96) : chunkB s 0 ++ chunkB s 1 ++ chunkB s 2 = s := by
  have := pages_flat h
  have e : (pagesB s).flatten = chunkB s 0 ++ (chunkB s 1 ++ (chunkB s 2 ++ [])) := rfl
  rw [e, List.append_nil, ← List.append_assoc] at this
  exact this
theorem pages_of {x0 x1 x2 : List UInt8} (h0 : x0.length = 32) (h1 : x1.length = 32) (h2 : x2.length = 32) : pagesB (x0 ++ x1 ++ x2) = [x0, x1, x2] := by
  have e : pagesB (x0 ++ x1 ++ x2) = [chunkB (x0 ++ x1 ++ x2) 0, chunkB (x0 ++ x1 ++ x2) 1, chunkB (x0 ++ x1 ++ x2) 2] := rfl
  have c0 : chunkB (x0 ++ x1 ++ x2) 0 = x0 := by rw [chunk0, List.append_assoc, List.take_left' h0]
  have c1 : chunkB (x0 ++ x1 ++ x2) 1 = x1 := by
    show ((x0 ++ x1 ++ x2).take 64).drop 32 = x1
    rw [List.take_left' (by rw [List.length_append]; omega), List.drop_left' h0]
  have c2 : chunkB (x0 ++ x1 ++ x2) 2 = x2 := by
    rw [chunk2 (by simp only [List.length_append]; omega), List.drop_left' (by rw [List.length_append]; omega)]
  rw [e, c0, c1, c2]
theorem cut_body96 {b : List UInt8} (hb : b.length = 96) {a h : Nat} (hh : h ≤ 92) : cutB (bodyB b) a h = cutB b a h := by
  rw [cutB, cutB, bodyB, List.take_take, hb, Nat.min_eq_left (by omega)]
theorem getP_spec {l : List (List UInt8)} (h : getOkP l = true) : l.length = 3 ∧ l.flatten.length = 96 ∧ okPg (noR l.flatten) (vR l.flatten) (cellsR l.flatten) = true ∧ pagesB (allP (noR l.flatten) (vR l.flatten) (cellsR l.flatten)) = l ∧ allP (noR l.flatten) (vR l.flatten) (cellsR l.flatten) = l.flatten ∧ openOk l.flatten = true ∧ ∀ x ∈ l, x.length = 32 := by
  simp only [getOkP, Bool.and_eq_true, decide_eq_true_eq] at h
  obtain ⟨⟨h1, h2⟩, h3, h4⟩ := h
  have ha := all_length h3
  have hf := pages_flat ha
  refine ⟨h1, h2, h3, h4, by rw [← hf, h4], ?_, ?_⟩
  · have e : l.flatten = allP (noR l.flatten) (vR l.flatten) (cellsR l.flatten) := by rw [← hf, h4]
    rw [e, all_eq h3, open_sealed]
  · intro x hx
    rw [← h4] at hx
    simp only [pagesB, List.mem_map, List.mem_range] at hx
    obtain ⟨k, hk, rfl⟩ := hx
    exact chunk_length ha hk
theorem getP_no {l : List (List UInt8)} (h : ¬ (l.length = 3 ∧ (∀ x ∈ l, x.length = 32) ∧ openOk l.flatten = true)) : getOkP l = false := by
  cases hg : getOkP l with
  | false => rfl
  | true =>
    obtain ⟨h1, _, _, _, _, h6, h7⟩ := getP_spec hg
    exact absurd ⟨h1, h7, h6⟩ h
def atOk (no v : Int) (l : List (List UInt8)) : Bool := getOkP l && (decide (noR l.flatten = no) && decide (vR l.flatten = v))
theorem page_At (no v : Int) (l : List (List UInt8)) (vl : Value) (Δl : Chunk) (hv : View 1 encS vl l Δl) (hll : l.length ≤ 1000000) (hlf : l.flatten.length ≤ 1000000) :
    FnG Try.prog 36 [.int .i64 no, .int .i64 v, vl] [Δl] (fun u Δs => ∃ v' D, u = .tuple #[v', .bool (atOk no v l)] ∧ Δs = [D] ∧ Own 3 1 encI v' (if atOk no v l then cellsR l.flatten else []) D) := by
  refine FnG.mk fun E F w hS hF => ?_
  have hFl : Δl ∈ F := hF _ (by simp)
  refine returns_enter Try.func36 rfl Try.ntmps36 rfl ?_
  refine cw_seq fun K1 hK1 => ?_
  refine cw_region ?_
  refine wl_op rfl rfl (ow_vr (vr_assign (v := .slice none 0 0) rfl) ?_)
  refine wl_op rfl rfl (ow_vr (vr_assign (v := .bool false) rfl) ?_)
  refine wl_nil ?_
  refine hK1 _ _ ?_
  refine cw_seq fun K2 hK2 => ?_
  refine cw_region ?_
  refine wl_op rfl rfl (ow_vr (vr_move (v := vl) rfl) ?_)
  refine wl_op rfl rfl (ow_fng (vs := [vl]) en_33 rfl hS (page_Get l _ _ hv hll hlf) (by repeat (first | exact needs0 | (refine needsC ?_ ?_; · (repeat (first | exact List.mem_cons_self | assumption | refine List.mem_cons_of_mem _ ?_))))) ?_)
  clear hS; rintro v14 _ w ⟨vG, DG, rfl, rfl, hoG⟩ hS; (try simp only [List.cons_append, List.nil_append] at hS)
  refine wl_op rfl rfl (ow_vr (vr_move (v := .tuple _) rfl) ?_)
  refine wl_op rfl rfl (ow_vr (vr_extract (v := .int .i64 _) rfl rfl) ?_)
  refine wl_op rfl rfl (ow_vr (vr_extract (v := .int .i64 _) rfl rfl) ?_)
  refine wl_op rfl rfl (ow_vr (vr_extract (v := vG) rfl rfl) ?_)
  refine wl_op rfl rfl (ow_vr (vr_extract (v := .bool _) rfl rfl) ?_)
  refine wl_op rfl rfl (ow_vr (vr_assign (v := .int .i64 _) rfl) ?_)
  refine wl_op rfl rfl (ow_vr (vr_assign (v := .int .i64 _) rfl) ?_)
  refine wl_op rfl rfl (ow_vr (vr_assign (v := vG) rfl) ?_)
  refine wl_op rfl rfl (ow_vr (vr_assign (v := .bool _) rfl) ?_)
  refine wl_nil ?_
  refine hK2 _ _ ?_
  refine cw_seq fun K3 hK3 => ?_
  refine cw_seq fun K4 hK4 => ?_
  refine cw_region ?_
  refine wl_op rfl rfl (ow_vr (vr_move (v := .bool _) rfl) ?_)
  refine wl_op rfl rfl (ow_vr (vr_not rfl) ?_)
  refine wl_op rfl rfl (ow_vr (vr_move (v := .bool _) rfl) ?_)
  refine wl_split 21 rfl (fun hc => ?_) (fun hc => ?_)
  · (try simp only [decide_eq_true_eq, decide_eq_false_iff_not, Bool.not_eq_true, Bool.not_eq_false, Bool.not_eq_true', Bool.not_eq_false', Bool.and_eq_true, Bool.or_eq_true, Bool.and_eq_false_iff, Bool.or_eq_false_iff, Int.not_lt, Int.not_le, gt_iff_lt, ge_iff_le, ne_eq, Decidable.not_not, beq_iff_eq] at hc)
    have hg := hc; clear hc
    refine wl_noD rfl rfl rfl rfl rfl rfl ?_
    refine wl_noD rfl rfl rfl rfl rfl rfl ?_
    refine wl_noD rfl rfl rfl rfl rfl rfl ?_
    refine wl_op rfl rfl (ow_vr (vr_pick (b := true) (v := .bool _) rfl rfl) ?_)
    refine wl_op rfl rfl (ow_vr (vr_move (v := .bool _) rfl) ?_)
    refine wl_noD rfl rfl rfl rfl rfl rfl ?_
    refine wl_noD rfl rfl rfl rfl rfl rfl ?_
    refine wl_noD rfl rfl rfl rfl rfl rfl ?_
    refine wl_op rfl rfl (ow_vr (vr_pick (b := true) (v := .bool _) rfl rfl) ?_)
    refine wl_nil ?_
    refine hK4 _ _ ?_
    refine cw_cond_t rfl rfl (rfl) ?_
    refine cw_seq fun K5 hK5 => ?_
    have hno : atOk no v l = false := by cases hgo : getOkP l <;> simp_all [atOk]
    replace hS := Sat.nilc.2 hS.tail1
    refine cw_region ?_
    refine wl_op rfl rfl (ow_vr (vr_assign (v := .slice none 0 0) rfl) ?_)
    refine wl_op rfl rfl (ow_vr (vr_assign (v := .bool false) rfl) ?_)
    refine wl_nil ?_
    refine hK5 _ _ ?_
    refine cw_ret ?_
    refine thenF_ret (?_)
    refine ret_two (fn := Try.f36) (n := 32) (t := 6) (u := 7) (.inl rfl) rfl rfl rfl ?_
    exact ⟨[[]], ⟨.slice none 0 0, [], (by rw [hno] <;> rfl), rfl, (by rw [hno]; exact Own.nil)⟩, hS⟩
  · (try simp only [decide_eq_true_eq, decide_eq_false_iff_not, Bool.not_eq_true, Bool.not_eq_false, Bool.not_eq_true', Bool.not_eq_false', Bool.and_eq_true, Bool.or_eq_true, Bool.and_eq_false_iff, Bool.or_eq_false_iff, Int.not_lt, Int.not_le, gt_iff_lt, ge_iff_le, ne_eq, Decidable.not_not, beq_iff_eq] at hc)
    have hg := hc; clear hc
    refine wl_yes rfl rfl rfl rfl rfl (ow_vr (vr_move (v := .int .i64 _) rfl) ?_)
    refine wl_yes rfl rfl rfl rfl rfl (ow_vr (vr_move (v := .int .i64 _) rfl) ?_)
    refine wl_yes rfl rfl rfl rfl rfl (ow_vr (vr_neq rfl rfl) ?_)
    refine wl_op rfl rfl (ow_vr (vr_pick (b := false) (v := .bool _) rfl rfl) ?_)
    refine wl_op rfl rfl (ow_vr (vr_move (v := .bool _) rfl) ?_)
    refine wl_split 26 rfl (fun hc => ?_) (fun hc => ?_)
    · (try simp only [decide_eq_true_eq, decide_eq_false_iff_not, Bool.not_eq_true, Bool.not_eq_false, Bool.not_eq_true', Bool.not_eq_false', Bool.and_eq_true, Bool.or_eq_true, Bool.and_eq_false_iff, Bool.or_eq_false_iff, Int.not_lt, Int.not_le, gt_iff_lt, ge_iff_le, ne_eq, Decidable.not_not, beq_iff_eq] at hc)
      have hg26 := hc; clear hc
      refine wl_noD rfl rfl rfl rfl rfl rfl ?_
      refine wl_noD rfl rfl rfl rfl rfl rfl ?_
      refine wl_noD rfl rfl rfl rfl rfl rfl ?_
      refine wl_op rfl rfl (ow_vr (vr_pick (b := true) (v := .bool _) rfl rfl) ?_)
      refine wl_nil ?_
      refine hK4 _ _ ?_
      refine cw_cond_t rfl rfl (rfl) ?_
      refine cw_seq fun K6 hK6 => ?_
      have hno : atOk no v l = false := by cases hgo : getOkP l <;> simp_all [atOk]
      replace hS := Sat.nilc.2 hS.tail1
      refine cw_region ?_
      refine wl_op rfl rfl (ow_vr (vr_assign (v := .slice none 0 0) rfl) ?_)
      refine wl_op rfl rfl (ow_vr (vr_assign (v := .bool false) rfl) ?_)
      refine wl_nil ?_
      refine hK6 _ _ ?_
      refine cw_ret ?_
      refine thenF_ret (?_)
      refine ret_two (fn := Try.f36) (n := 32) (t := 6) (u := 7) (.inl rfl) rfl rfl rfl ?_
      exact ⟨[[]], ⟨.slice none 0 0, [], (by rw [hno] <;> rfl), rfl, (by rw [hno]; exact Own.nil)⟩, hS⟩
    · (try simp only [decide_eq_true_eq, decide_eq_false_iff_not, Bool.not_eq_true, Bool.not_eq_false, Bool.not_eq_true', Bool.not_eq_false', Bool.and_eq_true, Bool.or_eq_true, Bool.and_eq_false_iff, Bool.or_eq_false_iff, Int.not_lt, Int.not_le, gt_iff_lt, ge_iff_le, ne_eq, Decidable.not_not, beq_iff_eq] at hc)
      have hg26 := hc; clear hc
      refine wl_yes rfl rfl rfl rfl rfl (ow_vr (vr_move (v := .int .i64 _) rfl) ?_)
      refine wl_yes rfl rfl rfl rfl rfl (ow_vr (vr_move (v := .int .i64 _) rfl) ?_)
      refine wl_yes rfl rfl rfl rfl rfl (ow_vr (vr_neq rfl rfl) ?_)
      refine wl_op rfl rfl (ow_vr (vr_pick (b := false) (v := .bool _) rfl rfl) ?_)
      refine wl_nil ?_
      refine hK4 _ _ ?_
      refine cw_cond rfl rfl (fun hc => ?_) (fun hc => ?_)
      · (try simp only [decide_eq_true_eq, decide_eq_false_iff_not, Bool.not_eq_true, Bool.not_eq_false, Bool.not_eq_true', Bool.not_eq_false', Bool.and_eq_true, Bool.or_eq_true, Bool.and_eq_false_iff, Bool.or_eq_false_iff, Int.not_lt, Int.not_le, gt_iff_lt, ge_iff_le, ne_eq, Decidable.not_not, beq_iff_eq] at hc)
        have hc0 := hc; clear hc
        refine cw_seq fun K7 hK7 => ?_
        have hno : atOk no v l = false := by cases hgo : getOkP l <;> simp_all [atOk]
        replace hS := Sat.nilc.2 hS.tail1
        refine cw_region ?_
        refine wl_op rfl rfl (ow_vr (vr_assign (v := .slice none 0 0) rfl) ?_)
        refine wl_op rfl rfl (ow_vr (vr_assign (v := .bool false) rfl) ?_)
        refine wl_nil ?_
        refine hK7 _ _ ?_
        refine cw_ret ?_
        refine thenF_ret (?_)
        refine ret_two (fn := Try.f36) (n := 32) (t := 6) (u := 7) (.inl rfl) rfl rfl rfl ?_
        exact ⟨[[]], ⟨.slice none 0 0, [], (by rw [hno] <;> rfl), rfl, (by rw [hno]; exact Own.nil)⟩, hS⟩
      · (try simp only [decide_eq_true_eq, decide_eq_false_iff_not, Bool.not_eq_true, Bool.not_eq_false, Bool.not_eq_true', Bool.not_eq_false', Bool.and_eq_true, Bool.or_eq_true, Bool.and_eq_false_iff, Bool.or_eq_false_iff, Int.not_lt, Int.not_le, gt_iff_lt, ge_iff_le, ne_eq, Decidable.not_not, beq_iff_eq] at hc)
        have hc0 := hc; clear hc
        refine cw_skip ?_
        refine hK3 _ _ ?_
        refine cw_seq fun K8 hK8 => ?_
        have hgo : getOkP l = true := by simp_all
        have hok : atOk no v l = true := by simp_all [atOk]
        rw [hgo, if_pos rfl] at hoG
        refine cw_region ?_
        refine wl_op rfl rfl (ow_vr (vr_move (v := vG) rfl) ?_)
        refine wl_op rfl rfl (ow_vr (vr_assign (v := vG) rfl) ?_)
        refine wl_op rfl rfl (ow_vr (vr_assign (v := .bool true) rfl) ?_)
        refine wl_nil ?_
        refine hK8 _ _ ?_
        refine cw_ret ?_
        refine ret_two (fn := Try.f36) (n := 32) (t := 6) (u := 7) (.inl rfl) rfl rfl rfl ?_
        exact ⟨[DG], ⟨vG, DG, (by rw [hok] <;> rfl), rfl, (by rw [hok]; exact hoG)⟩, hS⟩
theorem ref_Paged (l : List (List UInt8)) (vl : Value) (Δl : Chunk) (hv : View 1 encS vl l Δl) (hll : l.length ≤ 1000000) :
    FnG Try.prog 34 [vl] [Δl] (fun u Δs => ∃ v' D, u = .tuple #[.int .i64 (if getOkP l then noR l.flatten else 0), .int .i64 (if getOkP l then vR l.flatten else 0), v', .bool (getOkP l)] ∧ Δs = [D] ∧ Own 3 1 encI v' (if getOkP l then cellsR l.flatten else []) D) := by
  by_cases hl3 : l.length = 3
  · obtain ⟨x0, x1, x2, rfl⟩ : ∃ x0 x1 x2, l = [x0, x1, x2] := by
      match l, hl3 with
      | [a, b, c], _ => exact ⟨a, b, c, rfl⟩
    refine FnG.mk fun E F w hS hF => ?_
    have hFl : Δl ∈ F := hF _ (by simp)
    obtain ⟨s, hs⟩ : ∃ s, x0 ++ x1 ++ x2 = s := ⟨_, rfl⟩
    have hfl : [x0, x1, x2].flatten = s := by rw [← hs]; simp
    have hno2 : ¬ (x0.length = 32 ∧ x1.length = 32 ∧ x2.length = 32) → getOkP [x0, x1, x2] = false := fun h => getP_no fun h2 => h ⟨h2.2.1 _ (by simp), h2.2.1 _ (by simp), h2.2.1 _ (by simp)⟩
    refine returns_enter Try.func34 rfl Try.ntmps34 rfl ?_
    refine cw_seq fun K1 hK1 => ?_
    refine cw_region ?_
    refine wl_op rfl rfl (ow_vr (vr_assign (v := .int .i64 0) rfl) ?_)
    refine wl_op rfl rfl (ow_vr (vr_assign (v := .int .i64 0) rfl) ?_)
    refine wl_op rfl rfl (ow_vr (vr_assign (v := .slice none 0 0) rfl) ?_)
    refine wl_op rfl rfl (ow_vr (vr_assign (v := .bool false) rfl) ?_)
    refine wl_nil ?_
    refine hK1 _ _ ?_
    refine cw_seq fun K2 hK2 => ?_
    refine cw_seq fun K3 hK3 => ?_
    refine cw_region ?_
    refine wl_op rfl rfl (ow_vr (vr_move (v := vl) rfl) ?_)
    first | (refine wl_op rfl rfl (ow_vr (vr_len_sl Try.underlying57 rfl) ?_)) | (refine wl_op rfl rfl (ow_vr (vr_len_v (v := vl) Try.underlying57 rfl (by first | assumption | (refine Own.view ?_ (by assumption); exact fun _ => rfl) | exact OwnB.view (by assumption))) ?_))
    refine wl_op rfl rfl (ow_vr (vr_neq rfl rfl) ?_)
    refine wl_op rfl rfl (ow_vr (vr_move (v := .bool _) rfl) ?_)
    refine wl_known 18 rfl (c := false) (by rfl) ?_
    refine wl_yes rfl rfl rfl rfl rfl (ow_vr (vr_move (v := vl) rfl) ?_)
    first | (refine wl_yes rfl rfl rfl rfl rfl (ow_vr (vr_indexAddr Try.underlying57 sz_9 rfl rfl (by omega) (by omega)) ?_)) | (refine wl_yes rfl rfl rfl rfl rfl (ow_vr (vr_indexV (v := vl) Try.underlying57 sz_9 rfl (by first | assumption | (refine Own.view ?_ (by assumption); exact fun _ => rfl) | exact OwnB.view (by assumption)) rfl (by omega) (by first | omega | (simp <;> omega))) ?_))
    refine wl_yes rfl rfl rfl rfl rfl (ow_lr (S := Sat _ _) (lr_loadV1 (u := str _) Try.underlying9 rfl rfl (by first | assumption | (refine Own.view ?_ (by assumption); exact fun _ => rfl) | exact OwnB.view (by assumption)) (by repeat (first | exact List.mem_cons_self | assumption | refine List.mem_cons_of_mem _ ?_)) ((rfl : [x0, x1, x2][0]? = some x0)) (by exact fun _ => rfl) (by rfl)) hS ?_)
    refine wl_yes rfl rfl rfl rfl rfl (ow_vr (vr_len_s Try.underlying9 rfl) ?_)
    refine wl_yes rfl rfl rfl rfl rfl (ow_vr (vr_neq rfl rfl) ?_)
    refine wl_op rfl rfl (ow_vr (vr_pick (b := false) (v := .bool _) rfl rfl) ?_)
    refine wl_op rfl rfl (ow_vr (vr_move (v := .bool _) rfl) ?_)
    refine wl_split 25 rfl (fun hc => ?_) (fun hc => ?_)
    · (try simp only [decide_eq_true_eq, decide_eq_false_iff_not, Bool.not_eq_true, Bool.not_eq_false, Bool.not_eq_true', Bool.not_eq_false', Bool.and_eq_true, Bool.or_eq_true, Bool.and_eq_false_iff, Bool.or_eq_false_iff, Int.not_lt, Int.not_le, gt_iff_lt, ge_iff_le, ne_eq, Decidable.not_not, beq_iff_eq] at hc)
      have hg25 := hc; clear hc
      refine wl_noD rfl rfl rfl rfl rfl rfl ?_
      refine wl_noD rfl rfl rfl rfl rfl rfl ?_
      refine wl_noD rfl rfl rfl rfl rfl rfl ?_
      refine wl_noD rfl rfl rfl rfl rfl rfl ?_
      refine wl_noD rfl rfl rfl rfl rfl rfl ?_
      refine wl_op rfl rfl (ow_vr (vr_pick (b := true) (v := .bool _) rfl rfl) ?_)
      refine wl_op rfl rfl (ow_vr (vr_move (v := .bool _) rfl) ?_)
      refine wl_noD rfl rfl rfl rfl rfl rfl ?_
      refine wl_noD rfl rfl rfl rfl rfl rfl ?_
      refine wl_noD rfl rfl rfl rfl rfl rfl ?_
      refine wl_noD rfl rfl rfl rfl rfl rfl ?_
      refine wl_noD rfl rfl rfl rfl rfl rfl ?_
      refine wl_op rfl rfl (ow_vr (vr_pick (b := true) (v := .bool _) rfl rfl) ?_)
      refine wl_nil ?_
      refine hK3 _ _ ?_
      refine cw_cond_t rfl rfl (rfl) ?_
      refine cw_seq fun K4 hK4 => ?_
      have hno := hno2 (by omega)
      replace hS := Sat.nilc.2 hS
      refine cw_region ?_
      refine wl_op rfl rfl (ow_vr (vr_assign (v := .int .i64 0) rfl) ?_)
      refine wl_op rfl rfl (ow_vr (vr_assign (v := .int .i64 0) rfl) ?_)
      refine wl_op rfl rfl (ow_vr (vr_assign (v := .slice none 0 0) rfl) ?_)
      refine wl_op rfl rfl (ow_vr (vr_assign (v := .bool false) rfl) ?_)
      refine wl_nil ?_
      refine hK4 _ _ ?_
      refine cw_ret ?_
      refine thenF_ret (?_)
      refine ret_four (fn := Try.f34) (n := 106) (t := 2) (u := 3) (v := 4) (x := 5) (.inl rfl) rfl rfl rfl rfl rfl ?_
      exact ⟨[[]], ⟨.slice none 0 0, [], (by rw [hno] <;> rfl), rfl, (by rw [hno]; exact Own.nil)⟩, hS⟩
    · (try simp only [decide_eq_true_eq, decide_eq_false_iff_not, Bool.not_eq_true, Bool.not_eq_false, Bool.not_eq_true', Bool.not_eq_false', Bool.and_eq_true, Bool.or_eq_true, Bool.and_eq_false_iff, Bool.or_eq_false_iff, Int.not_lt, Int.not_le, gt_iff_lt, ge_iff_le, ne_eq, Decidable.not_not, beq_iff_eq] at hc)
      have hg25 := hc; clear hc
      refine wl_yes rfl rfl rfl rfl rfl (ow_vr (vr_move (v := vl) rfl) ?_)
      first | (refine wl_yes rfl rfl rfl rfl rfl (ow_vr (vr_indexAddr Try.underlying57 sz_9 rfl rfl (by omega) (by omega)) ?_)) | (refine wl_yes rfl rfl rfl rfl rfl (ow_vr (vr_indexV (v := vl) Try.underlying57 sz_9 rfl (by first | assumption | (refine Own.view ?_ (by assumption); exact fun _ => rfl) | exact OwnB.view (by assumption)) rfl (by omega) (by first | omega | (simp <;> omega))) ?_))
      refine wl_yes rfl rfl rfl rfl rfl (ow_lr (S := Sat _ _) (lr_loadV1 (u := str _) Try.underlying9 rfl rfl (by first | assumption | (refine Own.view ?_ (by assumption); exact fun _ => rfl) | exact OwnB.view (by assumption)) (by repeat (first | exact List.mem_cons_self | assumption | refine List.mem_cons_of_mem _ ?_)) ((rfl : [x0, x1, x2][1]? = some x1)) (by exact fun _ => rfl) (by rfl)) hS ?_)
      refine wl_yes rfl rfl rfl rfl rfl (ow_vr (vr_len_s Try.underlying9 rfl) ?_)
      refine wl_yes rfl rfl rfl rfl rfl (ow_vr (vr_neq rfl rfl) ?_)
      refine wl_op rfl rfl (ow_vr (vr_pick (b := false) (v := .bool _) rfl rfl) ?_)
      refine wl_op rfl rfl (ow_vr (vr_move (v := .bool _) rfl) ?_)
      refine wl_split 32 rfl (fun hc => ?_) (fun hc => ?_)
      · (try simp only [decide_eq_true_eq, decide_eq_false_iff_not, Bool.not_eq_true, Bool.not_eq_false, Bool.not_eq_true', Bool.not_eq_false', Bool.and_eq_true, Bool.or_eq_true, Bool.and_eq_false_iff, Bool.or_eq_false_iff, Int.not_lt, Int.not_le, gt_iff_lt, ge_iff_le, ne_eq, Decidable.not_not, beq_iff_eq] at hc)
        have hg32 := hc; clear hc
        refine wl_noD rfl rfl rfl rfl rfl rfl ?_
        refine wl_noD rfl rfl rfl rfl rfl rfl ?_
        refine wl_noD rfl rfl rfl rfl rfl rfl ?_
        refine wl_noD rfl rfl rfl rfl rfl rfl ?_
        refine wl_noD rfl rfl rfl rfl rfl rfl ?_
        refine wl_op rfl rfl (ow_vr (vr_pick (b := true) (v := .bool _) rfl rfl) ?_)
        refine wl_nil ?_
        refine hK3 _ _ ?_
        refine cw_cond_t rfl rfl (rfl) ?_
        refine cw_seq fun K5 hK5 => ?_
        have hno := hno2 (by omega)
        replace hS := Sat.nilc.2 hS
        refine cw_region ?_
        refine wl_op rfl rfl (ow_vr (vr_assign (v := .int .i64 0) rfl) ?_)
        refine wl_op rfl rfl (ow_vr (vr_assign (v := .int .i64 0) rfl) ?_)
        refine wl_op rfl rfl (ow_vr (vr_assign (v := .slice none 0 0) rfl) ?_)
        refine wl_op rfl rfl (ow_vr (vr_assign (v := .bool false) rfl) ?_)
        refine wl_nil ?_
        refine hK5 _ _ ?_
        refine cw_ret ?_
        refine thenF_ret (?_)
        refine ret_four (fn := Try.f34) (n := 106) (t := 2) (u := 3) (v := 4) (x := 5) (.inl rfl) rfl rfl rfl rfl rfl ?_
        exact ⟨[[]], ⟨.slice none 0 0, [], (by rw [hno] <;> rfl), rfl, (by rw [hno]; exact Own.nil)⟩, hS⟩
      · (try simp only [decide_eq_true_eq, decide_eq_false_iff_not, Bool.not_eq_true, Bool.not_eq_false, Bool.not_eq_true', Bool.not_eq_false', Bool.and_eq_true, Bool.or_eq_true, Bool.and_eq_false_iff, Bool.or_eq_false_iff, Int.not_lt, Int.not_le, gt_iff_lt, ge_iff_le, ne_eq, Decidable.not_not, beq_iff_eq] at hc)
        have hg32 := hc; clear hc
        refine wl_yes rfl rfl rfl rfl rfl (ow_vr (vr_move (v := vl) rfl) ?_)
        first | (refine wl_yes rfl rfl rfl rfl rfl (ow_vr (vr_indexAddr Try.underlying57 sz_9 rfl rfl (by omega) (by omega)) ?_)) | (refine wl_yes rfl rfl rfl rfl rfl (ow_vr (vr_indexV (v := vl) Try.underlying57 sz_9 rfl (by first | assumption | (refine Own.view ?_ (by assumption); exact fun _ => rfl) | exact OwnB.view (by assumption)) rfl (by omega) (by first | omega | (simp <;> omega))) ?_))
        refine wl_yes rfl rfl rfl rfl rfl (ow_lr (S := Sat _ _) (lr_loadV1 (u := str _) Try.underlying9 rfl rfl (by first | assumption | (refine Own.view ?_ (by assumption); exact fun _ => rfl) | exact OwnB.view (by assumption)) (by repeat (first | exact List.mem_cons_self | assumption | refine List.mem_cons_of_mem _ ?_)) ((rfl : [x0, x1, x2][2]? = some x2)) (by exact fun _ => rfl) (by rfl)) hS ?_)
        refine wl_yes rfl rfl rfl rfl rfl (ow_vr (vr_len_s Try.underlying9 rfl) ?_)
        refine wl_yes rfl rfl rfl rfl rfl (ow_vr (vr_neq rfl rfl) ?_)
        refine wl_op rfl rfl (ow_vr (vr_pick (b := false) (v := .bool _) rfl rfl) ?_)
        refine wl_nil ?_
        refine hK3 _ _ ?_
        refine cw_cond rfl rfl (fun hc => ?_) (fun hc => ?_)
        · (try simp only [decide_eq_true_eq, decide_eq_false_iff_not, Bool.not_eq_true, Bool.not_eq_false, Bool.not_eq_true', Bool.not_eq_false', Bool.and_eq_true, Bool.or_eq_true, Bool.and_eq_false_iff, Bool.or_eq_false_iff, Int.not_lt, Int.not_le, gt_iff_lt, ge_iff_le, ne_eq, Decidable.not_not, beq_iff_eq] at hc)
          have hc0 := hc; clear hc
          refine cw_seq fun K6 hK6 => ?_
          have hno := hno2 (by omega)
          replace hS := Sat.nilc.2 hS
          refine cw_region ?_
          refine wl_op rfl rfl (ow_vr (vr_assign (v := .int .i64 0) rfl) ?_)
          refine wl_op rfl rfl (ow_vr (vr_assign (v := .int .i64 0) rfl) ?_)
          refine wl_op rfl rfl (ow_vr (vr_assign (v := .slice none 0 0) rfl) ?_)
          refine wl_op rfl rfl (ow_vr (vr_assign (v := .bool false) rfl) ?_)
          refine wl_nil ?_
          refine hK6 _ _ ?_
          refine cw_ret ?_
          refine thenF_ret (?_)
          refine ret_four (fn := Try.f34) (n := 106) (t := 2) (u := 3) (v := 4) (x := 5) (.inl rfl) rfl rfl rfl rfl rfl ?_
          exact ⟨[[]], ⟨.slice none 0 0, [], (by rw [hno] <;> rfl), rfl, (by rw [hno]; exact Own.nil)⟩, hS⟩
        · (try simp only [decide_eq_true_eq, decide_eq_false_iff_not, Bool.not_eq_true, Bool.not_eq_false, Bool.not_eq_true', Bool.not_eq_false', Bool.and_eq_true, Bool.or_eq_true, Bool.and_eq_false_iff, Bool.or_eq_false_iff, Int.not_lt, Int.not_le, gt_iff_lt, ge_iff_le, ne_eq, Decidable.not_not, beq_iff_eq] at hc)
          have hc0 := hc; clear hc
          refine cw_skip ?_
          refine hK2 _ _ ?_
          refine cw_seq fun K7 hK7 => ?_
          have h32 : x0.length = 32 ∧ x1.length = 32 ∧ x2.length = 32 := by omega
          have hsl : s.length = 96 := by rw [← hs, List.length_append, List.length_append]; omega
          refine cw_draw_sat hS [(0, 0), (1, 0), (2, 1), (3, 0), (4, 0), (5, 1), (6, 0), (7, 0), (8, 0), (9, 1), (10, 0), (11, 0)] mixed (planFast_ok (by kernel_rfl)) (by rintro _ _ _ ⟨⟩) ?_
          clear hS; intro w hS
          refine pl_take rfl (yes_none rfl) (vr_move (v := vl) rfl) ?_
          first | (refine pl_take rfl (yes_none rfl) (vr_indexAddr Try.underlying57 sz_9 rfl rfl (by omega) (by omega)) ?_) | (refine pl_take rfl (yes_none rfl) (vr_indexV (v := vl) Try.underlying57 sz_9 rfl (by first | assumption | (refine Own.view ?_ (by assumption); exact fun _ => rfl) | exact OwnB.view (by assumption)) rfl (by omega) (by first | omega | (simp <;> omega))) ?_)
          refine pl_load rfl (yes_none rfl) (lr_loadV1 (u := str _) Try.underlying9 rfl rfl (by first | assumption | (refine Own.view ?_ (by assumption); exact fun _ => rfl) | exact OwnB.view (by assumption)) (by repeat (first | exact List.mem_cons_self | assumption | refine List.mem_cons_of_mem _ ?_)) ((rfl : [x0, x1, x2][0]? = some x0)) (by exact fun _ => rfl) (by rfl)) ?_
          refine pl_take rfl (yes_none rfl) (vr_move (v := vl) rfl) ?_
          first | (refine pl_take rfl (yes_none rfl) (vr_indexAddr Try.underlying57 sz_9 rfl rfl (by omega) (by omega)) ?_) | (refine pl_take rfl (yes_none rfl) (vr_indexV (v := vl) Try.underlying57 sz_9 rfl (by first | assumption | (refine Own.view ?_ (by assumption); exact fun _ => rfl) | exact OwnB.view (by assumption)) rfl (by omega) (by first | omega | (simp <;> omega))) ?_)
          refine pl_load rfl (yes_none rfl) (lr_loadV1 (u := str _) Try.underlying9 rfl rfl (by first | assumption | (refine Own.view ?_ (by assumption); exact fun _ => rfl) | exact OwnB.view (by assumption)) (by repeat (first | exact List.mem_cons_self | assumption | refine List.mem_cons_of_mem _ ?_)) ((rfl : [x0, x1, x2][1]? = some x1)) (by exact fun _ => rfl) (by rfl)) ?_
          refine pl_take rfl (yes_none rfl) (vr_cat_s rfl rfl (by first | omega | (simp <;> omega))) ?_
          refine pl_take rfl (yes_none rfl) (vr_move (v := vl) rfl) ?_
          first | (refine pl_take rfl (yes_none rfl) (vr_indexAddr Try.underlying57 sz_9 rfl rfl (by omega) (by omega)) ?_) | (refine pl_take rfl (yes_none rfl) (vr_indexV (v := vl) Try.underlying57 sz_9 rfl (by first | assumption | (refine Own.view ?_ (by assumption); exact fun _ => rfl) | exact OwnB.view (by assumption)) rfl (by omega) (by first | omega | (simp <;> omega))) ?_)
          refine pl_load rfl (yes_none rfl) (lr_loadV1 (u := str _) Try.underlying9 rfl rfl (by first | assumption | (refine Own.view ?_ (by assumption); exact fun _ => rfl) | exact OwnB.view (by assumption)) (by repeat (first | exact List.mem_cons_self | assumption | refine List.mem_cons_of_mem _ ?_)) ((rfl : [x0, x1, x2][2]? = some x2)) (by exact fun _ => rfl) (by rfl)) ?_
          refine pl_take rfl (yes_none rfl) (vr_as (v' := str s) (vr_cat_s (a := x0 ++ x1) (b := x2) rfl rfl (by rw [List.length_append]; omega)) (congrArg str hs)) ?_
          refine pl_take rfl (yes_none rfl) (vr_assign (v := str _) rfl) ?_
          refine pl_nil hS ?_
          clear hS; intro w hS
          refine hK7 _ _ ?_
          refine cw_seq fun K8 hK8 => ?_
          refine cw_region ?_
          refine wl_op rfl rfl (ow_vr (vr_move (v := str _) rfl) ?_)
          refine wl_op rfl rfl (ow_fn (vs := [str _]) en_48 rfl hS (ref_Open s (by omega)) ?_)
          clear hS; rintro _ _ w ⟨rfl, rfl⟩ hS; (try simp only [List.cons_append, List.nil_append] at hS)
          refine wl_op rfl rfl (ow_vr (vr_move (v := .tuple _) rfl) ?_)
          refine wl_op rfl rfl (ow_vr (vr_extract (v := str _) rfl rfl) ?_)
          refine wl_op rfl rfl (ow_vr (vr_extract (v := .bool _) rfl rfl) ?_)
          refine wl_op rfl rfl (ow_vr (vr_assign (v := str _) rfl) ?_)
          refine wl_op rfl rfl (ow_vr (vr_assign (v := .bool _) rfl) ?_)
          refine wl_nil ?_
          refine hK8 _ _ ?_
          refine cw_seq fun K9 hK9 => ?_
          refine cw_seq fun K10 hK10 => ?_
          refine cw_region ?_
          refine wl_op rfl rfl (ow_vr (vr_move (v := .bool _) rfl) ?_)
          refine wl_op rfl rfl (ow_vr (vr_not rfl) ?_)
          refine wl_nil ?_
          refine hK10 _ _ ?_
          refine cw_cond rfl rfl (fun hc => ?_) (fun hc => ?_)
          · (try simp only [decide_eq_true_eq, decide_eq_false_iff_not, Bool.not_eq_true, Bool.not_eq_false, Bool.not_eq_true', Bool.not_eq_false', Bool.and_eq_true, Bool.or_eq_true, Bool.and_eq_false_iff, Bool.or_eq_false_iff, Int.not_lt, Int.not_le, gt_iff_lt, ge_iff_le, ne_eq, Decidable.not_not, beq_iff_eq] at hc)
            have hop := hc; clear hc
            refine cw_seq fun K11 hK11 => ?_
            have hno : getOkP [x0, x1, x2] = false := getP_no fun h2 => by rw [hfl] at h2; simp_all
            replace hS := Sat.nilc.2 hS
            refine cw_region ?_
            refine wl_op rfl rfl (ow_vr (vr_assign (v := .int .i64 0) rfl) ?_)
            refine wl_op rfl rfl (ow_vr (vr_assign (v := .int .i64 0) rfl) ?_)
            refine wl_op rfl rfl (ow_vr (vr_assign (v := .slice none 0 0) rfl) ?_)
            refine wl_op rfl rfl (ow_vr (vr_assign (v := .bool false) rfl) ?_)
            refine wl_nil ?_
            refine hK11 _ _ ?_
            refine cw_ret ?_
            refine thenF_ret (?_)
            refine ret_four (fn := Try.f34) (n := 106) (t := 2) (u := 3) (v := 4) (x := 5) (.inl rfl) rfl rfl rfl rfl rfl ?_
            exact ⟨[[]], ⟨.slice none 0 0, [], (by rw [hno] <;> rfl), rfl, (by rw [hno]; exact Own.nil)⟩, hS⟩
          · (try simp only [decide_eq_true_eq, decide_eq_false_iff_not, Bool.not_eq_true, Bool.not_eq_false, Bool.not_eq_true', Bool.not_eq_false', Bool.and_eq_true, Bool.or_eq_true, Bool.and_eq_false_iff, Bool.or_eq_false_iff, Int.not_lt, Int.not_le, gt_iff_lt, ge_iff_le, ne_eq, Decidable.not_not, beq_iff_eq] at hc)
            have hop := hc; clear hc
            refine cw_skip ?_
            refine hK9 _ _ ?_
            refine cw_seq fun K12 hK12 => ?_
            have hopn : openOk s = true := by simpa using hop
            have hol : openL s = bodyB s := by rw [openL, if_pos hopn]
            have hbl := bodyB_length s
            refine cw_region ?_
            refine wl_op rfl rfl (ow_vr (vr_assign (v := .slice none 0 0) rfl) ?_)
            refine wl_nil ?_
            refine hK12 _ _ ?_
            refine cw_seq fun K13 hK13 => ?_
            refine cw_seq fun K14 hK14 => ?_
            replace hS := Sat.nilc.2 hS
            refine cw_region ?_
            refine wl_op rfl rfl (ow_vr (vr_assign (v := .int .i64 0) rfl) ?_)
            refine wl_nil ?_
            refine hK14 _ _ ?_
            refine cw_block ?_
            refine cw_loop (fun m f w => ∃ (k : Nat) (v9 : Value) (D9 : Chunk) (g : Nat → Value), f = (upd (upd (upd (upd (upd g 0 (vl)) 6 (str s)) 7 (str (openL s))) 9 (v9)) 10 (.int .i64 (k : Int))) ∧ (k ≤ 16 ∧ Own 3 1 encI v9 ((List.range k).map (cellR s)) D9) ∧ m = 16 - k ∧ Sat E (D9 :: F) w) ⟨0, .slice none 0 0, [], _, (reb (reb (reb (reb (reb rfl rfl) rfl) rfl) rfl) rfl), ?_, rfl, hS⟩ ?_
            · exact ⟨by omega, Own.nil⟩
            clear hS; rintro m f w ⟨k, v9, D9, g, rfl, hI0, rfl, hS⟩
            obtain ⟨hk, ho9⟩ := hI0
            refine cw_seq fun K15 hK15 => ?_
            refine cw_seq fun K16 hK16 => ?_
            refine cw_region ?_
            refine wl_op rfl rfl (ow_vr (vr_move (v := .int .i64 (k : Int)) rfl) ?_)
            refine wl_op rfl rfl (ow_vr (vr_lss rfl rfl) ?_)
            refine wl_nil ?_
            refine hK16 _ _ ?_
            refine cw_cond rfl rfl (fun hc => ?_) (fun hc => ?_)
            · (try simp only [decide_eq_true_eq, decide_eq_false_iff_not, Bool.not_eq_true, Bool.not_eq_false, Bool.not_eq_true', Bool.not_eq_false', Bool.and_eq_true, Bool.or_eq_true, Bool.and_eq_false_iff, Bool.or_eq_false_iff, Int.not_lt, Int.not_le, gt_iff_lt, ge_iff_le, ne_eq, Decidable.not_not, beq_iff_eq] at hc)
              have hc2 := hc; clear hc
              refine cw_skip ?_
              refine hK15 _ _ ?_
              refine cw_seq fun K17 hK17 => ?_
              refine cw_block ?_
              refine cw_region ?_
              refine wl_op rfl rfl (ow_vr (vr_move (v := v9) rfl) ?_)
              refine wl_op rfl rfl (ow_vr (vr_move (v := str (bodyB s)) (congrArg str hol)) ?_)
              refine wl_op rfl rfl (ow_vr (vr_move (v := .int .i64 (k : Int)) rfl) ?_)
              first | (refine wl_op rfl rfl (ow_vr (vr_muli rfl rfl (by unfold inI64; omega)) ?_)) | (refine wl_op rfl rfl (ow_vr (vr_mul rfl rfl) ?_))
              refine wl_op rfl rfl (ow_vr (vr_as (vr_addi rfl rfl (by unfold inI64; omega)) (congrArg (Value.int .i64) (show (8 : Int) + 4 * (k : Int) = ((4 * (2 + k) : Nat) : Int) by omega))) ?_)
              refine wl_op rfl rfl (ow_vr (vr_move (v := .int .i64 (k : Int)) rfl) ?_)
              first | (refine wl_op rfl rfl (ow_vr (vr_muli rfl rfl (by unfold inI64; omega)) ?_)) | (refine wl_op rfl rfl (ow_vr (vr_mul rfl rfl) ?_))
              refine wl_op rfl rfl (ow_vr (vr_as (vr_addi rfl rfl (by unfold inI64; omega)) (congrArg (Value.int .i64) (show (12 : Int) + 4 * (k : Int) = ((4 * (2 + k) + 4 : Nat) : Int) by omega))) ?_)
              refine wl_op rfl rfl (ow_vr (vr_as (v' := str (cutB s (4 * (2 + k)) (4 * (2 + k) + 4))) (vr_slice_mid (l := bodyB s) (a := 4 * (2 + k)) (h := 4 * (2 + k) + 4) Try.underlying9 rfl rfl rfl (by omega) (by omega)) (congrArg str (cut_body96 hsl (by omega)))) ?_)
              refine wl_op rfl rfl (ow_fn (vs := [str _]) en_49 rfl hS (ref_Get (cutB s (4 * (2 + k)) (4 * (2 + k) + 4)) (by rw [cutB, List.length_drop, List.length_take]; omega)) ?_)
              clear hS; rintro _ _ w ⟨rfl, rfl⟩ hS; (try simp only [List.cons_append, List.nil_append] at hS)
              refine wl_op rfl rfl (ow_buildSliceD (m := 1) (len := 1) (vs := [.int .i64 _]) (cs := [.int .i64 _]) hS Try.underlying55 if_3 rfl (by decide) (by decide) rfl rfl (by simp [Value.cells]) rfl ?_)
              clear hS; intro b71 w hS
              refine wl_op rfl rfl (ow_append (v := v9) hS Try.underlying55 Try.underlying55 if_3 rfl (by decide) rfl rfl (by assumption) (View.single (x := cellR s k) rfl rfl (by decide)) (by first | exact HasC.here | exact HasC.there (HasC.here) | exact HasC.there (HasC.there (HasC.here)) | exact HasC.there (HasC.there (HasC.there (HasC.here))) | exact HasC.there (HasC.there (HasC.there (HasC.there (HasC.here)))) | exact HasC.there (HasC.there (HasC.there (HasC.there (HasC.there (HasC.here))))) | exact HasC.there (HasC.there (HasC.there (HasC.there (HasC.there (HasC.there (HasC.here)))))) | exact HasC.there (HasC.there (HasC.there (HasC.there (HasC.there (HasC.there (HasC.there (HasC.here))))))) | exact HasC.there (HasC.there (HasC.there (HasC.there (HasC.there (HasC.there (HasC.there (HasC.there (HasC.here))))))))) (by repeat (first | exact List.mem_cons_self | assumption | refine List.mem_cons_of_mem _ ?_)) (by exact fun _ => rfl) (by exact fun _ => rfl) (by simp [maxLen] <;> omega) (by simp [maxLen] <;> omega) ?_)
              clear hS; intro v72 D72 w ho72 hS
              refine wl_op rfl rfl (ow_vr (vr_assign (v := v72) rfl) ?_)
              refine wl_nil ?_
              replace hS := hS.tail1
              refine hK17 _ _ ?_
              refine cw_region ?_
              refine wl_op rfl rfl (ow_vr (vr_move (v := .int .i64 (k : Int)) rfl) ?_)
              first | (refine wl_op rfl rfl (ow_vr (vr_addi rfl rfl (by unfold inI64; omega)) ?_)) | (refine wl_op rfl rfl (ow_vr (vr_add rfl rfl) ?_))
              refine wl_op rfl rfl (ow_vr (vr_assign (v := .int .i64 _) rfl) ?_)
              refine wl_nil ?_
              refine thenF_normal ⟨_, ?_, k + 1, v72, D72, _, (reb (reb (reb (reb (reb rfl rfl) rfl) rfl) rfl) rfl), ?_, rfl, hS⟩
              · omega
              · exact ⟨by omega, by rw [rangeR_snoc]; exact ho72⟩
            · (try simp only [decide_eq_true_eq, decide_eq_false_iff_not, Bool.not_eq_true, Bool.not_eq_false, Bool.not_eq_true', Bool.not_eq_false', Bool.and_eq_true, Bool.or_eq_true, Bool.and_eq_false_iff, Bool.or_eq_false_iff, Int.not_lt, Int.not_le, gt_iff_lt, ge_iff_le, ne_eq, Decidable.not_not, beq_iff_eq] at hc)
              have hc2 := hc; clear hc
              refine cw_exit ?_
              refine hK13 _ _ ?_
              refine cw_seq fun K18 hK18 => ?_
              obtain rfl : k = 16 := by omega
              replace ho9 : Own 3 1 encI v9 (cellsR s) D9 := ho9
              refine cw_draw_sat hS [(0, 0), (1, 0), (3, 0), (4, 0), (2, 2), (5, 2), (6, 0), (7, 0)] mixed (planFast_ok (by kernel_rfl)) (by rintro _ _ _ ⟨⟩) ?_
              clear hS; intro w hS
              refine pl_take rfl (yes_none rfl) (vr_move (v := str (bodyB s)) (congrArg str hol)) ?_
              refine pl_take rfl (yes_none rfl) (vr_as (vr_slice_to (l := bodyB s) (h := 4) Try.underlying9 rfl rfl (by omega)) ((congrArg str (List.drop_zero).symm).trans (congrArg str (cut_body96 (a := 0) (h := 4) hsl (by omega))))) ?_
              refine pl_take rfl (yes_none rfl) (vr_move (v := str (bodyB s)) (congrArg str hol)) ?_
              refine pl_take rfl (yes_none rfl) (vr_as (vr_slice_mid (l := bodyB s) (a := 4) (h := 8) Try.underlying9 rfl rfl rfl (by omega) (by omega)) (congrArg str (cut_body96 (a := 4) (h := 8) hsl (by omega)))) ?_
              refine pl_act hS rfl (yes_none rfl) ?_
              clear hS; intro w hS
              refine (ow_fn (vs := [str _]) en_49 rfl hS (ref_Get (cutB s 0 4) (by rw [cutB, List.length_drop, List.length_take]; omega)) ?_)
              clear hS; rintro _ _ w ⟨rfl, rfl⟩ hS; (try simp only [List.cons_append, List.nil_append] at hS)
              refine ⟨by first | exact hS | exact hS.tail1 | exact hS.tail1.tail1 | exact hS.tail1.tail1.tail1, ?_⟩
              refine pl_act hS rfl (yes_none rfl) ?_
              clear hS; intro w hS
              refine (ow_fn (vs := [str _]) en_49 rfl hS (ref_Get (cutB s 4 8) (by rw [cutB, List.length_drop, List.length_take]; omega)) ?_)
              clear hS; rintro _ _ w ⟨rfl, rfl⟩ hS; (try simp only [List.cons_append, List.nil_append] at hS)
              refine ⟨by first | exact hS | exact hS.tail1 | exact hS.tail1.tail1 | exact hS.tail1.tail1.tail1, ?_⟩
              refine pl_take rfl (yes_none rfl) (vr_assign (v := .int .i64 _) rfl) ?_
              refine pl_take rfl (yes_none rfl) (vr_assign (v := .int .i64 _) rfl) ?_
              refine pl_nil hS ?_
              clear hS; intro w hS
              refine hK18 _ _ ?_
              refine cw_seq fun K19 hK19 => ?_
              refine cw_region ?_
              refine wl_op rfl rfl (ow_vr (vr_move (v := .int .i64 _) rfl) ?_)
              refine wl_op rfl rfl (ow_vr (vr_move (v := .int .i64 _) rfl) ?_)
              refine wl_op rfl rfl (ow_vr (vr_move (v := v9) rfl) ?_)
              refine wl_op rfl rfl (ow_fng (vs := [.int .i64 _, .int .i64 _, v9]) en_29 rfl hS (ref_Page (noR s) (vR s) (cellsR s) _ _ (ho9.view fun _ => rfl)) (by repeat (first | exact needs0 | (refine needsC ?_ ?_; · (repeat (first | exact List.mem_cons_self | assumption | refine List.mem_cons_of_mem _ ?_))))) ?_)
              clear hS; rintro v83 _ w ⟨v13, D13, rfl, rfl, ho13⟩ hS; (try simp only [List.cons_append, List.nil_append] at hS)
              refine wl_op rfl rfl (ow_vr (vr_move (v := .tuple _) rfl) ?_)
              refine wl_op rfl rfl (ow_vr (vr_extract (v := v13) rfl rfl) ?_)
              refine wl_op rfl rfl (ow_vr (vr_extract (v := .bool _) rfl rfl) ?_)
              refine wl_op rfl rfl (ow_vr (vr_assign (v := v13) rfl) ?_)
              refine wl_op rfl rfl (ow_vr (vr_assign (v := .bool _) rfl) ?_)
              refine wl_nil ?_
              refine hK19 _ _ ?_
              refine cw_seq fun K20 hK20 => ?_
              refine cw_seq fun K21 hK21 => ?_
              have hpos : okPg (noR s) (vR s) (cellsR s) = true → Own 9 1 encS v13 (pagesB (allP (noR s) (vR s) (cellsR s))) D13 := fun h => by rw [h, if_pos rfl] at ho13; exact ho13
              refine cw_draw_sat hS [(0, 0), (1, 0), (2, 0), (3, 0), (4, 0), (5, 1), (6, 0), (7, 0), (8, 1), (9, 0), (10, 0), (11, 0), (12, 1), (13, 0), (14, 0), (15, 0), (16, 0)] mixed (planFast_ok (by kernel_rfl)) (by rintro _ _ _ ⟨⟩) ?_
              clear hS; intro w hS
              refine pl_take rfl (yes_none rfl) (vr_move (v := .bool _) rfl) ?_
              refine pl_take rfl (yes_none rfl) (vr_not rfl) ?_
              refine pl_take rfl (yes_none rfl) (vr_move (v := .bool _) rfl) ?_
              refine pl_split 88 rfl (fun hc => ?_) (fun hc => ?_)
              · (try simp only [decide_eq_true_eq, decide_eq_false_iff_not, Bool.not_eq_true, Bool.not_eq_false, Bool.not_eq_true', Bool.not_eq_false', Bool.and_eq_true, Bool.or_eq_true, Bool.and_eq_false_iff, Bool.or_eq_false_iff, Int.not_lt, Int.not_le, gt_iff_lt, ge_iff_le, ne_eq, Decidable.not_not, beq_iff_eq] at hc)
                have hnp := hc; clear hc
                refine pl_noD rfl (yes_not rfl rfl rfl rfl rfl) ?_
                refine pl_noD rfl (yes_not rfl rfl rfl rfl rfl) ?_
                refine pl_noD rfl (yes_not rfl rfl rfl rfl rfl) ?_
                refine pl_noD rfl (yes_not rfl rfl rfl rfl rfl) ?_
                refine pl_noD rfl (yes_not rfl rfl rfl rfl rfl) ?_
                refine pl_noD rfl (yes_not rfl rfl rfl rfl rfl) ?_
                refine pl_noD rfl (yes_not rfl rfl rfl rfl rfl) ?_
                refine pl_noD rfl (yes_not rfl rfl rfl rfl rfl) ?_
                refine pl_noD rfl (yes_not rfl rfl rfl rfl rfl) ?_
                refine pl_noD rfl (yes_not rfl rfl rfl rfl rfl) ?_
                refine pl_noD rfl (yes_not rfl rfl rfl rfl rfl) ?_
                refine pl_noD rfl (yes_not rfl rfl rfl rfl rfl) ?_
                refine pl_noD rfl (yes_not rfl rfl rfl rfl rfl) ?_
                refine pl_take rfl (yes_none rfl) (vr_pick (b := true) (v := .bool _) rfl rfl) ?_
                refine pl_nil hS ?_
                clear hS; intro w hS
                refine hK21 _ _ ?_
                refine cw_cond_t rfl rfl (rfl) ?_
                refine cw_seq fun K22 hK22 => ?_
                have hno : getOkP [x0, x1, x2] = false := by cases hgo : getOkP [x0, x1, x2] with | false => rfl | true => obtain ⟨_, _, h3, _, h5, _⟩ := getP_spec hgo; rw [hfl] at h3 h5; simp_all
                replace hS := Sat.nilc.2 hS.tail1.tail1
                refine cw_region ?_
                refine wl_op rfl rfl (ow_vr (vr_assign (v := .int .i64 0) rfl) ?_)
                refine wl_op rfl rfl (ow_vr (vr_assign (v := .int .i64 0) rfl) ?_)
                refine wl_op rfl rfl (ow_vr (vr_assign (v := .slice none 0 0) rfl) ?_)
                refine wl_op rfl rfl (ow_vr (vr_assign (v := .bool false) rfl) ?_)
                refine wl_nil ?_
                refine hK22 _ _ ?_
                refine cw_ret ?_
                refine thenF_ret (?_)
                refine ret_four (fn := Try.f34) (n := 106) (t := 2) (u := 3) (v := 4) (x := 5) (.inl rfl) rfl rfl rfl rfl rfl ?_
                exact ⟨[[]], ⟨.slice none 0 0, [], (by rw [hno] <;> rfl), rfl, (by rw [hno]; exact Own.nil)⟩, hS⟩
              · (try simp only [decide_eq_true_eq, decide_eq_false_iff_not, Bool.not_eq_true, Bool.not_eq_false, Bool.not_eq_true', Bool.not_eq_false', Bool.and_eq_true, Bool.or_eq_true, Bool.and_eq_false_iff, Bool.or_eq_false_iff, Int.not_lt, Int.not_le, gt_iff_lt, ge_iff_le, ne_eq, Decidable.not_not, beq_iff_eq] at hc)
                have hnp := hc; clear hc
                refine pl_take rfl (yes_some rfl rfl rfl rfl) (vr_move (v := v13) rfl) ?_
                refine pl_take rfl (yes_some rfl rfl rfl rfl) (vr_indexV (v := v13) Try.underlying57 sz_9 rfl ((hpos (by simpa using hnp)).view fun _ => rfl) rfl (by omega) (by simp [pagesB])) ?_
                refine pl_load rfl (yes_some rfl rfl rfl rfl) (lr_loadV1 (u := str _) Try.underlying9 rfl rfl ((hpos (by simpa using hnp)).view fun _ => rfl) (by repeat (first | exact List.mem_cons_self | assumption | refine List.mem_cons_of_mem _ ?_)) ((rfl : (pagesB (allP (noR s) (vR s) (cellsR s)))[0]? = some (chunkB (allP (noR s) (vR s) (cellsR s)) 0))) (by exact fun _ => rfl) (by rfl)) ?_
                refine pl_take rfl (yes_some rfl rfl rfl rfl) (vr_move (v := v13) rfl) ?_
                refine pl_take rfl (yes_some rfl rfl rfl rfl) (vr_indexV (v := v13) Try.underlying57 sz_9 rfl ((hpos (by simpa using hnp)).view fun _ => rfl) rfl (by omega) (by simp [pagesB])) ?_
                refine pl_load rfl (yes_some rfl rfl rfl rfl) (lr_loadV1 (u := str _) Try.underlying9 rfl rfl ((hpos (by simpa using hnp)).view fun _ => rfl) (by repeat (first | exact List.mem_cons_self | assumption | refine List.mem_cons_of_mem _ ?_)) ((rfl : (pagesB (allP (noR s) (vR s) (cellsR s)))[1]? = some (chunkB (allP (noR s) (vR s) (cellsR s)) 1))) (by exact fun _ => rfl) (by rfl)) ?_
                refine pl_take rfl (yes_some rfl rfl rfl rfl) (vr_cat_s (a := chunkB (allP (noR s) (vR s) (cellsR s)) 0) (b := chunkB (allP (noR s) (vR s) (cellsR s)) 1) rfl rfl (by rw [chunk_length (all_length (by simpa using hnp)) (by omega), chunk_length (all_length (by simpa using hnp)) (by omega)]; omega)) ?_
                refine pl_take rfl (yes_some rfl rfl rfl rfl) (vr_move (v := v13) rfl) ?_
                refine pl_take rfl (yes_some rfl rfl rfl rfl) (vr_indexV (v := v13) Try.underlying57 sz_9 rfl ((hpos (by simpa using hnp)).view fun _ => rfl) rfl (by omega) (by simp [pagesB])) ?_
                refine pl_load rfl (yes_some rfl rfl rfl rfl) (lr_loadV1 (u := str _) Try.underlying9 rfl rfl ((hpos (by simpa using hnp)).view fun _ => rfl) (by repeat (first | exact List.mem_cons_self | assumption | refine List.mem_cons_of_mem _ ?_)) ((rfl : (pagesB (allP (noR s) (vR s) (cellsR s)))[2]? = some (chunkB (allP (noR s) (vR s) (cellsR s)) 2))) (by exact fun _ => rfl) (by rfl)) ?_
                refine pl_take rfl (yes_some rfl rfl rfl rfl) (vr_as (v' := str (allP (noR s) (vR s) (cellsR s))) (vr_cat_s (a := chunkB (allP (noR s) (vR s) (cellsR s)) 0 ++ chunkB (allP (noR s) (vR s) (cellsR s)) 1) (b := chunkB (allP (noR s) (vR s) (cellsR s)) 2) rfl rfl (by rw [List.length_append, chunk_length (all_length (by simpa using hnp)) (by omega), chunk_length (all_length (by simpa using hnp)) (by omega), chunk_length (all_length (by simpa using hnp)) (by omega)]; omega)) (congrArg str (pages_cat (all_length (by simpa using hnp))))) ?_
                refine pl_take rfl (yes_some rfl rfl rfl rfl) (vr_move (v := (str s)) rfl) ?_
                refine pl_take rfl (yes_some rfl rfl rfl rfl) (vr_neq_s rfl rfl) ?_
                refine pl_take rfl (yes_none rfl) (vr_pick (b := false) (v := .bool _) rfl rfl) ?_
                refine pl_nil hS ?_
                clear hS; intro w hS
                refine hK21 _ _ ?_
                refine cw_cond rfl rfl (fun hc => ?_) (fun hc => ?_)
                · (try simp only [decide_eq_true_eq, decide_eq_false_iff_not, Bool.not_eq_true, Bool.not_eq_false, Bool.not_eq_true', Bool.not_eq_false', Bool.and_eq_true, Bool.or_eq_true, Bool.and_eq_false_iff, Bool.or_eq_false_iff, Int.not_lt, Int.not_le, gt_iff_lt, ge_iff_le, ne_eq, Decidable.not_not, beq_iff_eq] at hc)
                  have hc3 := hc; clear hc
                  refine cw_seq fun K23 hK23 => ?_
                  have hno : getOkP [x0, x1, x2] = false := by cases hgo : getOkP [x0, x1, x2] with | false => rfl | true => obtain ⟨_, _, h3, _, h5, _⟩ := getP_spec hgo; rw [hfl] at h3 h5; simp_all
                  replace hS := Sat.nilc.2 hS.tail1.tail1
                  refine cw_region ?_
                  refine wl_op rfl rfl (ow_vr (vr_assign (v := .int .i64 0) rfl) ?_)
                  refine wl_op rfl rfl (ow_vr (vr_assign (v := .int .i64 0) rfl) ?_)
                  refine wl_op rfl rfl (ow_vr (vr_assign (v := .slice none 0 0) rfl) ?_)
                  refine wl_op rfl rfl (ow_vr (vr_assign (v := .bool false) rfl) ?_)
                  refine wl_nil ?_
                  refine hK23 _ _ ?_
                  refine cw_ret ?_
                  refine thenF_ret (?_)
                  refine ret_four (fn := Try.f34) (n := 106) (t := 2) (u := 3) (v := 4) (x := 5) (.inl rfl) rfl rfl rfl rfl rfl ?_
                  exact ⟨[[]], ⟨.slice none 0 0, [], (by rw [hno] <;> rfl), rfl, (by rw [hno]; exact Own.nil)⟩, hS⟩
                · (try simp only [decide_eq_true_eq, decide_eq_false_iff_not, Bool.not_eq_true, Bool.not_eq_false, Bool.not_eq_true', Bool.not_eq_false', Bool.and_eq_true, Bool.or_eq_true, Bool.and_eq_false_iff, Bool.or_eq_false_iff, Int.not_lt, Int.not_le, gt_iff_lt, ge_iff_le, ne_eq, Decidable.not_not, beq_iff_eq] at hc)
                  have hc3 := hc; clear hc
                  refine cw_skip ?_
                  refine hK20 _ _ ?_
                  refine cw_seq fun K24 hK24 => ?_
                  have hokp : okPg (noR s) (vR s) (cellsR s) = true := by simp_all
                  have hall : allP (noR s) (vR s) (cellsR s) = s := by simp_all
                  have hgo : getOkP [x0, x1, x2] = true := by simp only [getOkP, hfl, Bool.and_eq_true, decide_eq_true_eq]; refine ⟨⟨rfl, hsl⟩, hokp, ?_⟩; rw [hall, ← hs]; exact pages_of h32.1 h32.2.1 h32.2.2
                  refine cw_region ?_
                  refine wl_op rfl rfl (ow_vr (vr_move (v := .int .i64 _) rfl) ?_)
                  refine wl_op rfl rfl (ow_vr (vr_move (v := .int .i64 _) rfl) ?_)
                  refine wl_op rfl rfl (ow_vr (vr_move (v := v9) rfl) ?_)
                  refine wl_op rfl rfl (ow_vr (vr_assign (v := .int .i64 _) rfl) ?_)
                  refine wl_op rfl rfl (ow_vr (vr_assign (v := .int .i64 _) rfl) ?_)
                  refine wl_op rfl rfl (ow_vr (vr_assign (v := v9) rfl) ?_)
                  refine wl_op rfl rfl (ow_vr (vr_assign (v := .bool true) rfl) ?_)
                  refine wl_nil ?_
                  refine hK24 _ _ ?_
                  refine cw_ret ?_
                  refine ret_four (fn := Try.f34) (n := 106) (t := 2) (u := 3) (v := 4) (x := 5) (.inl rfl) rfl rfl rfl rfl rfl ?_
                  exact ⟨[D9], ⟨v9, D9, (by rw [hgo, hfl] <;> rfl), rfl, (by rw [hgo, hfl]; exact ho9)⟩, hS.tail1⟩
  · have hno : getOkP l = false := getP_no fun h => hl3 h.1
    refine FnG.mk fun E F w hS hF => ?_
    have hFl : Δl ∈ F := hF _ (by simp)
    refine returns_enter Try.func34 rfl Try.ntmps34 rfl ?_
    refine cw_seq fun K1 hK1 => ?_
    refine cw_region ?_
    refine wl_op rfl rfl (ow_vr (vr_assign (v := .int .i64 0) rfl) ?_)
    refine wl_op rfl rfl (ow_vr (vr_assign (v := .int .i64 0) rfl) ?_)
    refine wl_op rfl rfl (ow_vr (vr_assign (v := .slice none 0 0) rfl) ?_)
    refine wl_op rfl rfl (ow_vr (vr_assign (v := .bool false) rfl) ?_)
    refine wl_nil ?_
    refine hK1 _ _ ?_
    refine cw_seq fun K2 hK2 => ?_
    refine cw_seq fun K3 hK3 => ?_
    refine cw_region ?_
    refine wl_op rfl rfl (ow_vr (vr_move (v := vl) rfl) ?_)
    first | (refine wl_op rfl rfl (ow_vr (vr_len_sl Try.underlying57 rfl) ?_)) | (refine wl_op rfl rfl (ow_vr (vr_len_v (v := vl) Try.underlying57 rfl (by first | assumption | (refine Own.view ?_ (by assumption); exact fun _ => rfl) | exact OwnB.view (by assumption))) ?_))
    refine wl_op rfl rfl (ow_vr (vr_neq rfl rfl) ?_)
    refine wl_op rfl rfl (ow_vr (vr_move (v := .bool _) rfl) ?_)
    refine wl_known 18 rfl (c := true) (by simp; omega) ?_
    refine wl_noD rfl rfl rfl rfl rfl rfl ?_
    refine wl_noD rfl rfl rfl rfl rfl rfl ?_
    refine wl_noD rfl rfl rfl rfl rfl rfl ?_
    refine wl_noD rfl rfl rfl rfl rfl rfl ?_
    refine wl_noD rfl rfl rfl rfl rfl rfl ?_
    refine wl_op rfl rfl (ow_vr (vr_pick (b := true) (v := .bool _) rfl rfl) ?_)
    refine wl_op rfl rfl (ow_vr (vr_move (v := .bool _) rfl) ?_)
    refine wl_noD rfl rfl rfl rfl rfl rfl ?_
    refine wl_noD rfl rfl rfl rfl rfl rfl ?_
    refine wl_noD rfl rfl rfl rfl rfl rfl ?_
    refine wl_noD rfl rfl rfl rfl rfl rfl ?_
    refine wl_noD rfl rfl rfl rfl rfl rfl ?_
    refine wl_op rfl rfl (ow_vr (vr_pick (b := true) (v := .bool _) rfl rfl) ?_)
    refine wl_op rfl rfl (ow_vr (vr_move (v := .bool _) rfl) ?_)
    refine wl_noD rfl rfl rfl rfl rfl rfl ?_
    refine wl_noD rfl rfl rfl rfl rfl rfl ?_
    refine wl_noD rfl rfl rfl rfl rfl rfl ?_
    refine wl_noD rfl rfl rfl rfl rfl rfl ?_
    refine wl_noD rfl rfl rfl rfl rfl rfl ?_
    refine wl_op rfl rfl (ow_vr (vr_pick (b := true) (v := .bool _) rfl rfl) ?_)
    refine wl_nil ?_
    refine hK3 _ _ ?_
    refine cw_cond_t rfl rfl (rfl) ?_
    refine cw_seq fun K4 hK4 => ?_
    refine cw_region ?_
    refine wl_op rfl rfl (ow_vr (vr_assign (v := .int .i64 0) rfl) ?_)
    refine wl_op rfl rfl (ow_vr (vr_assign (v := .int .i64 0) rfl) ?_)
    refine wl_op rfl rfl (ow_vr (vr_assign (v := .slice none 0 0) rfl) ?_)
    refine wl_op rfl rfl (ow_vr (vr_assign (v := .bool false) rfl) ?_)
    refine wl_nil ?_
    refine hK4 _ _ ?_
    refine cw_ret ?_
    refine thenF_ret (?_)
    refine ret_four (fn := Try.f34) (n := 106) (t := 2) (u := 3) (v := 4) (x := 5) (.inl rfl) rfl rfl rfl rfl rfl ?_
    exact ⟨[[]], ⟨.slice none 0 0, [], (by rw [hno] <;> rfl), rfl, (by rw [hno]; exact Own.nil)⟩, Sat.nilc.2 hS⟩
theorem ref_At (no v : Int) (l : List (List UInt8)) (vl : Value) (Δl : Chunk) (hv : View 1 encS vl l Δl) (hll : l.length ≤ 1000000) :
    FnG Try.prog 37 [.int .i64 no, .int .i64 v, vl] [Δl] (fun u Δs => ∃ v' D, u = .tuple #[v', .bool (atOk no v l)] ∧ Δs = [D] ∧ Own 3 1 encI v' (if atOk no v l then cellsR l.flatten else []) D) := by
  refine FnG.mk fun E F w hS hF => ?_
  have hFl : Δl ∈ F := hF _ (by simp)
  refine returns_enter Try.func37 rfl Try.ntmps37 rfl ?_
  refine cw_seq fun K1 hK1 => ?_
  refine cw_region ?_
  refine wl_op rfl rfl (ow_vr (vr_assign (v := .slice none 0 0) rfl) ?_)
  refine wl_op rfl rfl (ow_vr (vr_assign (v := .bool false) rfl) ?_)
  refine wl_nil ?_
  refine hK1 _ _ ?_
  refine cw_seq fun K2 hK2 => ?_
  refine cw_region ?_
  refine wl_op rfl rfl (ow_vr (vr_move (v := vl) rfl) ?_)
  refine wl_op rfl rfl (ow_fng (vs := [vl]) en_34 rfl hS (ref_Paged l _ _ hv hll) (by repeat (first | exact needs0 | (refine needsC ?_ ?_; · (repeat (first | exact List.mem_cons_self | assumption | refine List.mem_cons_of_mem _ ?_))))) ?_)
  clear hS; rintro v14 _ w ⟨vG, DG, rfl, rfl, hoG⟩ hS; (try simp only [List.cons_append, List.nil_append] at hS)
  refine wl_op rfl rfl (ow_vr (vr_move (v := .tuple _) rfl) ?_)
  refine wl_op rfl rfl (ow_vr (vr_extract (v := .int .i64 _) rfl rfl) ?_)
  refine wl_op rfl rfl (ow_vr (vr_extract (v := .int .i64 _) rfl rfl) ?_)
  refine wl_op rfl rfl (ow_vr (vr_extract (v := vG) rfl rfl) ?_)
  refine wl_op rfl rfl (ow_vr (vr_extract (v := .bool _) rfl rfl) ?_)
  refine wl_op rfl rfl (ow_vr (vr_assign (v := .int .i64 _) rfl) ?_)
  refine wl_op rfl rfl (ow_vr (vr_assign (v := .int .i64 _) rfl) ?_)
  refine wl_op rfl rfl (ow_vr (vr_assign (v := vG) rfl) ?_)
  refine wl_op rfl rfl (ow_vr (vr_assign (v := .bool _) rfl) ?_)
  refine wl_nil ?_
  refine hK2 _ _ ?_
  refine cw_seq fun K3 hK3 => ?_
  refine cw_seq fun K4 hK4 => ?_
  refine cw_region ?_
  refine wl_op rfl rfl (ow_vr (vr_move (v := .bool _) rfl) ?_)
  refine wl_op rfl rfl (ow_vr (vr_not rfl) ?_)
  refine wl_op rfl rfl (ow_vr (vr_move (v := .bool _) rfl) ?_)
  refine wl_split 21 rfl (fun hc => ?_) (fun hc => ?_)
  · (try simp only [decide_eq_true_eq, decide_eq_false_iff_not, Bool.not_eq_true, Bool.not_eq_false, Bool.not_eq_true', Bool.not_eq_false', Bool.and_eq_true, Bool.or_eq_true, Bool.and_eq_false_iff, Bool.or_eq_false_iff, Int.not_lt, Int.not_le, gt_iff_lt, ge_iff_le, ne_eq, Decidable.not_not, beq_iff_eq] at hc)
    have hg := hc; clear hc
    refine wl_noD rfl rfl rfl rfl rfl rfl ?_
    refine wl_noD rfl rfl rfl rfl rfl rfl ?_
    refine wl_noD rfl rfl rfl rfl rfl rfl ?_
    refine wl_op rfl rfl (ow_vr (vr_pick (b := true) (v := .bool _) rfl rfl) ?_)
    refine wl_op rfl rfl (ow_vr (vr_move (v := .bool _) rfl) ?_)
    refine wl_noD rfl rfl rfl rfl rfl rfl ?_
    refine wl_noD rfl rfl rfl rfl rfl rfl ?_
    refine wl_noD rfl rfl rfl rfl rfl rfl ?_
    refine wl_op rfl rfl (ow_vr (vr_pick (b := true) (v := .bool _) rfl rfl) ?_)
    refine wl_nil ?_
    refine hK4 _ _ ?_
    refine cw_cond_t rfl rfl (rfl) ?_
    refine cw_seq fun K5 hK5 => ?_
    have hno : atOk no v l = false := by cases hgo : getOkP l <;> simp_all [atOk]
    replace hS := Sat.nilc.2 hS.tail1
    refine cw_region ?_
    refine wl_op rfl rfl (ow_vr (vr_assign (v := .slice none 0 0) rfl) ?_)
    refine wl_op rfl rfl (ow_vr (vr_assign (v := .bool false) rfl) ?_)
    refine wl_nil ?_
    refine hK5 _ _ ?_
    refine cw_ret ?_
    refine thenF_ret (?_)
    refine ret_two (fn := Try.f37) (n := 32) (t := 6) (u := 7) (.inl rfl) rfl rfl rfl ?_
    exact ⟨[[]], ⟨.slice none 0 0, [], (by rw [hno] <;> rfl), rfl, (by rw [hno]; exact Own.nil)⟩, hS⟩
  · (try simp only [decide_eq_true_eq, decide_eq_false_iff_not, Bool.not_eq_true, Bool.not_eq_false, Bool.not_eq_true', Bool.not_eq_false', Bool.and_eq_true, Bool.or_eq_true, Bool.and_eq_false_iff, Bool.or_eq_false_iff, Int.not_lt, Int.not_le, gt_iff_lt, ge_iff_le, ne_eq, Decidable.not_not, beq_iff_eq] at hc)
    have hg := hc; clear hc
    refine wl_yes rfl rfl rfl rfl rfl (ow_vr (vr_move (v := .int .i64 _) rfl) ?_)
    refine wl_yes rfl rfl rfl rfl rfl (ow_vr (vr_move (v := .int .i64 _) rfl) ?_)
    refine wl_yes rfl rfl rfl rfl rfl (ow_vr (vr_neq rfl rfl) ?_)
    refine wl_op rfl rfl (ow_vr (vr_pick (b := false) (v := .bool _) rfl rfl) ?_)
    refine wl_op rfl rfl (ow_vr (vr_move (v := .bool _) rfl) ?_)
    refine wl_split 26 rfl (fun hc => ?_) (fun hc => ?_)
    · (try simp only [decide_eq_true_eq, decide_eq_false_iff_not, Bool.not_eq_true, Bool.not_eq_false, Bool.not_eq_true', Bool.not_eq_false', Bool.and_eq_true, Bool.or_eq_true, Bool.and_eq_false_iff, Bool.or_eq_false_iff, Int.not_lt, Int.not_le, gt_iff_lt, ge_iff_le, ne_eq, Decidable.not_not, beq_iff_eq] at hc)
      have hg26 := hc; clear hc
      refine wl_noD rfl rfl rfl rfl rfl rfl ?_
      refine wl_noD rfl rfl rfl rfl rfl rfl ?_
      refine wl_noD rfl rfl rfl rfl rfl rfl ?_
      refine wl_op rfl rfl (ow_vr (vr_pick (b := true) (v := .bool _) rfl rfl) ?_)
      refine wl_nil ?_
      refine hK4 _ _ ?_
      refine cw_cond_t rfl rfl (rfl) ?_
      refine cw_seq fun K6 hK6 => ?_
      have hno : atOk no v l = false := by cases hgo : getOkP l <;> simp_all [atOk]
      replace hS := Sat.nilc.2 hS.tail1
      refine cw_region ?_
      refine wl_op rfl rfl (ow_vr (vr_assign (v := .slice none 0 0) rfl) ?_)
      refine wl_op rfl rfl (ow_vr (vr_assign (v := .bool false) rfl) ?_)
      refine wl_nil ?_
      refine hK6 _ _ ?_
      refine cw_ret ?_
      refine thenF_ret (?_)
      refine ret_two (fn := Try.f37) (n := 32) (t := 6) (u := 7) (.inl rfl) rfl rfl rfl ?_
      exact ⟨[[]], ⟨.slice none 0 0, [], (by rw [hno] <;> rfl), rfl, (by rw [hno]; exact Own.nil)⟩, hS⟩
    · (try simp only [decide_eq_true_eq, decide_eq_false_iff_not, Bool.not_eq_true, Bool.not_eq_false, Bool.not_eq_true', Bool.not_eq_false', Bool.and_eq_true, Bool.or_eq_true, Bool.and_eq_false_iff, Bool.or_eq_false_iff, Int.not_lt, Int.not_le, gt_iff_lt, ge_iff_le, ne_eq, Decidable.not_not, beq_iff_eq] at hc)
      have hg26 := hc; clear hc
      refine wl_yes rfl rfl rfl rfl rfl (ow_vr (vr_move (v := .int .i64 _) rfl) ?_)
      refine wl_yes rfl rfl rfl rfl rfl (ow_vr (vr_move (v := .int .i64 _) rfl) ?_)
      refine wl_yes rfl rfl rfl rfl rfl (ow_vr (vr_neq rfl rfl) ?_)
      refine wl_op rfl rfl (ow_vr (vr_pick (b := false) (v := .bool _) rfl rfl) ?_)
      refine wl_nil ?_
      refine hK4 _ _ ?_
      refine cw_cond rfl rfl (fun hc => ?_) (fun hc => ?_)
      · (try simp only [decide_eq_true_eq, decide_eq_false_iff_not, Bool.not_eq_true, Bool.not_eq_false, Bool.not_eq_true', Bool.not_eq_false', Bool.and_eq_true, Bool.or_eq_true, Bool.and_eq_false_iff, Bool.or_eq_false_iff, Int.not_lt, Int.not_le, gt_iff_lt, ge_iff_le, ne_eq, Decidable.not_not, beq_iff_eq] at hc)
        have hc0 := hc; clear hc
        refine cw_seq fun K7 hK7 => ?_
        have hno : atOk no v l = false := by cases hgo : getOkP l <;> simp_all [atOk]
        replace hS := Sat.nilc.2 hS.tail1
        refine cw_region ?_
        refine wl_op rfl rfl (ow_vr (vr_assign (v := .slice none 0 0) rfl) ?_)
        refine wl_op rfl rfl (ow_vr (vr_assign (v := .bool false) rfl) ?_)
        refine wl_nil ?_
        refine hK7 _ _ ?_
        refine cw_ret ?_
        refine thenF_ret (?_)
        refine ret_two (fn := Try.f37) (n := 32) (t := 6) (u := 7) (.inl rfl) rfl rfl rfl ?_
        exact ⟨[[]], ⟨.slice none 0 0, [], (by rw [hno] <;> rfl), rfl, (by rw [hno]; exact Own.nil)⟩, hS⟩
      · (try simp only [decide_eq_true_eq, decide_eq_false_iff_not, Bool.not_eq_true, Bool.not_eq_false, Bool.not_eq_true', Bool.not_eq_false', Bool.and_eq_true, Bool.or_eq_true, Bool.and_eq_false_iff, Bool.or_eq_false_iff, Int.not_lt, Int.not_le, gt_iff_lt, ge_iff_le, ne_eq, Decidable.not_not, beq_iff_eq] at hc)
        have hc0 := hc; clear hc
        refine cw_skip ?_
        refine hK3 _ _ ?_
        refine cw_seq fun K8 hK8 => ?_
        have hgo : getOkP l = true := by simp_all
        have hok : atOk no v l = true := by simp_all [atOk]
        rw [hgo, if_pos rfl] at hoG
        refine cw_region ?_
        refine wl_op rfl rfl (ow_vr (vr_move (v := vG) rfl) ?_)
        refine wl_op rfl rfl (ow_vr (vr_assign (v := vG) rfl) ?_)
        refine wl_op rfl rfl (ow_vr (vr_assign (v := .bool true) rfl) ?_)
        refine wl_nil ?_
        refine hK8 _ _ ?_
        refine cw_ret ?_
        refine ret_two (fn := Try.f37) (n := 32) (t := 6) (u := 7) (.inl rfl) rfl rfl rfl ?_
        exact ⟨[DG], ⟨vG, DG, (by rw [hok] <;> rfl), rfl, (by rw [hok]; exact hoG)⟩, hS⟩
end Go.Proofs.Ytjcagoighpmdkaa
