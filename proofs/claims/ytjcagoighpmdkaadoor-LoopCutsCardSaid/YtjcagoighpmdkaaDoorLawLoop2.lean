/- LoopCuts, LoopAround, LoopElder. -/
import Derived.Test.YtjcagoighpmdkaaDoorLawLoop1
namespace Go.Proofs.YtjcagoighpmdkaaDoor
open Go Go.RowKit
set_option linter.unusedVariables false
set_option linter.unusedSimpArgs false
theorem wfL {f n h x e : Int} (hh : 0 ≤ f ∧ f ≤ 3000 ∧ 1 ≤ n ∧ n ≤ 3000 ∧ 0 ≤ h ∧ h ≤ x ∧ x - h ≤ n ∧ x ≤ 1000000000000) : WfL ⟨f, n, h, x, e⟩ := ⟨hh.1, hh.2.1, hh.2.2.1, hh.2.2.2.1, hh.2.2.2.2.1, hh.2.2.2.2.2.1, hh.2.2.2.2.2.2.1, hh.2.2.2.2.2.2.2⟩
/-- Which groups may be. -/
theorem group_right {lsn ep : Int} {c : List (Int × Int)} (h0 : 0 ≤ lsn) (h1 : lsn + c.length < 4294967296) (h2 : 0 ≤ ep) (h3 : ep < 4294967296) : (groupL lsn ep c).all rightE = true ↔ ∀ x ∈ c, okN x.1 = true ∧ okN x.2 = true := by
  constructor
  · intro h x hx
    obtain ⟨j, hj⟩ := List.getElem?_of_mem hx
    have := List.all_eq_true.1 h _ (List.mem_of_getElem? (groupL_get lsn ep c hj))
    simp [rightE] at this
    exact ⟨this.2.2.1, this.2.2.2⟩
  · intro h
    rw [List.all_eq_true]
    intro e he
    obtain ⟨j, hj⟩ := List.getElem?_of_mem he
    have hl := lt_get hj
    rw [groupL_length] at hl
    rcases Nat.lt_or_ge j c.length with h4 | h4
    · obtain ⟨x, hx⟩ := get_lt h4
      rw [groupL_get lsn ep c hx] at hj
      cases hj
      have := h x (List.mem_of_getElem? hx)
      simp only [rightE, List.all_cons, List.all_nil, this.1, this.2, Bool.and_true]
      simp [okN]; omega
    · obtain rfl : j = c.length := by omega
      rw [groupL_end] at hj
      cases hj
      simp [rightE, okN]; omega
attribute [local irreducible] actF WL CW OW PL SW VR LR yes Returns Fn
theorem loop_cuts (a b : Int) (c : List (Int × Int)) (v : Value) (Δc G : Chunk) (hv : View 2 encC v c Δc) (hG : Glob G) (hn : c.length ≤ 9223372036854775807) :
    FnG Tryd.prog 6 [.int .i64 a, .int .i64 b, v] [Δc, G] (fun u Δs => u = .bool true ∧ Δs = []) := by
  refine FnG.mk fun E F w hS hF => ?_
  have hFc : Δc ∈ F := hF _ (by simp)
  have hFg : G ∈ F := hF _ (by simp)
  refine returns_enter Tryd.func6 rfl Tryd.ntmps6 rfl ?_
  refine cw_seq fun K1 hK1 => ?_
  refine cw_region ?_
  refine wl_op rfl rfl (ow_vr (vr_assign (v := .bool false) rfl) ?_)
  refine wl_nil ?_
  refine hK1 _ _ ?_
  refine cw_seq fun K2 hK2 => ?_
  refine cw_seq fun K3 hK3 => ?_
  refine cw_region ?_
  refine wl_op rfl rfl (ow_vr (vr_move (v := .int .i64 _) rfl) ?_)
  refine wl_op rfl rfl (ow_vr (vr_lss rfl rfl) ?_)
  refine wl_op rfl rfl (ow_vr (vr_move (v := .bool _) rfl) ?_)
  refine wl_split 12 rfl (fun hc => ?_) (fun hc => ?_)
  · (try simp only [decide_eq_true_eq, decide_eq_false_iff_not, Bool.not_eq_true, Bool.not_eq_false, Bool.not_eq_true', Bool.not_eq_false', Bool.and_eq_true, Bool.or_eq_true, Bool.and_eq_false_iff, Bool.or_eq_false_iff, Int.not_lt, Int.not_le, gt_iff_lt, ge_iff_le, ne_eq, Decidable.not_not, beq_iff_eq] at hc)
    have hg12 := hc; clear hc
    refine wl_noD rfl rfl rfl rfl rfl rfl ?_
    refine wl_noD rfl rfl rfl rfl rfl rfl ?_
    refine wl_op rfl rfl (ow_vr (vr_pick (b := true) (v := .bool _) rfl rfl) ?_)
    refine wl_op rfl rfl (ow_vr (vr_move (v := .bool _) rfl) ?_)
    refine wl_noD rfl rfl rfl rfl rfl rfl ?_
    refine wl_noD rfl rfl rfl rfl rfl rfl ?_
    refine wl_op rfl rfl (ow_vr (vr_pick (b := true) (v := .bool _) rfl rfl) ?_)
    refine wl_op rfl rfl (ow_vr (vr_move (v := .bool _) rfl) ?_)
    refine wl_noD rfl rfl rfl rfl rfl rfl ?_
    refine wl_noD rfl rfl rfl rfl rfl rfl ?_
    refine wl_op rfl rfl (ow_vr (vr_pick (b := true) (v := .bool _) rfl rfl) ?_)
    refine wl_op rfl rfl (ow_vr (vr_move (v := .bool _) rfl) ?_)
    refine wl_noD rfl rfl rfl rfl rfl rfl ?_
    refine wl_noD rfl rfl rfl rfl rfl rfl ?_
    refine wl_noD rfl rfl rfl rfl rfl rfl ?_
    refine wl_op rfl rfl (ow_vr (vr_pick (b := true) (v := .bool _) rfl rfl) ?_)
    refine wl_op rfl rfl (ow_vr (vr_move (v := .bool _) rfl) ?_)
    refine wl_noD rfl rfl rfl rfl rfl rfl ?_
    refine wl_noD rfl rfl rfl rfl rfl rfl ?_
    refine wl_op rfl rfl (ow_vr (vr_pick (b := true) (v := .bool _) rfl rfl) ?_)
    refine wl_nil ?_
    refine hK3 _ _ ?_
    refine cw_cond_t rfl rfl (rfl) ?_
    refine cw_seq fun K4 hK4 => ?_
    refine cw_region ?_
    refine wl_op rfl rfl (ow_fng (vs := []) en_7 rfl hS (alive7 hG) (by repeat (first | exact needs0 | (refine needsC ?_ ?_; · (repeat (first | exact List.mem_cons_self | assumption | refine List.mem_cons_of_mem _ ?_))))) ?_)
    clear hS; rintro v33 _ w ⟨rfl, rfl⟩ hS; (try simp only [List.cons_append, List.nil_append] at hS)
    refine wl_op rfl rfl (ow_vr (vr_assign (v := .bool _) rfl) ?_)
    refine wl_nil ?_
    refine hK4 _ _ ?_
    refine cw_ret ?_
    refine thenF_ret (?_)
    refine ret_one (fn := Tryd.f6) (n := 92) (t := 6) (.inl rfl) rfl rfl ?_
    exact ⟨[], ⟨rfl, rfl⟩, hS⟩
  · (try simp only [decide_eq_true_eq, decide_eq_false_iff_not, Bool.not_eq_true, Bool.not_eq_false, Bool.not_eq_true', Bool.not_eq_false', Bool.and_eq_true, Bool.or_eq_true, Bool.and_eq_false_iff, Bool.or_eq_false_iff, Int.not_lt, Int.not_le, gt_iff_lt, ge_iff_le, ne_eq, Decidable.not_not, beq_iff_eq] at hc)
    have hg12 := hc; clear hc
    refine wl_yes rfl rfl rfl rfl rfl (ow_vr (vr_move (v := .int .i64 _) rfl) ?_)
    refine wl_yes rfl rfl rfl rfl rfl (ow_vr (vr_geq rfl rfl) ?_)
    refine wl_op rfl rfl (ow_vr (vr_pick (b := false) (v := .bool _) rfl rfl) ?_)
    refine wl_op rfl rfl (ow_vr (vr_move (v := .bool _) rfl) ?_)
    refine wl_split 16 rfl (fun hc => ?_) (fun hc => ?_)
    · (try simp only [decide_eq_true_eq, decide_eq_false_iff_not, Bool.not_eq_true, Bool.not_eq_false, Bool.not_eq_true', Bool.not_eq_false', Bool.and_eq_true, Bool.or_eq_true, Bool.and_eq_false_iff, Bool.or_eq_false_iff, Int.not_lt, Int.not_le, gt_iff_lt, ge_iff_le, ne_eq, Decidable.not_not, beq_iff_eq] at hc)
      have hg16 := hc; clear hc
      refine wl_noD rfl rfl rfl rfl rfl rfl ?_
      refine wl_noD rfl rfl rfl rfl rfl rfl ?_
      refine wl_op rfl rfl (ow_vr (vr_pick (b := true) (v := .bool _) rfl rfl) ?_)
      refine wl_op rfl rfl (ow_vr (vr_move (v := .bool _) rfl) ?_)
      refine wl_noD rfl rfl rfl rfl rfl rfl ?_
      refine wl_noD rfl rfl rfl rfl rfl rfl ?_
      refine wl_op rfl rfl (ow_vr (vr_pick (b := true) (v := .bool _) rfl rfl) ?_)
      refine wl_op rfl rfl (ow_vr (vr_move (v := .bool _) rfl) ?_)
      refine wl_noD rfl rfl rfl rfl rfl rfl ?_
      refine wl_noD rfl rfl rfl rfl rfl rfl ?_
      refine wl_noD rfl rfl rfl rfl rfl rfl ?_
      refine wl_op rfl rfl (ow_vr (vr_pick (b := true) (v := .bool _) rfl rfl) ?_)
      refine wl_op rfl rfl (ow_vr (vr_move (v := .bool _) rfl) ?_)
      refine wl_noD rfl rfl rfl rfl rfl rfl ?_
      refine wl_noD rfl rfl rfl rfl rfl rfl ?_
      refine wl_op rfl rfl (ow_vr (vr_pick (b := true) (v := .bool _) rfl rfl) ?_)
      refine wl_nil ?_
      refine hK3 _ _ ?_
      refine cw_cond_t rfl rfl (rfl) ?_
      refine cw_seq fun K5 hK5 => ?_
      refine cw_region ?_
      refine wl_op rfl rfl (ow_fng (vs := []) en_7 rfl hS (alive7 hG) (by repeat (first | exact needs0 | (refine needsC ?_ ?_; · (repeat (first | exact List.mem_cons_self | assumption | refine List.mem_cons_of_mem _ ?_))))) ?_)
      clear hS; rintro v33 _ w ⟨rfl, rfl⟩ hS; (try simp only [List.cons_append, List.nil_append] at hS)
      refine wl_op rfl rfl (ow_vr (vr_assign (v := .bool _) rfl) ?_)
      refine wl_nil ?_
      refine hK5 _ _ ?_
      refine cw_ret ?_
      refine thenF_ret (?_)
      refine ret_one (fn := Tryd.f6) (n := 92) (t := 6) (.inl rfl) rfl rfl ?_
      exact ⟨[], ⟨rfl, rfl⟩, hS⟩
    · (try simp only [decide_eq_true_eq, decide_eq_false_iff_not, Bool.not_eq_true, Bool.not_eq_false, Bool.not_eq_true', Bool.not_eq_false', Bool.and_eq_true, Bool.or_eq_true, Bool.and_eq_false_iff, Bool.or_eq_false_iff, Int.not_lt, Int.not_le, gt_iff_lt, ge_iff_le, ne_eq, Decidable.not_not, beq_iff_eq] at hc)
      have hg16 := hc; clear hc
      refine wl_yes rfl rfl rfl rfl rfl (ow_vr (vr_move (v := .int .i64 _) rfl) ?_)
      refine wl_yes rfl rfl rfl rfl rfl (ow_vr (vr_lss rfl rfl) ?_)
      refine wl_op rfl rfl (ow_vr (vr_pick (b := false) (v := .bool _) rfl rfl) ?_)
      refine wl_op rfl rfl (ow_vr (vr_move (v := .bool _) rfl) ?_)
      refine wl_split 20 rfl (fun hc => ?_) (fun hc => ?_)
      · (try simp only [decide_eq_true_eq, decide_eq_false_iff_not, Bool.not_eq_true, Bool.not_eq_false, Bool.not_eq_true', Bool.not_eq_false', Bool.and_eq_true, Bool.or_eq_true, Bool.and_eq_false_iff, Bool.or_eq_false_iff, Int.not_lt, Int.not_le, gt_iff_lt, ge_iff_le, ne_eq, Decidable.not_not, beq_iff_eq] at hc)
        have hg20 := hc; clear hc
        refine wl_noD rfl rfl rfl rfl rfl rfl ?_
        refine wl_noD rfl rfl rfl rfl rfl rfl ?_
        refine wl_op rfl rfl (ow_vr (vr_pick (b := true) (v := .bool _) rfl rfl) ?_)
        refine wl_op rfl rfl (ow_vr (vr_move (v := .bool _) rfl) ?_)
        refine wl_noD rfl rfl rfl rfl rfl rfl ?_
        refine wl_noD rfl rfl rfl rfl rfl rfl ?_
        refine wl_noD rfl rfl rfl rfl rfl rfl ?_
        refine wl_op rfl rfl (ow_vr (vr_pick (b := true) (v := .bool _) rfl rfl) ?_)
        refine wl_op rfl rfl (ow_vr (vr_move (v := .bool _) rfl) ?_)
        refine wl_noD rfl rfl rfl rfl rfl rfl ?_
        refine wl_noD rfl rfl rfl rfl rfl rfl ?_
        refine wl_op rfl rfl (ow_vr (vr_pick (b := true) (v := .bool _) rfl rfl) ?_)
        refine wl_nil ?_
        refine hK3 _ _ ?_
        refine cw_cond_t rfl rfl (rfl) ?_
        refine cw_seq fun K6 hK6 => ?_
        refine cw_region ?_
        refine wl_op rfl rfl (ow_fng (vs := []) en_7 rfl hS (alive7 hG) (by repeat (first | exact needs0 | (refine needsC ?_ ?_; · (repeat (first | exact List.mem_cons_self | assumption | refine List.mem_cons_of_mem _ ?_))))) ?_)
        clear hS; rintro v33 _ w ⟨rfl, rfl⟩ hS; (try simp only [List.cons_append, List.nil_append] at hS)
        refine wl_op rfl rfl (ow_vr (vr_assign (v := .bool _) rfl) ?_)
        refine wl_nil ?_
        refine hK6 _ _ ?_
        refine cw_ret ?_
        refine thenF_ret (?_)
        refine ret_one (fn := Tryd.f6) (n := 92) (t := 6) (.inl rfl) rfl rfl ?_
        exact ⟨[], ⟨rfl, rfl⟩, hS⟩
      · (try simp only [decide_eq_true_eq, decide_eq_false_iff_not, Bool.not_eq_true, Bool.not_eq_false, Bool.not_eq_true', Bool.not_eq_false', Bool.and_eq_true, Bool.or_eq_true, Bool.and_eq_false_iff, Bool.or_eq_false_iff, Int.not_lt, Int.not_le, gt_iff_lt, ge_iff_le, ne_eq, Decidable.not_not, beq_iff_eq] at hc)
        have hg20 := hc; clear hc
        refine wl_yes rfl rfl rfl rfl rfl (ow_vr (vr_move (v := .int .i64 _) rfl) ?_)
        refine wl_yes rfl rfl rfl rfl rfl (ow_vr (vr_gtr rfl rfl) ?_)
        refine wl_op rfl rfl (ow_vr (vr_pick (b := false) (v := .bool _) rfl rfl) ?_)
        refine wl_op rfl rfl (ow_vr (vr_move (v := .bool _) rfl) ?_)
        refine wl_split 24 rfl (fun hc => ?_) (fun hc => ?_)
        · (try simp only [decide_eq_true_eq, decide_eq_false_iff_not, Bool.not_eq_true, Bool.not_eq_false, Bool.not_eq_true', Bool.not_eq_false', Bool.and_eq_true, Bool.or_eq_true, Bool.and_eq_false_iff, Bool.or_eq_false_iff, Int.not_lt, Int.not_le, gt_iff_lt, ge_iff_le, ne_eq, Decidable.not_not, beq_iff_eq] at hc)
          have hg24 := hc; clear hc
          refine wl_noD rfl rfl rfl rfl rfl rfl ?_
          refine wl_noD rfl rfl rfl rfl rfl rfl ?_
          refine wl_noD rfl rfl rfl rfl rfl rfl ?_
          refine wl_op rfl rfl (ow_vr (vr_pick (b := true) (v := .bool _) rfl rfl) ?_)
          refine wl_op rfl rfl (ow_vr (vr_move (v := .bool _) rfl) ?_)
          refine wl_noD rfl rfl rfl rfl rfl rfl ?_
          refine wl_noD rfl rfl rfl rfl rfl rfl ?_
          refine wl_op rfl rfl (ow_vr (vr_pick (b := true) (v := .bool _) rfl rfl) ?_)
          refine wl_nil ?_
          refine hK3 _ _ ?_
          refine cw_cond_t rfl rfl (rfl) ?_
          refine cw_seq fun K7 hK7 => ?_
          refine cw_region ?_
          refine wl_op rfl rfl (ow_fng (vs := []) en_7 rfl hS (alive7 hG) (by repeat (first | exact needs0 | (refine needsC ?_ ?_; · (repeat (first | exact List.mem_cons_self | assumption | refine List.mem_cons_of_mem _ ?_))))) ?_)
          clear hS; rintro v33 _ w ⟨rfl, rfl⟩ hS; (try simp only [List.cons_append, List.nil_append] at hS)
          refine wl_op rfl rfl (ow_vr (vr_assign (v := .bool _) rfl) ?_)
          refine wl_nil ?_
          refine hK7 _ _ ?_
          refine cw_ret ?_
          refine thenF_ret (?_)
          refine ret_one (fn := Tryd.f6) (n := 92) (t := 6) (.inl rfl) rfl rfl ?_
          exact ⟨[], ⟨rfl, rfl⟩, hS⟩
        · (try simp only [decide_eq_true_eq, decide_eq_false_iff_not, Bool.not_eq_true, Bool.not_eq_false, Bool.not_eq_true', Bool.not_eq_false', Bool.and_eq_true, Bool.or_eq_true, Bool.and_eq_false_iff, Bool.or_eq_false_iff, Int.not_lt, Int.not_le, gt_iff_lt, ge_iff_le, ne_eq, Decidable.not_not, beq_iff_eq] at hc)
          have hg24 := hc; clear hc
          refine wl_yes rfl rfl rfl rfl rfl (ow_vr (vr_move (v := v) rfl) ?_)
          refine wl_yes rfl rfl rfl rfl rfl (ow_vr (vr_len_v (v := v) Tryd.underlying27 rfl hv) ?_)
          refine wl_yes rfl rfl rfl rfl rfl (ow_vr (vr_gtr rfl rfl) ?_)
          refine wl_op rfl rfl (ow_vr (vr_pick (b := false) (v := .bool _) rfl rfl) ?_)
          refine wl_op rfl rfl (ow_vr (vr_move (v := .bool _) rfl) ?_)
          refine wl_split 29 rfl (fun hc => ?_) (fun hc => ?_)
          · (try simp only [decide_eq_true_eq, decide_eq_false_iff_not, Bool.not_eq_true, Bool.not_eq_false, Bool.not_eq_true', Bool.not_eq_false', Bool.and_eq_true, Bool.or_eq_true, Bool.and_eq_false_iff, Bool.or_eq_false_iff, Int.not_lt, Int.not_le, gt_iff_lt, ge_iff_le, ne_eq, Decidable.not_not, beq_iff_eq] at hc)
            have hg29 := hc; clear hc
            refine wl_noD rfl rfl rfl rfl rfl rfl ?_
            refine wl_noD rfl rfl rfl rfl rfl rfl ?_
            refine wl_op rfl rfl (ow_vr (vr_pick (b := true) (v := .bool _) rfl rfl) ?_)
            refine wl_nil ?_
            refine hK3 _ _ ?_
            refine cw_cond_t rfl rfl (rfl) ?_
            refine cw_seq fun K8 hK8 => ?_
            refine cw_region ?_
            refine wl_op rfl rfl (ow_fng (vs := []) en_7 rfl hS (alive7 hG) (by repeat (first | exact needs0 | (refine needsC ?_ ?_; · (repeat (first | exact List.mem_cons_self | assumption | refine List.mem_cons_of_mem _ ?_))))) ?_)
            clear hS; rintro v33 _ w ⟨rfl, rfl⟩ hS; (try simp only [List.cons_append, List.nil_append] at hS)
            refine wl_op rfl rfl (ow_vr (vr_assign (v := .bool _) rfl) ?_)
            refine wl_nil ?_
            refine hK8 _ _ ?_
            refine cw_ret ?_
            refine thenF_ret (?_)
            refine ret_one (fn := Tryd.f6) (n := 92) (t := 6) (.inl rfl) rfl rfl ?_
            exact ⟨[], ⟨rfl, rfl⟩, hS⟩
          · (try simp only [decide_eq_true_eq, decide_eq_false_iff_not, Bool.not_eq_true, Bool.not_eq_false, Bool.not_eq_true', Bool.not_eq_false', Bool.and_eq_true, Bool.or_eq_true, Bool.and_eq_false_iff, Bool.or_eq_false_iff, Int.not_lt, Int.not_le, gt_iff_lt, ge_iff_le, ne_eq, Decidable.not_not, beq_iff_eq] at hc)
            have hg29 := hc; clear hc
            refine wl_yes rfl rfl rfl rfl rfl (ow_fng (vs := []) en_7 rfl hS (alive7 hG) (by repeat (first | exact needs0 | (refine needsC ?_ ?_; · (repeat (first | exact List.mem_cons_self | assumption | refine List.mem_cons_of_mem _ ?_))))) ?_)
            clear hS; rintro v30 _ w ⟨rfl, rfl⟩ hS; (try simp only [List.cons_append, List.nil_append] at hS)
            refine wl_yes rfl rfl rfl rfl rfl (ow_vr (vr_not rfl) ?_)
            refine wl_op rfl rfl (ow_vr (vr_pick (b := false) (v := .bool _) rfl rfl) ?_)
            refine wl_nil ?_
            refine hK3 _ _ ?_
            refine cw_cond rfl rfl (fun hc => ?_) (fun hc => ?_)
            · (try simp only [decide_eq_true_eq, decide_eq_false_iff_not, Bool.not_eq_true, Bool.not_eq_false, Bool.not_eq_true', Bool.not_eq_false', Bool.and_eq_true, Bool.or_eq_true, Bool.and_eq_false_iff, Bool.or_eq_false_iff, Int.not_lt, Int.not_le, gt_iff_lt, ge_iff_le, ne_eq, Decidable.not_not, beq_iff_eq] at hc)
              have hc0 := hc; clear hc
              refine cw_seq fun K9 hK9 => ?_
              refine cw_region ?_
              refine wl_op rfl rfl (ow_fng (vs := []) en_7 rfl hS (alive7 hG) (by repeat (first | exact needs0 | (refine needsC ?_ ?_; · (repeat (first | exact List.mem_cons_self | assumption | refine List.mem_cons_of_mem _ ?_))))) ?_)
              clear hS; rintro v33 _ w ⟨rfl, rfl⟩ hS; (try simp only [List.cons_append, List.nil_append] at hS)
              refine wl_op rfl rfl (ow_vr (vr_assign (v := .bool _) rfl) ?_)
              refine wl_nil ?_
              refine hK9 _ _ ?_
              refine cw_ret ?_
              refine thenF_ret (?_)
              refine ret_one (fn := Tryd.f6) (n := 92) (t := 6) (.inl rfl) rfl rfl ?_
              exact ⟨[], ⟨rfl, rfl⟩, hS⟩
            · (try simp only [decide_eq_true_eq, decide_eq_false_iff_not, Bool.not_eq_true, Bool.not_eq_false, Bool.not_eq_true', Bool.not_eq_false', Bool.and_eq_true, Bool.or_eq_true, Bool.and_eq_false_iff, Bool.or_eq_false_iff, Int.not_lt, Int.not_le, gt_iff_lt, ge_iff_le, ne_eq, Decidable.not_not, beq_iff_eq] at hc)
              have hc0 := hc; clear hc
              refine cw_skip ?_
              refine hK2 _ _ ?_
              refine cw_seq fun K10 hK10 => ?_
              refine cw_region ?_
              refine wl_op rfl rfl (ow_fn (vs := [.int .i64 _]) en_8 rfl hS (disk_New' (n := 20) (by omega) (by omega)) ?_)
              clear hS; rintro v34 _ w ⟨p, Δ0, rfl, rfl, hd0⟩ hS; (try simp only [List.cons_append, List.nil_append] at hS)
              refine wl_op rfl rfl (ow_vr (vr_assign (v := .pointer _) rfl) ?_)
              refine wl_nil ?_
              refine hK10 _ _ ?_
              refine cw_seq fun K11 hK11 => ?_
              have hc := Calm.new (n := 20) (by omega) (by omega)
              have hw : WfL ⟨0, 20, 5, 5, a⟩ := wfL (by omega)
              have hI := LogI.new (n := 20) hw (by decide)
              refine cw_region ?_
              refine wl_op rfl rfl (ow_vr (vr_move (v := .pointer _) rfl) ?_)
              refine wl_op rfl rfl (ow_vr (vr_move (v := .int .i64 _) rfl) ?_)
              refine wl_op rfl rfl (ow_fn (vs := [.pointer _, .int .i64 _, .int .i64 _, .int .i64 _, .int .i64 _, .int .i64 _]) en_9 rfl hS (loop_NewT hd0 hc.wf ⟨0, 20, 5, 5, a⟩ (by simp [mayL, newD]; omega)) ?_)
              clear hS; rintro v37 _ w ⟨q, rfl, rfl⟩ hS; (try simp only [List.cons_append, List.nil_append] at hS)
              refine wl_op rfl rfl (ow_vr (vr_assign (v := .pointer _) rfl) ?_)
              refine wl_nil ?_
              refine hK11 _ _ ?_
              refine cw_seq fun K12 hK12 => ?_
              refine cw_seq fun K13 hK13 => ?_
              refine cw_region ?_
              refine wl_op rfl rfl (ow_vr (vr_move (v := .pointer _) rfl) ?_)
              refine wl_op rfl rfl (ow_vr (vr_eqnil Tryd.underlying25 rfl) ?_)
              refine wl_nil ?_
              refine hK13 _ _ ?_
              refine cw_cond_f rfl rfl (rfl) ?_
              refine cw_skip ?_
              refine hK12 _ _ ?_
              refine cw_seq fun K14 hK14 => ?_
              refine cw_seq fun K15 hK15 => ?_
              refine cw_region ?_
              refine wl_op rfl rfl (ow_vr (vr_move (v := .pointer _) rfl) ?_)
              refine wl_op rfl rfl (ow_vr (vr_move (v := v) rfl) ?_)
              refine wl_op rfl rfl (ow_fnm (vs := [.pointer _, v]) en_12 rfl hS (loop_Append hd0 hc.wf q ⟨0, 20, 5, 5, a⟩ hw c v Δc G hv hG (by omega)) (by repeat (first | exact needs0 | (refine needsC ?_ ?_; · (repeat (first | exact List.mem_cons_self | assumption | refine List.mem_cons_of_mem _ ?_))))) ?_)
              clear hS; rintro v42 _ w ⟨rfl, Δ1, rfl, hd1⟩ hS; (try simp only [List.cons_append, List.nil_append] at hS)
              refine wl_op rfl rfl (ow_vr (vr_neq rfl rfl) ?_)
              refine wl_nil ?_
              refine hK15 _ _ ?_
              refine cw_cond rfl rfl (fun hc => ?_) (fun hc => ?_)
              · (try simp only [decide_eq_true_eq, decide_eq_false_iff_not, Bool.not_eq_true, Bool.not_eq_false, Bool.not_eq_true', Bool.not_eq_false', Bool.and_eq_true, Bool.or_eq_true, Bool.and_eq_false_iff, Bool.or_eq_false_iff, Int.not_lt, Int.not_le, gt_iff_lt, ge_iff_le, ne_eq, Decidable.not_not, beq_iff_eq] at hc)
                have happ := hc; clear hc
                refine cw_seq fun K16 hK16 => ?_
                refine cw_region ?_
                refine wl_op rfl rfl (ow_vr (vr_assign (v := .bool true) rfl) ?_)
                refine wl_nil ?_
                refine hK16 _ _ ?_
                refine cw_ret ?_
                refine thenF_ret (?_)
                refine ret_one (fn := Tryd.f6) (n := 92) (t := 6) (.inl rfl) rfl rfl ?_
                exact ⟨[], ⟨rfl, rfl⟩, hS.tail1.tail1⟩
              · (try simp only [decide_eq_true_eq, decide_eq_false_iff_not, Bool.not_eq_true, Bool.not_eq_false, Bool.not_eq_true', Bool.not_eq_false', Bool.and_eq_true, Bool.or_eq_true, Bool.and_eq_false_iff, Bool.or_eq_false_iff, Int.not_lt, Int.not_le, gt_iff_lt, ge_iff_le, ne_eq, Decidable.not_not, beq_iff_eq] at hc)
                have happ := hc; clear hc
                refine cw_skip ?_
                refine hK14 _ _ ?_
                refine cw_seq fun K17 hK17 => ?_
                have hgl := groupL_length 5 a c
                have hrr : (groupL 5 a c).all rightE = true ∧ ((groupL 5 a c).length : Int) ≤ 20 - (5 - 5) := by
                  by_cases hh : (groupL 5 a c).all rightE = true ∧ ((groupL 5 a c).length : Int) ≤ 20 - (5 - 5)
                  · exact hh
                  · exact absurd happ (append_no hI hh).1
                obtain ⟨a1, a2, a3, a4, a5⟩ := append_calm hI hc hrr.1 hrr.2 (by simp only; omega)
                rw [a2] at hS
                obtain ⟨x, hx⟩ : ∃ x : Int, 5 + ((groupL 5 a c).length : Int) = x := ⟨_, rfl⟩
                have hx2 : x = 6 + c.length := by omega
                simp only [hx] at hS a3
                refine cw_region ?_
                refine wl_op rfl rfl (ow_vr (vr_move (v := .pointer _) rfl) ?_)
                refine wl_op rfl rfl (ow_fn (vs := [.pointer _]) en_16 rfl hS (loop_Room q p ⟨0, 20, 5, x, a⟩ a3.wf) ?_)
                clear hS; rintro v45 _ w ⟨rfl, rfl⟩ hS; (try simp only [List.cons_append, List.nil_append] at hS)
                refine wl_op rfl rfl (ow_vr (vr_assign (v := .int .i64 _) rfl) ?_)
                refine wl_nil ?_
                refine hK17 _ _ ?_
                refine cw_seq fun K18 hK18 => ?_
                refine cw_seq fun K19 hK19 => ?_
                refine cw_region ?_
                refine wl_op rfl rfl (ow_vr (vr_move (v := .int .i64 _) rfl) ?_)
                refine wl_op rfl rfl (ow_vr (vr_move (v := .int .i64 _) rfl) ?_)
                refine wl_op rfl rfl (ow_vr (vr_leq rfl rfl) ?_)
                refine wl_op rfl rfl (ow_vr (vr_move (v := .bool _) rfl) ?_)
                refine wl_split 49 rfl (fun hc => ?_) (fun hc => ?_)
                · (try simp only [decide_eq_true_eq, decide_eq_false_iff_not, Bool.not_eq_true, Bool.not_eq_false, Bool.not_eq_true', Bool.not_eq_false', Bool.and_eq_true, Bool.or_eq_true, Bool.and_eq_false_iff, Bool.or_eq_false_iff, Int.not_lt, Int.not_le, gt_iff_lt, ge_iff_le, ne_eq, Decidable.not_not, beq_iff_eq] at hc)
                  have hg49 := hc; clear hc
                  refine wl_noD rfl rfl rfl rfl rfl rfl ?_
                  refine wl_noD rfl rfl rfl rfl rfl rfl ?_
                  refine wl_op rfl rfl (ow_vr (vr_pick (b := true) (v := .bool _) rfl rfl) ?_)
                  refine wl_nil ?_
                  refine hK19 _ _ ?_
                  refine cw_cond_t rfl rfl (rfl) ?_
                  refine cw_seq fun K20 hK20 => ?_
                  have hC := loop_Cut q p ⟨0, 20, 5, x, a⟩ b
                  have hce : cutL ⟨0, 20, 5, x, a⟩ b = (1, ⟨0, 20, 5, x, a⟩) := by rw [cutL, if_pos (by simp only; omega)]
                  rw [hce] at hC
                  refine cw_region ?_
                  refine wl_op rfl rfl (ow_vr (vr_move (v := .pointer _) rfl) ?_)
                  refine wl_op rfl rfl (ow_vr (vr_move (v := .int .i64 _) rfl) ?_)
                  refine wl_op rfl rfl (ow_fn (vs := [.pointer _, .int .i64 _]) en_11 rfl hS (hC) ?_)
                  clear hS; rintro v55 _ w ⟨rfl, rfl⟩ hS; (try simp only [List.cons_append, List.nil_append] at hS)
                  refine wl_op rfl rfl (ow_vr (vr_eql rfl rfl) ?_)
                  refine wl_op rfl rfl (ow_vr (vr_move (v := .bool _) rfl) ?_)
                  refine wl_known 57 rfl (c := true) (rfl) ?_
                  refine wl_yes rfl rfl rfl rfl rfl (ow_vr (vr_move (v := .pointer _) rfl) ?_)
                  refine wl_yes rfl rfl rfl rfl rfl (ow_fn (vs := [.pointer _]) en_16 rfl hS (loop_Room q p ⟨0, 20, 5, x, a⟩ a3.wf) ?_)
                  clear hS; rintro v59 _ w ⟨rfl, rfl⟩ hS; (try simp only [List.cons_append, List.nil_append] at hS)
                  refine wl_yes rfl rfl rfl rfl rfl (ow_vr (vr_move (v := .int .i64 _) rfl) ?_)
                  refine wl_yes rfl rfl rfl rfl rfl (ow_vr (vr_eql rfl rfl) ?_)
                  refine wl_op rfl rfl (ow_vr (vr_pick (b := true) (v := .bool _) rfl rfl) ?_)
                  refine wl_op rfl rfl (ow_vr (vr_move (v := .bool _) rfl) ?_)
                  refine wl_known 63 rfl (c := true) (by simp) ?_
                  refine wl_yes rfl rfl rfl rfl rfl (ow_vr (vr_move (v := .pointer _) rfl) ?_)
                  refine wl_yes rfl rfl rfl rfl rfl (ow_fn (vs := [.pointer _]) en_13 rfl hS (loop_Head q p _) ?_)
                  clear hS; rintro v65 _ w ⟨rfl, rfl⟩ hS; (try simp only [List.cons_append, List.nil_append] at hS)
                  refine wl_yes rfl rfl rfl rfl rfl (ow_vr (vr_eql rfl rfl) ?_)
                  refine wl_op rfl rfl (ow_vr (vr_pick (b := true) (v := .bool _) rfl rfl) ?_)
                  refine wl_op rfl rfl (ow_vr (vr_assign (v := .bool _) rfl) ?_)
                  refine wl_nil ?_
                  refine hK20 _ _ ?_
                  refine cw_ret ?_
                  refine thenF_ret (?_)
                  refine ret_one (fn := Tryd.f6) (n := 92) (t := 6) (.inl rfl) rfl rfl ?_
                  exact ⟨[], ⟨rfl, rfl⟩, hS.tail1.tail1⟩
                · (try simp only [decide_eq_true_eq, decide_eq_false_iff_not, Bool.not_eq_true, Bool.not_eq_false, Bool.not_eq_true', Bool.not_eq_false', Bool.and_eq_true, Bool.or_eq_true, Bool.and_eq_false_iff, Bool.or_eq_false_iff, Int.not_lt, Int.not_le, gt_iff_lt, ge_iff_le, ne_eq, Decidable.not_not, beq_iff_eq] at hc)
                  have hg49 := hc; clear hc
                  refine wl_yes rfl rfl rfl rfl rfl (ow_vr (vr_move (v := .int .i64 _) rfl) ?_)
                  refine wl_yes rfl rfl rfl rfl rfl (ow_vr (vr_geq rfl rfl) ?_)
                  refine wl_op rfl rfl (ow_vr (vr_pick (b := false) (v := .bool _) rfl rfl) ?_)
                  refine wl_nil ?_
                  refine hK19 _ _ ?_
                  refine cw_cond rfl rfl (fun hc => ?_) (fun hc => ?_)
                  · (try simp only [decide_eq_true_eq, decide_eq_false_iff_not, Bool.not_eq_true, Bool.not_eq_false, Bool.not_eq_true', Bool.not_eq_false', Bool.and_eq_true, Bool.or_eq_true, Bool.and_eq_false_iff, Bool.or_eq_false_iff, Int.not_lt, Int.not_le, gt_iff_lt, ge_iff_le, ne_eq, Decidable.not_not, beq_iff_eq] at hc)
                    have hc3 := hc; clear hc
                    refine cw_seq fun K21 hK21 => ?_
                    have hC := loop_Cut q p ⟨0, 20, 5, x, a⟩ b
                    have hce : cutL ⟨0, 20, 5, x, a⟩ b = (1, ⟨0, 20, 5, x, a⟩) := by rw [cutL, if_pos (by simp only; omega)]
                    rw [hce] at hC
                    refine cw_region ?_
                    refine wl_op rfl rfl (ow_vr (vr_move (v := .pointer _) rfl) ?_)
                    refine wl_op rfl rfl (ow_vr (vr_move (v := .int .i64 _) rfl) ?_)
                    refine wl_op rfl rfl (ow_fn (vs := [.pointer _, .int .i64 _]) en_11 rfl hS (hC) ?_)
                    clear hS; rintro v55 _ w ⟨rfl, rfl⟩ hS; (try simp only [List.cons_append, List.nil_append] at hS)
                    refine wl_op rfl rfl (ow_vr (vr_eql rfl rfl) ?_)
                    refine wl_op rfl rfl (ow_vr (vr_move (v := .bool _) rfl) ?_)
                    refine wl_known 57 rfl (c := true) (rfl) ?_
                    refine wl_yes rfl rfl rfl rfl rfl (ow_vr (vr_move (v := .pointer _) rfl) ?_)
                    refine wl_yes rfl rfl rfl rfl rfl (ow_fn (vs := [.pointer _]) en_16 rfl hS (loop_Room q p ⟨0, 20, 5, x, a⟩ a3.wf) ?_)
                    clear hS; rintro v59 _ w ⟨rfl, rfl⟩ hS; (try simp only [List.cons_append, List.nil_append] at hS)
                    refine wl_yes rfl rfl rfl rfl rfl (ow_vr (vr_move (v := .int .i64 _) rfl) ?_)
                    refine wl_yes rfl rfl rfl rfl rfl (ow_vr (vr_eql rfl rfl) ?_)
                    refine wl_op rfl rfl (ow_vr (vr_pick (b := true) (v := .bool _) rfl rfl) ?_)
                    refine wl_op rfl rfl (ow_vr (vr_move (v := .bool _) rfl) ?_)
                    refine wl_known 63 rfl (c := true) (by simp) ?_
                    refine wl_yes rfl rfl rfl rfl rfl (ow_vr (vr_move (v := .pointer _) rfl) ?_)
                    refine wl_yes rfl rfl rfl rfl rfl (ow_fn (vs := [.pointer _]) en_13 rfl hS (loop_Head q p _) ?_)
                    clear hS; rintro v65 _ w ⟨rfl, rfl⟩ hS; (try simp only [List.cons_append, List.nil_append] at hS)
                    refine wl_yes rfl rfl rfl rfl rfl (ow_vr (vr_eql rfl rfl) ?_)
                    refine wl_op rfl rfl (ow_vr (vr_pick (b := true) (v := .bool _) rfl rfl) ?_)
                    refine wl_op rfl rfl (ow_vr (vr_assign (v := .bool _) rfl) ?_)
                    refine wl_nil ?_
                    refine hK21 _ _ ?_
                    refine cw_ret ?_
                    refine thenF_ret (?_)
                    refine ret_one (fn := Tryd.f6) (n := 92) (t := 6) (.inl rfl) rfl rfl ?_
                    exact ⟨[], ⟨rfl, rfl⟩, hS.tail1.tail1⟩
                  · (try simp only [decide_eq_true_eq, decide_eq_false_iff_not, Bool.not_eq_true, Bool.not_eq_false, Bool.not_eq_true', Bool.not_eq_false', Bool.and_eq_true, Bool.or_eq_true, Bool.and_eq_false_iff, Bool.or_eq_false_iff, Int.not_lt, Int.not_le, gt_iff_lt, ge_iff_le, ne_eq, Decidable.not_not, beq_iff_eq] at hc)
                    have hc3 := hc; clear hc
                    refine cw_skip ?_
                    refine hK18 _ _ ?_
                    refine cw_seq fun K22 hK22 => ?_
                    have hC := loop_Cut q p ⟨0, 20, 5, x, a⟩ b
                    have hce : cutL ⟨0, 20, 5, x, a⟩ b = (0, ⟨0, 20, x, x, b⟩) := by rw [cutL, if_neg (by simp only; omega)]
                    rw [hce] at hC
                    have hIc := a3.cut (e := b) (by simp only; omega)
                    refine cw_region ?_
                    refine wl_op rfl rfl (ow_vr (vr_move (v := .pointer _) rfl) ?_)
                    refine wl_op rfl rfl (ow_vr (vr_move (v := .int .i64 _) rfl) ?_)
                    refine wl_op rfl rfl (ow_fn (vs := [.pointer _, .int .i64 _]) en_11 rfl hS (hC) ?_)
                    clear hS; rintro v70 _ w ⟨rfl, rfl⟩ hS; (try simp only [List.cons_append, List.nil_append] at hS)
                    refine wl_op rfl rfl (ow_vr (vr_eql rfl rfl) ?_)
                    refine wl_op rfl rfl (ow_vr (vr_move (v := .bool _) rfl) ?_)
                    refine wl_known 72 rfl (c := true) (rfl) ?_
                    refine wl_yes rfl rfl rfl rfl rfl (ow_vr (vr_move (v := .pointer _) rfl) ?_)
                    refine wl_yes rfl rfl rfl rfl rfl (ow_fn (vs := [.pointer _]) en_16 rfl hS (loop_Room q p ⟨0, 20, x, x, b⟩ hIc.wf) ?_)
                    clear hS; rintro v74 _ w ⟨rfl, rfl⟩ hS; (try simp only [List.cons_append, List.nil_append] at hS)
                    refine wl_yes rfl rfl rfl rfl rfl (ow_vr (vr_eql rfl rfl) ?_)
                    refine wl_op rfl rfl (ow_vr (vr_pick (b := true) (v := .bool _) rfl rfl) ?_)
                    refine wl_op rfl rfl (ow_vr (vr_move (v := .bool _) rfl) ?_)
                    refine wl_known 77 rfl (c := true) (by simp) ?_
                    refine wl_yes rfl rfl rfl rfl rfl (ow_vr (vr_move (v := .pointer _) rfl) ?_)
                    refine wl_yes rfl rfl rfl rfl rfl (ow_fn (vs := [.pointer _]) en_13 rfl hS (loop_Head q p _) ?_)
                    clear hS; rintro v79 _ w ⟨rfl, rfl⟩ hS; (try simp only [List.cons_append, List.nil_append] at hS)
                    refine wl_yes rfl rfl rfl rfl rfl (ow_vr (vr_move (v := .pointer _) rfl) ?_)
                    refine wl_yes rfl rfl rfl rfl rfl (ow_fn (vs := [.pointer _]) en_14 rfl hS (loop_Next q p _) ?_)
                    clear hS; rintro v81 _ w ⟨rfl, rfl⟩ hS; (try simp only [List.cons_append, List.nil_append] at hS)
                    refine wl_yes rfl rfl rfl rfl rfl (ow_vr (vr_eql rfl rfl) ?_)
                    refine wl_op rfl rfl (ow_vr (vr_pick (b := true) (v := .bool _) rfl rfl) ?_)
                    refine wl_op rfl rfl (ow_vr (vr_move (v := .bool _) rfl) ?_)
                    refine wl_known 84 rfl (c := true) (by simp) ?_
                    refine wl_yes rfl rfl rfl rfl rfl (ow_vr (vr_move (v := .pointer _) rfl) ?_)
                    refine wl_yes rfl rfl rfl rfl rfl (ow_fn (vs := [.pointer _]) en_14 rfl hS (loop_Next q p _) ?_)
                    clear hS; rintro v86 _ w ⟨rfl, rfl⟩ hS; (try simp only [List.cons_append, List.nil_append] at hS)
                    refine wl_yes rfl rfl rfl rfl rfl (ow_vr (vr_move (v := v) rfl) ?_)
                    refine wl_yes rfl rfl rfl rfl rfl (ow_vr (vr_len_v (v := v) Tryd.underlying27 rfl hv) ?_)
                    first | (refine wl_yes rfl rfl rfl rfl rfl (ow_vr (vr_addi rfl rfl (by unfold inI64; omega)) ?_)) | (refine wl_yes rfl rfl rfl rfl rfl (ow_vr (vr_add rfl rfl) ?_))
                    refine wl_yes rfl rfl rfl rfl rfl (ow_vr (vr_eql rfl rfl) ?_)
                    refine wl_op rfl rfl (ow_vr (vr_pick (b := true) (v := .bool _) rfl rfl) ?_)
                    refine wl_op rfl rfl (ow_vr (vr_assign (v := .bool _) rfl) ?_)
                    refine wl_nil ?_
                    refine hK22 _ _ ?_
                    refine cw_ret ?_
                    refine ret_one (fn := Tryd.f6) (n := 92) (t := 6) (.inl rfl) rfl rfl ?_
                    exact ⟨[], ⟨congrArg Value.bool (by simp; omega), rfl⟩, hS.tail1.tail1⟩
end Go.Proofs.YtjcagoighpmdkaaDoor
