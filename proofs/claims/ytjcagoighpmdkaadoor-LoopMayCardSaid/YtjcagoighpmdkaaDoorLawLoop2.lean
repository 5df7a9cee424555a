/- LoopCuts, LoopAround, LoopElder. -/
import Derived.Test.YtjcagoighpmdkaaDoorLawLoop1
namespace Go.Proofs.YtjcagoighpmdkaaDoor
open Go Go.RowKit
set_option linter.unusedVariables false
set_option linter.unusedSimpArgs false
theorem wfL {f n h x e : Int} (hh : 0 ≤ f ∧ f ≤ 3000 ∧ 1 ≤ n ∧ n ≤ 3000 ∧ 0 ≤ h ∧ h ≤ x ∧ x - h ≤ n ∧ x ≤ 1000000000000) : WfL ⟨f, n, h, x, e⟩ := ⟨hh.1, hh.2.1, hh.2.2.1, hh.2.2.2.1, hh.2.2.2.2.1, hh.2.2.2.2.2.1, hh.2.2.2.2.2.2.1, hh.2.2.2.2.2.2.2⟩
/-- Which groups may be. -/
theorem group_right {lsn ep : Int} {c : List (Int × Int)} (h0 : 0 ≤ lsn) (h1 : lsn + c.length < 4294967296) (h2 : 0 ≤ ep) (h3 : ep < 4294967296) : (groupL lsn ep c).all rightE = true ↔ ∀ x ∈ c, okN x.1 = true ∧ okN x.2 = true := by
  constructor
  · intro h x hx
    obtain ⟨j, hj⟩ := List.getElem?_of_mem hx
    have := List.all_eq_true.1 h _ (List.mem_of_getElem? (groupL_get lsn ep c hj))
    simp [rightE] at this
    exact ⟨this.2.2.1, this.2.2.2⟩
  · intro h
    rw [List.all_eq_true]
    intro e he
    obtain ⟨j, hj⟩ := List.getElem?_of_mem he
    have hl := lt_get hj
    rw [groupL_length] at hl
    rcases Nat.lt_or_ge j c.length with h4 | h4
    · obtain ⟨x, hx⟩ := get_lt h4
      rw [groupL_get lsn ep c hx] at hj
      cases hj
      have := h x (List.mem_of_getElem? hx)
      simp only [rightE, List.all_cons, List.all_nil, this.1, this.2, Bool.and_true]
      simp [okN]; omega
    · obtain rfl : j = c.length := by omega
      rw [groupL_end] at hj
      cases hj
      simp [rightE, okN]; omega
attribute [local irreducible] actF WL CW OW PL SW VR LR yes Returns Fn
theorem loop_cuts (a b : Int) (c : List (Int × Int)) (v : Value) (Δc G : Chunk) (hv : View 2 encC v c Δc) (hG : Glob G) (hn : c.length ≤ 9223372036854775807) :
    FnG Tryd.prog 6 [.int .i64 a, .int .i64 b, v] [Δc, G] (fun u Δs => u = .bool true ∧ Δs = []) := by
  refine FnG.mk fun E F w hS hF => ?_
  have hFc : Δc ∈ F := hF _ (by simp)
  have hFg : G ∈ F := hF _ (by simp)
  refine returns_enter Tryd.func6 rfl Tryd.ntmps6 rfl ?_
  refine cw_seq fun K1 hK1 => ?_
  refine cw_region ?_
  refine wl_op rfl rfl (ow_vr (vr_assign (v := .bool false) rfl) ?_)
  refine wl_nil ?_
  refine hK1 _ _ ?_
  refine cw_seq fun K2 hK2 => ?_
  refine cw_seq fun K3 hK3 => ?_
  refine cw_region ?_
  refine wl_op rfl rfl (ow_vr (vr_move (v := .int .i64 _) rfl) ?_)
  refine wl_op rfl rfl (ow_vr (vr_lss rfl rfl) ?_)
  refine wl_op rfl rfl (ow_vr (vr_move (v := .bool _) rfl) ?_)
  refine wl_split 12 rfl (fun hc => ?_) (fun hc => ?_)
  · (try simp only [decide_eq_true_eq, decide_eq_false_iff_not, Bool.not_eq_true, Bool.not_eq_false, Bool.not_eq_true', Bool.not_eq_false', Bool.and_eq_true, Bool.or_eq_true, Bool.and_eq_false_iff, Bool.or_eq_false_iff, Int.not_lt, Int.not_le, gt_iff_lt, ge_iff_le, ne_eq, Decidable.not_not, beq_iff_eq] at hc)
    have hg12 := hc; clear hc
    refine wl_noD rfl rfl rfl rfl rfl rfl ?_
    refine wl_noD rfl rfl rfl rfl rfl rfl ?_
    refine wl_op rfl rfl (ow_vr (vr_pick (b := true) (v := .bool _) rfl rfl) ?_)
    refine wl_op rfl rfl (ow_vr (vr_move (v := .bool _) rfl) ?_)
    refine wl_noD rfl rfl rfl rfl rfl rfl ?_
    refine wl_noD rfl rfl rfl rfl rfl rfl ?_
    refine wl_op rfl rfl (ow_vr (vr_pick (b := true) (v := .bool _) rfl rfl) ?_)
    refine wl_op rfl rfl (ow_vr (vr_move (v := .bool _) rfl) ?_)
    refine wl_noD rfl rfl rfl rfl rfl rfl ?_
    refine wl_noD rfl rfl rfl rfl rfl rfl ?_
    refine wl_op rfl rfl (ow_vr (vr_pick (b := true) (v := .bool _) rfl rfl) ?_)
    refine wl_op rfl rfl (ow_vr (vr_move (v := .bool _) rfl) ?_)
    refine wl_noD rfl rfl rfl rfl rfl rfl ?_
    refine wl_noD rfl rfl rfl rfl rfl rfl ?_
    refine wl_noD rfl rfl rfl rfl rfl rfl ?_
    refine wl_op rfl rfl (ow_vr (vr_pick (b := true) (v := .bool _) rfl rfl) ?_)
    refine wl_op rfl rfl (ow_vr (vr_move (v := .bool _) rfl) ?_)
    refine wl_noD rfl rfl rfl rfl rfl rfl ?_
    refine wl_noD rfl rfl rfl rfl rfl rfl ?_
    refine wl_op rfl rfl (ow_vr (vr_pick (b := true) (v := .bool _) rfl rfl) ?_)
    refine wl_nil ?_
    refine hK3 _ _ ?_
    refine cw_cond_t rfl rfl (rfl) ?_
    refine cw_seq fun K4 hK4 => ?_
    refine cw_region ?_
    refine wl_op rfl rfl (ow_fng (vs := []) en_7 rfl hS (alive7 hG) (by repeat (first | exact needs0 | (refine needsC ?_ ?_; · (repeat (first | exact List.mem_cons_self | assumption | refine List.mem_cons_of_mem _ ?_))))) ?_)
    clear hS; rintro v33 _ w ⟨rfl, rfl⟩ hS; (try simp only [List.cons_append, List.nil_append] at hS)
    refine wl_op rfl rfl (ow_vr (vr_assign (v := .bool _) rfl) ?_)
    refine wl_nil ?_
    refine hK4 _ _ ?_
    refine cw_ret ?_
    refine thenF_ret (?_)
    refine ret_one (fn := Tryd.f6) (n := 92) (t := 6) (.inl rfl) rfl rfl ?_
    exact ⟨[], ⟨rfl, rfl⟩, hS⟩
  · (try simp only [decide_eq_true_eq, decide_eq_false_iff_not, Bool.not_eq_true, Bool.not_eq_false, Bool.not_eq_true', Bool.not_eq_false', Bool.and_eq_true, Bool.or_eq_true, Bool.and_eq_false_iff, Bool.or_eq_false_iff, Int.not_lt, Int.not_le, gt_iff_lt, ge_iff_le, ne_eq, Decidable.not_not, beq_iff_eq] at hc)
    have hg12 := hc; clear hc
    refine wl_yes rfl rfl rfl rfl rfl (ow_vr (vr_move (v := .int .i64 _) rfl) ?_)
    refine wl_yes rfl rfl rfl rfl rfl (ow_vr (vr_geq rfl rfl) ?_)
    refine wl_op rfl rfl (ow_vr (vr_pick (b := false) (v := .bool _) rfl rfl) ?_)
    refine wl_op rfl rfl (ow_vr (vr_move (v := .bool _) rfl) ?_)
    refine wl_split 16 rfl (fun hc => ?_) (fun hc => ?_)
    · (try simp only [decide_eq_true_eq, decide_eq_false_iff_not, Bool.not_eq_true, Bool.not_eq_false, Bool.not_eq_true', Bool.not_eq_false', Bool.and_eq_true, Bool.or_eq_true, Bool.and_eq_false_iff, Bool.or_eq_false_iff, Int.not_lt, Int.not_le, gt_iff_lt, ge_iff_le, ne_eq, Decidable.not_not, beq_iff_eq] at hc)
      have hg16 := hc; clear hc
      refine wl_noD rfl rfl rfl rfl rfl rfl ?_
      refine wl_noD rfl rfl rfl rfl rfl rfl ?_
      refine wl_op rfl rfl (ow_vr (vr_pick (b := true) (v := .bool _) rfl rfl) ?_)
      refine wl_op rfl rfl (ow_vr (vr_move (v := .bool _) rfl) ?_)
      refine wl_noD rfl rfl rfl rfl rfl rfl ?_
      refine wl_noD rfl rfl rfl rfl rfl rfl ?_
      refine wl_op rfl rfl (ow_vr (vr_pick (b := true) (v := .bool _) rfl rfl) ?_)
      refine wl_op rfl rfl (ow_vr (vr_move (v := .bool _) rfl) ?_)
      refine wl_noD rfl rfl rfl rfl rfl rfl ?_
      refine wl_noD rfl rfl rfl rfl rfl rfl ?_
      refine wl_noD rfl rfl rfl rfl rfl rfl ?_
      refine wl_op rfl rfl (ow_vr (vr_pick (b := true) (v := .bool _) rfl rfl) ?_)
      refine wl_op rfl rfl (ow_vr (vr_move (v := .bool _) rfl) ?_)
      refine wl_noD rfl rfl rfl rfl rfl rfl ?_
      refine wl_noD rfl rfl rfl rfl rfl rfl ?_
      refine wl_op rfl rfl (ow_vr (vr_pick (b := true) (v := .bool _) rfl rfl) ?_)
      refine wl_nil ?_
      refine hK3 _ _ ?_
      refine cw_cond_t rfl rfl (rfl) ?_
      refine cw_seq fun K5 hK5 => ?_
      refine cw_region ?_
      refine wl_op rfl rfl (ow_fng (vs := []) en_7 rfl hS (alive7 hG) (by repeat (first | exact needs0 | (refine needsC ?_ ?_; · (repeat (first | exact List.mem_cons_self | assumption | refine List.mem_cons_of_mem _ ?_))))) ?_)
      clear hS; rintro v33 _ w ⟨rfl, rfl⟩ hS; (try simp only [List.cons_append, List.nil_append] at hS)
      refine wl_op rfl rfl (ow_vr (vr_assign (v := .bool _) rfl) ?_)
      refine wl_nil ?_
      refine hK5 _ _ ?_
      refine cw_ret ?_
      refine thenF_ret (?_)
      refine ret_one (fn := Tryd.f6) (n := 92) (t := 6) (.inl rfl) rfl rfl ?_
      exact ⟨[], ⟨rfl, rfl⟩, hS⟩
    · (try simp only [decide_eq_true_eq, decide_eq_false_iff_not, Bool.not_eq_true, Bool.not_eq_false, Bool.not_eq_true', Bool.not_eq_false', Bool.and_eq_true, Bool.or_eq_true, Bool.and_eq_false_iff, Bool.or_eq_false_iff, Int.not_lt, Int.not_le, gt_iff_lt, ge_iff_le, ne_eq, Decidable.not_not, beq_iff_eq] at hc)
      have hg16 := hc; clear hc
      refine wl_yes rfl rfl rfl rfl rfl (ow_vr (vr_move (v := .int .i64 _) rfl) ?_)
      refine wl_yes rfl rfl rfl rfl rfl (ow_vr (vr_lss rfl rfl) ?_)
      refine wl_op rfl rfl (ow_vr (vr_pick (b := false) (v := .bool _) rfl rfl) ?_)
      refine wl_op rfl rfl (ow_vr (vr_move (v := .bool _) rfl) ?_)
      refine wl_split 20 rfl (fun hc => ?_) (fun hc => ?_)
      · (try simp only [decide_eq_true_eq, decide_eq_false_iff_not, Bool.not_eq_true, Bool.not_eq_false, Bool.not_eq_true', Bool.not_eq_false', Bool.and_eq_true, Bool.or_eq_true, Bool.and_eq_false_iff, Bool.or_eq_false_iff, Int.not_lt, Int.not_le, gt_iff_lt, ge_iff_le, ne_eq, Decidable.not_not, beq_iff_eq] at hc)
        have hg20 := hc; clear hc
        refine wl_noD rfl rfl rfl rfl rfl rfl ?_
        refine wl_noD rfl rfl rfl rfl rfl rfl ?_
        refine wl_op rfl rfl (ow_vr (vr_pick (b := true) (v := .bool _) rfl rfl) ?_)
        refine wl_op rfl rfl (ow_vr (vr_move (v := .bool _) rfl) ?_)
        refine wl_noD rfl rfl rfl rfl rfl rfl ?_
        refine wl_noD rfl rfl rfl rfl rfl rfl ?_
        refine wl_noD rfl rfl rfl rfl rfl rfl ?_
        refine wl_op rfl rfl (ow_vr (vr_pick (b := true) (v := .bool _) rfl rfl) ?_)
        refine wl_op rfl rfl (ow_vr (vr_move (v := .bool _) rfl) ?_)
        refine wl_noD rfl rfl rfl rfl rfl rfl ?_
        refine wl_noD rfl rfl rfl rfl rfl rfl ?_
        refine wl_op rfl rfl (ow_vr (vr_pick (b := true) (v := .bool _) rfl rfl) ?_)
        refine wl_nil ?_
        refine hK3 _ _ ?_
        refine cw_cond_t rfl rfl (rfl) ?_
        refine cw_seq fun K6 hK6 => ?_
        refine cw_region ?_
        refine wl_op rfl rfl (ow_fng (vs := []) en_7 rfl hS (alive7 hG) (by repeat (first | exact needs0 | (refine needsC ?_ ?_; · (repeat (first | exact List.mem_cons_self | assumption | refine List.mem_cons_of_mem _ ?_))))) ?_)
        clear hS; rintro v33 _ w ⟨rfl, rfl⟩ hS; (try simp only [List.cons_append, List.nil_append] at hS)
        refine wl_op rfl rfl (ow_vr (vr_assign (v := .bool _) rfl) ?_)
        refine wl_nil ?_
        refine hK6 _ _ ?_
        refine cw_ret ?_
        refine thenF_ret (?_)
        refine ret_one (fn := Tryd.f6) (n := 92) (t := 6) (.inl rfl) rfl rfl ?_
        exact ⟨[], ⟨rfl, rfl⟩, hS⟩
      · (try simp only [decide_eq_true_eq, decide_eq_false_iff_not, Bool.not_eq_true, Bool.not_eq_false, Bool.not_eq_true', Bool.not_eq_false', Bool.and_eq_true, Bool.or_eq_true, Bool.and_eq_false_iff, Bool.or_eq_false_iff, Int.not_lt, Int.not_le, gt_iff_lt, ge_iff_le, ne_eq, Decidable.not_not, beq_iff_eq] at hc)
        have hg20 := hc; clear hc
        refine wl_yes rfl rfl rfl rfl rfl (ow_vr (vr_move (v := .int .i64 _) rfl) ?_)
        refine wl_yes rfl rfl rfl rfl rfl (ow_vr (vr_gtr rfl rfl) ?_)
        refine wl_op rfl rfl (ow_vr (vr_pick (b := false) (v := .bool _) rfl rfl) ?_)
        refine wl_op rfl rfl (ow_vr (vr_move (v := .bool _) rfl) ?_)
        refine wl_split 24 rfl (fun hc => ?_) (fun hc => ?_)
        · (try simp only [decide_eq_true_eq, decide_eq_false_iff_not, Bool.not_eq_true, Bool.not_eq_false, Bool.not_eq_true', Bool.not_eq_false', Bool.and_eq_true, Bool.or_eq_true, Bool.and_eq_false_iff, Bool.or_eq_false_iff, Int.not_lt, Int.not_le, gt_iff_lt, ge_iff_le, ne_eq, Decidable.not_not, beq_iff_eq] at hc)
          have hg24 := hc; clear hc
          refine wl_noD rfl rfl rfl rfl rfl rfl ?_
          refine wl_noD rfl rfl rfl rfl rfl rfl ?_
          refine wl_noD rfl rfl rfl rfl rfl rfl ?_
          refine wl_op rfl rfl (ow_vr (vr_pick (b := true) (v := .bool _) rfl rfl) ?_)
          refine wl_op rfl rfl (ow_vr (vr_move (v := .bool _) rfl) ?_)
          refine wl_noD rfl rfl rfl rfl rfl rfl ?_
          refine wl_noD rfl rfl rfl rfl rfl rfl ?_
          refine wl_op rfl rfl (ow_vr (vr_pick (b := true) (v := .bool _) rfl rfl) ?_)
          refine wl_nil ?_
          refine hK3 _ _ ?_
          refine cw_cond_t rfl rfl (rfl) ?_
          refine cw_seq fun K7 hK7 => ?_
          refine cw_region ?_
          refine wl_op rfl rfl (ow_fng (vs := []) en_7 rfl hS (alive7 hG) (by repeat (first | exact needs0 | (refine needsC ?_ ?_; · (repeat (first | exact List.mem_cons_self | assumption | refine List.mem_cons_of_mem _ ?_))))) ?_)
          clear hS; rintro v33 _ w ⟨rfl, rfl⟩ hS; (try simp only [List.cons_append, List.nil_append] at hS)
          refine wl_op rfl rfl (ow_vr (vr_assign (v := .bool _) rfl) ?_)
          refine wl_nil ?_
          refine hK7 _ _ ?_
          refine cw_ret ?_
          refine thenF_ret (?_)
          refine ret_one (fn := Tryd.f6) (n := 92) (t := 6) (.inl rfl) rfl rfl ?_
          exact ⟨[], ⟨rfl, rfl⟩, hS⟩
        · (try simp only [decide_eq_true_eq, decide_eq_false_iff_not, Bool.not_eq_true, Bool.not_eq_false, Bool.not_eq_true', Bool.not_eq_false', Bool.and_eq_true, Bool.or_eq_true, Bool.and_eq_false_iff, Bool.or_eq_false_iff, Int.not_lt, Int.not_le, gt_iff_lt, ge_iff_le, ne_eq, Decidable.not_not, beq_iff_eq] at hc)
          have hg24 := hc; clear hc
          refine wl_yes rfl rfl rfl rfl rfl (ow_vr (vr_move (v := v) rfl) ?_)
          refine wl_yes rfl rfl rfl rfl rfl (ow_vr (vr_len_v (v := v) Tryd.underlying27 rfl hv) ?_)
          refine wl_yes rfl rfl rfl rfl rfl (ow_vr (vr_gtr rfl rfl) ?_)
          refine wl_op rfl rfl (ow_vr (vr_pick (b := false) (v := .bool _) rfl rfl) ?_)
          refine wl_op rfl rfl (ow_vr (vr_move (v := .bool _) rfl) ?_)
          refine wl_split 29 rfl (fun hc => ?_) (fun hc => ?_)
          · (try simp only [decide_eq_true_eq, decide_eq_false_iff_not, Bool.not_eq_true, Bool.not_eq_false, Bool.not_eq_true', Bool.not_eq_false', Bool.and_eq_true, Bool.or_eq_true, Bool.and_eq_false_iff, Bool.or_eq_false_iff, Int.not_lt, Int.not_le, gt_iff_lt, ge_iff_le, ne_eq, Decidable.not_not, beq_iff_eq] at hc)
            have hg29 := hc; clear hc
            refine wl_noD rfl rfl rfl rfl rfl rfl ?_
            refine wl_noD rfl rfl rfl rfl rfl rfl ?_
            refine wl_op rfl rfl (ow_vr (vr_pick (b := true) (v := .bool _) rfl rfl) ?_)
            refine wl_nil ?_
            refine hK3 _ _ ?_
            refine cw_cond_t rfl rfl (rfl) ?_
            refine cw_seq fun K8 hK8 => ?_
            refine cw_region ?_
            refine wl_op rfl rfl (ow_fng (vs := []) en_7 rfl hS (alive7 hG) (by repeat (first | exact needs0 | (refine needsC ?_ ?_; · (repeat (first | exact List.mem_cons_self | assumption | refine List.mem_cons_of_mem _ ?_))))) ?_)
            clear hS; rintro v33 _ w ⟨rfl, rfl⟩ hS; (try simp only [List.cons_append, List.nil_append] at hS)
            refine wl_op rfl rfl (ow_vr (vr_assign (v := .bool _) rfl) ?_)
            refine wl_nil ?_
            refine hK8 _ _ ?_
            refine cw_ret ?_
            refine thenF_ret (?_)
            refine ret_one (fn := Tryd.f6) (n := 92) (t := 6) (.inl rfl) rfl rfl ?_
            exact ⟨[], ⟨rfl, rfl⟩, hS⟩
          · (try simp only [decide_eq_true_eq, decide_eq_false_iff_not, Bool.not_eq_true, Bool.not_eq_false, Bool.not_eq_true', Bool.not_eq_false', Bool.and_eq_true, Bool.or_eq_true, Bool.and_eq_false_iff, Bool.or_eq_false_iff, Int.not_lt, Int.not_le, gt_iff_lt, ge_iff_le, ne_eq, Decidable.not_not, beq_iff_eq] at hc)
            have hg29 := hc; clear hc
            refine wl_yes rfl rfl rfl rfl rfl (ow_fng (vs := []) en_7 rfl hS (alive7 hG) (by repeat (first | exact needs0 | (refine needsC ?_ ?_; · (repeat (first | exact List.mem_cons_self | assumption | refine List.mem_cons_of_mem _ ?_))))) ?_)
            clear hS; rintro v30 _ w ⟨rfl, rfl⟩ hS; (try simp only [List.cons_append, List.nil_append] at hS)
            refine wl_yes rfl rfl rfl rfl rfl (ow_vr (vr_not rfl) ?_)
            refine wl_op rfl rfl (ow_vr (vr_pick (b := false) (v := .bool _) rfl rfl) ?_)
            refine wl_nil ?_
            refine hK3 _ _ ?_
            refine cw_cond rfl rfl (fun hc => ?_) (fun hc => ?_)
            · (try simp only [decide_eq_true_eq, decide_eq_false_iff_not, Bool.not_eq_true, Bool.not_eq_false, Bool.not_eq_true', Bool.not_eq_false', Bool.and_eq_true, Bool.or_eq_true, Bool.and_eq_false_iff, Bool.or_eq_false_iff, Int.not_lt, Int.not_le, gt_iff_lt, ge_iff_le, ne_eq, Decidable.not_not, beq_iff_eq] at hc)
              have hc0 := hc; clear hc
              refine cw_seq fun K9 hK9 => ?_
              refine cw_region ?_
              refine wl_op rfl rfl (ow_fng (vs := []) en_7 rfl hS (alive7 hG) (by repeat (first | exact needs0 | (refine needsC ?_ ?_; · (repeat (first | exact List.mem_cons_self | assumption | refine List.mem_cons_of_mem _ ?_))))) ?_)
              clear hS; rintro v33 _ w ⟨rfl, rfl⟩ hS; (try simp only [List.cons_append, List.nil_append] at hS)
              refine wl_op rfl rfl (ow_vr (vr_assign (v := .bool _) rfl) ?_)
              refine wl_nil ?_
              refine hK9 _ _ ?_
              refine cw_ret ?_
              refine thenF_ret (?_)
              refine ret_one (fn := Tryd.f6) (n := 92) (t := 6) (.inl rfl) rfl rfl ?_
              exact ⟨[], ⟨rfl, rfl⟩, hS⟩
            · (try simp only [decide_eq_true_eq, decide_eq_false_iff_not, Bool.not_eq_true, Bool.not_eq_false, Bool.not_eq_true', Bool.not_eq_false', Bool.and_eq_true, Bool.or_eq_true, Bool.and_eq_false_iff, Bool.or_eq_false_iff, Int.not_lt, Int.not_le, gt_iff_lt, ge_iff_le, ne_eq, Decidable.not_not, beq_iff_eq] at hc)
              have hc0 := hc; clear hc
              refine cw_skip ?_
              refine hK2 _ _ ?_
              refine cw_seq fun K10 hK10 => ?_
              refine cw_region ?_
              refine wl_op rfl rfl (ow_fn (vs := [.int .i64 _]) en_8 rfl hS (disk_New' (n := 20) (by omega) (by omega)) ?_)
              clear hS; rintro v34 _ w ⟨p, Δ0, rfl, rfl, hd0⟩ hS; (try simp only [List.cons_append, List.nil_append] at hS)
              refine wl_op rfl rfl (ow_vr (vr_assign (v := .pointer _) rfl) ?_)
              refine wl_nil ?_
              refine hK10 _ _ ?_
              refine cw_seq fun K11 hK11 => ?_
              have hc := Calm.new (n := 20) (by omega) (by omega)
              have hw : WfL ⟨0, 20, 5, 5, a⟩ := wfL (by omega)
              have hI := LogI.new (n := 20) hw (by decide)
              refine cw_region ?_
              refine wl_op rfl rfl (ow_vr (vr_move (v := .pointer _) rfl) ?_)
              refine wl_op rfl rfl (ow_vr (vr_move (v := .int .i64 _) rfl) ?_)
              refine wl_op rfl rfl (ow_fn (vs := [.pointer _, .int .i64 _, .int .i64 _, .int .i64 _, .int .i64 _, .int .i64 _]) en_9 rfl hS (loop_NewT hd0 hc.wf ⟨0, 20, 5, 5, a⟩ (by simp [mayL, newD]; omega)) ?_)
              clear hS; rintro v37 _ w ⟨q, rfl, rfl⟩ hS; (try simp only [List.cons_append, List.nil_append] at hS)
              refine wl_op rfl rfl (ow_vr (vr_assign (v := .pointer _) rfl) ?_)
              refine wl_nil ?_
              refine hK11 _ _ ?_
              refine cw_seq fun K12 hK12 => ?_
              refine cw_seq fun K13 hK13 => ?_
              refine cw_region ?_
              refine wl_op rfl rfl (ow_vr (vr_move (v := .pointer _) rfl) ?_)
              refine wl_op rfl rfl (ow_vr (vr_eqnil Tryd.underlying25 rfl) ?_)
              refine wl_nil ?_
              refine hK13 _ _ ?_
              refine cw_cond_f rfl rfl (rfl) ?_
              refine cw_skip ?_
              refine hK12 _ _ ?_
              refine cw_seq fun K14 hK14 => ?_
              refine cw_seq fun K15 hK15 => ?_
              refine cw_region ?_
              refine wl_op rfl rfl (ow_vr (vr_move (v := .pointer _) rfl) ?_)
              refine wl_op rfl rfl (ow_vr (vr_move (v := v) rfl) ?_)
              refine wl_op rfl rfl (ow_fnm (vs := [.pointer _, v]) en_12 rfl hS (loop_Append hd0 hc.wf q ⟨0, 20, 5, 5, a⟩ hw c v Δc G hv hG (by omega)) (by repeat (first | exact needs0 | (refine needsC ?_ ?_; · (repeat (first | exact List.mem_cons_self | assumption | refine List.mem_cons_of_mem _ ?_))))) ?_)
              clear hS; rintro v42 _ w ⟨rfl, Δ1, rfl, hd1⟩ hS; (try simp only [List.cons_append, List.nil_append] at hS)
              refine wl_op rfl rfl (ow_vr (vr_neq rfl rfl) ?_)
              refine wl_nil ?_
              refine hK15 _ _ ?_
              refine cw_cond rfl rfl (fun hc => ?_) (fun hc => ?_)
              · (try simp only [decide_eq_true_eq, decide_eq_false_iff_not, Bool.not_eq_true, Bool.not_eq_false, Bool.not_eq_true', Bool.not_eq_false', Bool.and_eq_true, Bool.or_eq_true, Bool.and_eq_false_iff, Bool.or_eq_false_iff, Int.not_lt, Int.not_le, gt_iff_lt, ge_iff_le, ne_eq, Decidable.not_not, beq_iff_eq] at hc)
                have happ := hc; clear hc
                refine cw_seq fun K16 hK16 => ?_
                refine cw_region ?_
                refine wl_op rfl rfl (ow_vr (vr_assign (v := .bool true) rfl) ?_)
                refine wl_nil ?_
                refine hK16 _ _ ?_
                refine cw_ret ?_
                refine thenF_ret (?_)
                refine ret_one (fn := Tryd.f6) (n := 92) (t := 6) (.inl rfl) rfl rfl ?_
                exact ⟨[], ⟨rfl, rfl⟩, hS.tail1.tail1⟩
              · (try simp only [decide_eq_true_eq, decide_eq_false_iff_not, Bool.not_eq_true, Bool.not_eq_false, Bool.not_eq_true', Bool.not_eq_false', Bool.and_eq_true, Bool.or_eq_true, Bool.and_eq_false_iff, Bool.or_eq_false_iff, Int.not_lt, Int.not_le, gt_iff_lt, ge_iff_le, ne_eq, Decidable.not_not, beq_iff_eq] at hc)
                have happ := hc; clear hc
                refine cw_skip ?_
                refine hK14 _ _ ?_
                refine cw_seq fun K17 hK17 => ?_
                have hgl := groupL_length 5 a c
                have hrr : (groupL 5 a c).all rightE = true ∧ ((groupL 5 a c).length : Int) ≤ 20 - (5 - 5) := by
                  by_cases hh : (groupL 5 a c).all rightE = true ∧ ((groupL 5 a c).length : Int) ≤ 20 - (5 - 5)
                  · exact hh
                  · exact absurd happ (append_no hI hh).1
                obtain ⟨a1, a2, a3, a4, a5⟩ := append_calm hI hc hrr.1 hrr.2 (by simp only; omega)
                rw [a2] at hS
                obtain ⟨x, hx⟩ : ∃ x : Int, 5 + ((groupL 5 a c).length : Int) = x := ⟨_, rfl⟩
                have hx2 : x = 6 + c.length := by omega
                simp only [hx] at hS a3
                refine cw_region ?_
                refine wl_op rfl rfl (ow_vr (vr_move (v := .pointer _) rfl) ?_)
                refine wl_op rfl rfl (ow_fn (vs := [.pointer _]) en_16 rfl hS (loop_Room q p ⟨0, 20, 5, x, a⟩ a3.wf) ?_)
                clear hS; rintro v45 _ w ⟨rfl, rfl⟩ hS; (try simp only [List.cons_append, List.nil_append] at hS)
                refine wl_op rfl rfl (ow_vr (vr_assign (v := .int .i64 _) rfl) ?_)
                refine wl_nil ?_
                refine hK17 _ _ ?_
                refine cw_seq fun K18 hK18 => ?_
                refine cw_seq fun K19 hK19 => ?_
                refine cw_region ?_
                refine wl_op rfl rfl (ow_vr (vr_move (v := .int .i64 _) rfl) ?_)
                refine wl_op rfl rfl (ow_vr (vr_move (v := .int .i64 _) rfl) ?_)
                refine wl_op rfl rfl (ow_vr (vr_leq rfl rfl) ?_)
                refine wl_op rfl rfl (ow_vr (vr_move (v := .bool _) rfl) ?_)
                refine wl_split 49 rfl (fun hc => ?_) (fun hc => ?_)
                · (try simp only [decide_eq_true_eq, decide_eq_false_iff_not, Bool.not_eq_true, Bool.not_eq_false, Bool.not_eq_true', Bool.not_eq_false', Bool.and_eq_true, Bool.or_eq_true, Bool.and_eq_false_iff, Bool.or_eq_false_iff, Int.not_lt, Int.not_le, gt_iff_lt, ge_iff_le, ne_eq, Decidable.not_not, beq_iff_eq] at hc)
                  have hg49 := hc; clear hc
                  refine wl_noD rfl rfl rfl rfl rfl rfl ?_
                  refine wl_noD rfl rfl rfl rfl rfl rfl ?_
                  refine wl_op rfl rfl (ow_vr (vr_pick (b := true) (v := .bool _) rfl rfl) ?_)
                  refine wl_nil ?_
                  refine hK19 _ _ ?_
                  refine cw_cond_t rfl rfl (rfl) ?_
                  refine cw_seq fun K20 hK20 => ?_
                  have hC := loop_Cut q p ⟨0, 20, 5, x, a⟩ b
                  have hce : cutL ⟨0, 20, 5, x, a⟩ b = (1, ⟨0, 20, 5, x, a⟩) := by rw [cutL, if_pos (by simp only; omega)]
                  rw [hce] at hC
                  refine cw_region ?_
                  refine wl_op rfl rfl (ow_vr (vr_move (v := .pointer _) rfl) ?_)
                  refine wl_op rfl rfl (ow_vr (vr_move (v := .int .i64 _) rfl) ?_)
                  refine wl_op rfl rfl (ow_fn (vs := [.pointer _, .int .i64 _]) en_11 rfl hS (hC) ?_)
                  clear hS; rintro v55 _ w ⟨rfl, rfl⟩ hS; (try simp only [List.cons_append, List.nil_append] at hS)
                  refine wl_op rfl rfl (ow_vr (vr_eql rfl rfl) ?_)
                  refine wl_op rfl rfl (ow_vr (vr_move (v := .bool _) rfl) ?_)
                  refine wl_known 57 rfl (c := true) (rfl) ?_
                  refine wl_yes rfl rfl rfl rfl rfl (ow_vr (vr_move (v := .pointer _) rfl) ?_)
                  refine wl_yes rfl rfl rfl rfl rfl (ow_fn (vs := [.pointer _]) en_16 rfl hS (loop_Room q p ⟨0, 20, 5, x, a⟩ a3.wf) ?_)
                  clear hS; rintro v59 _ w ⟨rfl, rfl⟩ hS; (try simp only [List.cons_append, List.nil_append] at hS)
                  refine wl_yes rfl rfl rfl rfl rfl (ow_vr (vr_move (v := .int .i64 _) rfl) ?_)
                  refine wl_yes rfl rfl rfl rfl rfl (ow_vr (vr_eql rfl rfl) ?_)
                  refine wl_op rfl rfl (ow_vr (vr_pick (b := true) (v := .bool _) rfl rfl) ?_)
                  refine wl_op rfl rfl (ow_vr (vr_move (v := .bool _) rfl) ?_)
                  refine wl_known 63 rfl (c := true) (by simp) ?_
                  refine wl_yes rfl rfl rfl rfl rfl (ow_vr (vr_move (v := .pointer _) rfl) ?_)
                  refine wl_yes rfl rfl rfl rfl rfl (ow_fn (vs := [.pointer _]) en_13 rfl hS (loop_Head q p _) ?_)
                  clear hS; rintro v65 _ w ⟨rfl, rfl⟩ hS; (try simp only [List.cons_append, List.nil_append] at hS)
                  refine wl_yes rfl rfl rfl rfl rfl (ow_vr (vr_eql rfl rfl) ?_)
                  refine wl_op rfl rfl (ow_vr (vr_pick (b := true) (v := .bool _) rfl rfl) ?_)
                  refine wl_op rfl rfl (ow_vr (vr_assign (v := .bool _) rfl) ?_)
                  refine wl_nil ?_
                  refine hK20 _ _ ?_
                  refine cw_ret ?_
                  refine thenF_ret (?_)
                  refine ret_one (fn := Tryd.f6) (n := 92) (t := 6) (.inl rfl) rfl rfl ?_
                  exact ⟨[], ⟨rfl, rfl⟩, hS.tail1.tail1⟩
                · (try simp only [decide_eq_true_eq, decide_eq_false_iff_not, Bool.not_eq_true, Bool.not_eq_false, Bool.not_eq_true', Bool.not_eq_false', Bool.and_eq_true, Bool.or_eq_true, Bool.and_eq_false_iff, Bool.or_eq_false_iff, Int.not_lt, Int.not_le, gt_iff_lt, ge_iff_le, ne_eq, Decidable.not_not, beq_iff_eq] at hc)
                  have hg49 := hc; clear hc
                  refine wl_yes rfl rfl rfl rfl rfl (ow_vr (vr_move (v := .int .i64 _) rfl) ?_)
                  refine wl_yes rfl rfl rfl rfl rfl (ow_vr (vr_geq rfl rfl) ?_)
                  refine wl_op rfl rfl (ow_vr (vr_pick (b := false) (v := .bool _) rfl rfl) ?_)
                  refine wl_nil ?_
                  refine hK19 _ _ ?_
                  refine cw_cond rfl rfl (fun hc => ?_) (fun hc => ?_)
                  · (try simp only [decide_eq_true_eq, decide_eq_false_iff_not, Bool.not_eq_true, Bool.not_eq_false, Bool.not_eq_true', Bool.not_eq_false', Bool.and_eq_true, Bool.or_eq_true, Bool.and_eq_false_iff, Bool.or_eq_false_iff, Int.not_lt, Int.not_le, gt_iff_lt, ge_iff_le, ne_eq, Decidable.not_not, beq_iff_eq] at hc)
                    have hc3 := hc; clear hc
                    refine cw_seq fun K21 hK21 => ?_
                    have hC := loop_Cut q p ⟨0, 20, 5, x, a⟩ b
                    have hce : cutL ⟨0, 20, 5, x, a⟩ b = (1, ⟨0, 20, 5, x, a⟩) := by rw [cutL, if_pos (by simp only; omega)]
                    rw [hce] at hC
                    refine cw_region ?_
                    refine wl_op rfl rfl (ow_vr (vr_move (v := .pointer _) rfl) ?_)
                    refine wl_op rfl rfl (ow_vr (vr_move (v := .int .i64 _) rfl) ?_)
                    refine wl_op rfl rfl (ow_fn (vs := [.pointer _, .int .i64 _]) en_11 rfl hS (hC) ?_)
                    clear hS; rintro v55 _ w ⟨rfl, rfl⟩ hS; (try simp only [List.cons_append, List.nil_append] at hS)
                    refine wl_op rfl rfl (ow_vr (vr_eql rfl rfl) ?_)
                    refine wl_op rfl rfl (ow_vr (vr_move (v := .bool _) rfl) ?_)
                    refine wl_known 57 rfl (c := true) (rfl) ?_
                    refine wl_yes rfl rfl rfl rfl rfl (ow_vr (vr_move (v := .pointer _) rfl) ?_)
                    refine wl_yes rfl rfl rfl rfl rfl (ow_fn (vs := [.pointer _]) en_16 rfl hS (loop_Room q p ⟨0, 20, 5, x, a⟩ a3.wf) ?_)
                    clear hS; rintro v59 _ w ⟨rfl, rfl⟩ hS; (try simp only [List.cons_append, List.nil_append] at hS)
                    refine wl_yes rfl rfl rfl rfl rfl (ow_vr (vr_move (v := .int .i64 _) rfl) ?_)
                    refine wl_yes rfl rfl rfl rfl rfl (ow_vr (vr_eql rfl rfl) ?_)
                    refine wl_op rfl rfl (ow_vr (vr_pick (b := true) (v := .bool _) rfl rfl) ?_)
                    refine wl_op rfl rfl (ow_vr (vr_move (v := .bool _) rfl) ?_)
                    refine wl_known 63 rfl (c := true) (by simp) ?_
                    refine wl_yes rfl rfl rfl rfl rfl (ow_vr (vr_move (v := .pointer _) rfl) ?_)
                    refine wl_yes rfl rfl rfl rfl rfl (ow_fn (vs := [.pointer _]) en_13 rfl hS (loop_Head q p _) ?_)
                    clear hS; rintro v65 _ w ⟨rfl, rfl⟩ hS; (try simp only [List.cons_append, List.nil_append] at hS)
                    refine wl_yes rfl rfl rfl rfl rfl (ow_vr (vr_eql rfl rfl) ?_)
                    refine wl_op rfl rfl (ow_vr (vr_pick (b := true) (v := .bool _) rfl rfl) ?_)
                    refine wl_op rfl rfl (ow_vr (vr_assign (v := .bool _) rfl) ?_)
                    refine wl_nil ?_
                    refine hK21 _ _ ?_
                    refine cw_ret ?_
                    refine thenF_ret (?_)
                    refine ret_one (fn := Tryd.f6) (n := 92) (t := 6) (.inl rfl) rfl rfl ?_
                    exact ⟨[], ⟨rfl, rfl⟩, hS.tail1.tail1⟩
                  · (try simp only [decide_eq_true_eq, decide_eq_false_iff_not, Bool.not_eq_true, Bool.not_eq_false, Bool.not_eq_true', Bool.not_eq_false', Bool.and_eq_true, Bool.or_eq_true, Bool.and_eq_false_iff, Bool.or_eq_false_iff, Int.not_lt, Int.not_le, gt_iff_lt, ge_iff_le, ne_eq, Decidable.not_not, beq_iff_eq] at hc)
                    have hc3 := hc; clear hc
                    refine cw_skip ?_
                    refine hK18 _ _ ?_
                    refine cw_seq fun K22 hK22 => ?_
                    have hC := loop_Cut q p ⟨0, 20, 5, x, a⟩ b
                    have hce : cutL ⟨0, 20, 5, x, a⟩ b = (0, ⟨0, 20, x, x, b⟩) := by rw [cutL, if_neg (by simp only; omega)]
                    rw [hce] at hC
                    have hIc := a3.cut (e := b) (by simp only; omega)
                    refine cw_region ?_
                    refine wl_op rfl rfl (ow_vr (vr_move (v := .pointer _) rfl) ?_)
                    refine wl_op rfl rfl (ow_vr (vr_move (v := .int .i64 _) rfl) ?_)
                    refine wl_op rfl rfl (ow_fn (vs := [.pointer _, .int .i64 _]) en_11 rfl hS (hC) ?_)
                    clear hS; rintro v70 _ w ⟨rfl, rfl⟩ hS; (try simp only [List.cons_append, List.nil_append] at hS)
                    refine wl_op rfl rfl (ow_vr (vr_eql rfl rfl) ?_)
                    refine wl_op rfl rfl (ow_vr (vr_move (v := .bool _) rfl) ?_)
                    refine wl_known 72 rfl (c := true) (rfl) ?_
                    refine wl_yes rfl rfl rfl rfl rfl (ow_vr (vr_move (v := .pointer _) rfl) ?_)
                    refine wl_yes rfl rfl rfl rfl rfl (ow_fn (vs := [.pointer _]) en_16 rfl hS (loop_Room q p ⟨0, 20, x, x, b⟩ hIc.wf) ?_)
                    clear hS; rintro v74 _ w ⟨rfl, rfl⟩ hS; (try simp only [List.cons_append, List.nil_append] at hS)
                    refine wl_yes rfl rfl rfl rfl rfl (ow_vr (vr_eql rfl rfl) ?_)
                    refine wl_op rfl rfl (ow_vr (vr_pick (b := true) (v := .bool _) rfl rfl) ?_)
                    refine wl_op rfl rfl (ow_vr (vr_move (v := .bool _) rfl) ?_)
                    refine wl_known 77 rfl (c := true) (by simp) ?_
                    refine wl_yes rfl rfl rfl rfl rfl (ow_vr (vr_move (v := .pointer _) rfl) ?_)
                    refine wl_yes rfl rfl rfl rfl rfl (ow_fn (vs := [.pointer _]) en_13 rfl hS (loop_Head q p _) ?_)
                    clear hS; rintro v79 _ w ⟨rfl, rfl⟩ hS; (try simp only [List.cons_append, List.nil_append] at hS)
                    refine wl_yes rfl rfl rfl rfl rfl (ow_vr (vr_move (v := .pointer _) rfl) ?_)
                    refine wl_yes rfl rfl rfl rfl rfl (ow_fn (vs := [.pointer _]) en_14 rfl hS (loop_Next q p _) ?_)
                    clear hS; rintro v81 _ w ⟨rfl, rfl⟩ hS; (try simp only [List.cons_append, List.nil_append] at hS)
                    refine wl_yes rfl rfl rfl rfl rfl (ow_vr (vr_eql rfl rfl) ?_)
                    refine wl_op rfl rfl (ow_vr (vr_pick (b := true) (v := .bool _) rfl rfl) ?_)
                    refine wl_op rfl rfl (ow_vr (vr_move (v := .bool _) rfl) ?_)
                    refine wl_known 84 rfl (c := true) (by simp) ?_
                    refine wl_yes rfl rfl rfl rfl rfl (ow_vr (vr_move (v := .pointer _) rfl) ?_)
                    refine wl_yes rfl rfl rfl rfl rfl (ow_fn (vs := [.pointer _]) en_14 rfl hS (loop_Next q p _) ?_)
                    clear hS; rintro v86 _ w ⟨rfl, rfl⟩ hS; (try simp only [List.cons_append, List.nil_append] at hS)
                    refine wl_yes rfl rfl rfl rfl rfl (ow_vr (vr_move (v := v) rfl) ?_)
                    refine wl_yes rfl rfl rfl rfl rfl (ow_vr (vr_len_v (v := v) Tryd.underlying27 rfl hv) ?_)
                    first | (refine wl_yes rfl rfl rfl rfl rfl (ow_vr (vr_addi rfl rfl (by unfold inI64; omega)) ?_)) | (refine wl_yes rfl rfl rfl rfl rfl (ow_vr (vr_add rfl rfl) ?_))
                    refine wl_yes rfl rfl rfl rfl rfl (ow_vr (vr_eql rfl rfl) ?_)
                    refine wl_op rfl rfl (ow_vr (vr_pick (b := true) (v := .bool _) rfl rfl) ?_)
                    refine wl_op rfl rfl (ow_vr (vr_assign (v := .bool _) rfl) ?_)
                    refine wl_nil ?_
                    refine hK22 _ _ ?_
                    refine cw_ret ?_
                    refine ret_one (fn := Tryd.f6) (n := 92) (t := 6) (.inl rfl) rfl rfl ?_
                    exact ⟨[], ⟨congrArg Value.bool (by simp; omega), rfl⟩, hS.tail1.tail1⟩
theorem cut_to {L : Lp} {e : Int} (h : L.epoch < e) (h2 : e < 1000000000) : cutL L e = (0, { L with head := L.next, epoch := e }) := by rw [cutL, if_neg (by omega)]
def sqL (k : Nat) : List (Int × Int) := (List.range k).map fun (i : Nat) => ((i : Int), (i : Int) * (i : Int))
theorem sqL_length (k : Nat) : (sqL k).length = k := by simp [sqL]
theorem sqL_succ (k : Nat) : sqL (k + 1) = sqL k ++ [((k : Int), (k : Int) * (k : Int))] := by simp [sqL, List.range_succ]
theorem sqL_ok {k : Nat} (hk : k ≤ 30) : ∀ x ∈ sqL k, okN x.1 = true ∧ okN x.2 = true := by
  intro x hx
  simp only [sqL, List.mem_map, List.mem_range] at hx
  obtain ⟨i, hi, rfl⟩ := hx
  have h1 : (i : Int) * (i : Int) ≤ 30 * 30 := Int.mul_le_mul (by omega) (by omega) (by omega) (by omega)
  have h2 : 0 ≤ (i : Int) * (i : Int) := Int.mul_nonneg (by omega) (by omega)
  simp [okN]; omega
theorem loop_around (n k times : Int) {G : Chunk} (hG : Glob G) :
    FnG Tryd.prog 5 [.int .i64 n, .int .i64 k, .int .i64 times] [G] (fun u Δs => u = .bool true ∧ Δs = []) := by
  refine FnG.mk fun E F w hS hF => ?_
  have hFg : G ∈ F := hF _ (by simp)
  refine returns_enter Tryd.func5 rfl Tryd.ntmps5 rfl ?_
  refine cw_seq fun K1 hK1 => ?_
  refine cw_region ?_
  refine wl_op rfl rfl (ow_vr (vr_assign (v := .bool false) rfl) ?_)
  refine wl_nil ?_
  refine hK1 _ _ ?_
  refine cw_seq fun K2 hK2 => ?_
  refine cw_seq fun K3 hK3 => ?_
  refine cw_region ?_
  refine wl_op rfl rfl (ow_vr (vr_move (v := .int .i64 _) rfl) ?_)
  refine wl_op rfl rfl (ow_vr (vr_lss rfl rfl) ?_)
  refine wl_op rfl rfl (ow_vr (vr_move (v := .bool _) rfl) ?_)
  refine wl_split 17 rfl (fun hc => ?_) (fun hc => ?_)
  · (try simp only [decide_eq_true_eq, decide_eq_false_iff_not, Bool.not_eq_true, Bool.not_eq_false, Bool.not_eq_true', Bool.not_eq_false', Bool.and_eq_true, Bool.or_eq_true, Bool.and_eq_false_iff, Bool.or_eq_false_iff, Int.not_lt, Int.not_le, gt_iff_lt, ge_iff_le, ne_eq, Decidable.not_not, beq_iff_eq] at hc)
    have hg17 := hc; clear hc
    refine wl_noD rfl rfl rfl rfl rfl rfl ?_
    refine wl_noD rfl rfl rfl rfl rfl rfl ?_
    refine wl_op rfl rfl (ow_vr (vr_pick (b := true) (v := .bool _) rfl rfl) ?_)
    refine wl_op rfl rfl (ow_vr (vr_move (v := .bool _) rfl) ?_)
    refine wl_noD rfl rfl rfl rfl rfl rfl ?_
    refine wl_noD rfl rfl rfl rfl rfl rfl ?_
    refine wl_op rfl rfl (ow_vr (vr_pick (b := true) (v := .bool _) rfl rfl) ?_)
    refine wl_op rfl rfl (ow_vr (vr_move (v := .bool _) rfl) ?_)
    refine wl_noD rfl rfl rfl rfl rfl rfl ?_
    refine wl_noD rfl rfl rfl rfl rfl rfl ?_
    refine wl_noD rfl rfl rfl rfl rfl rfl ?_
    refine wl_op rfl rfl (ow_vr (vr_pick (b := true) (v := .bool _) rfl rfl) ?_)
    refine wl_op rfl rfl (ow_vr (vr_move (v := .bool _) rfl) ?_)
    refine wl_noD rfl rfl rfl rfl rfl rfl ?_
    refine wl_noD rfl rfl rfl rfl rfl rfl ?_
    refine wl_op rfl rfl (ow_vr (vr_pick (b := true) (v := .bool _) rfl rfl) ?_)
    refine wl_op rfl rfl (ow_vr (vr_move (v := .bool _) rfl) ?_)
    refine wl_noD rfl rfl rfl rfl rfl rfl ?_
    refine wl_noD rfl rfl rfl rfl rfl rfl ?_
    refine wl_op rfl rfl (ow_vr (vr_pick (b := true) (v := .bool _) rfl rfl) ?_)
    refine wl_op rfl rfl (ow_vr (vr_move (v := .bool _) rfl) ?_)
    refine wl_noD rfl rfl rfl rfl rfl rfl ?_
    refine wl_noD rfl rfl rfl rfl rfl rfl ?_
    refine wl_op rfl rfl (ow_vr (vr_pick (b := true) (v := .bool _) rfl rfl) ?_)
    refine wl_nil ?_
    refine hK3 _ _ ?_
    refine cw_cond_t rfl rfl (rfl) ?_
    refine cw_seq fun K4 hK4 => ?_
    refine cw_region ?_
    refine wl_op rfl rfl (ow_fng (vs := []) en_7 rfl hS (alive7 hG) (by repeat (first | exact needs0 | (refine needsC ?_ ?_; · (repeat (first | exact List.mem_cons_self | assumption | refine List.mem_cons_of_mem _ ?_))))) ?_)
    clear hS; rintro v42 _ w ⟨rfl, rfl⟩ hS; (try simp only [List.cons_append, List.nil_append] at hS)
    refine wl_op rfl rfl (ow_vr (vr_assign (v := .bool _) rfl) ?_)
    refine wl_nil ?_
    refine hK4 _ _ ?_
    refine cw_ret ?_
    refine thenF_ret (?_)
    refine ret_one (fn := Tryd.f5) (n := 127) (t := 6) (.inl rfl) rfl rfl ?_
    exact ⟨[], ⟨rfl, rfl⟩, hS⟩
  · (try simp only [decide_eq_true_eq, decide_eq_false_iff_not, Bool.not_eq_true, Bool.not_eq_false, Bool.not_eq_true', Bool.not_eq_false', Bool.and_eq_true, Bool.or_eq_true, Bool.and_eq_false_iff, Bool.or_eq_false_iff, Int.not_lt, Int.not_le, gt_iff_lt, ge_iff_le, ne_eq, Decidable.not_not, beq_iff_eq] at hc)
    have hg17 := hc; clear hc
    refine wl_yes rfl rfl rfl rfl rfl (ow_vr (vr_move (v := .int .i64 _) rfl) ?_)
    refine wl_yes rfl rfl rfl rfl rfl (ow_vr (vr_gtr rfl rfl) ?_)
    refine wl_op rfl rfl (ow_vr (vr_pick (b := false) (v := .bool _) rfl rfl) ?_)
    refine wl_op rfl rfl (ow_vr (vr_move (v := .bool _) rfl) ?_)
    refine wl_split 21 rfl (fun hc => ?_) (fun hc => ?_)
    · (try simp only [decide_eq_true_eq, decide_eq_false_iff_not, Bool.not_eq_true, Bool.not_eq_false, Bool.not_eq_true', Bool.not_eq_false', Bool.and_eq_true, Bool.or_eq_true, Bool.and_eq_false_iff, Bool.or_eq_false_iff, Int.not_lt, Int.not_le, gt_iff_lt, ge_iff_le, ne_eq, Decidable.not_not, beq_iff_eq] at hc)
      have hg21 := hc; clear hc
      refine wl_noD rfl rfl rfl rfl rfl rfl ?_
      refine wl_noD rfl rfl rfl rfl rfl rfl ?_
      refine wl_op rfl rfl (ow_vr (vr_pick (b := true) (v := .bool _) rfl rfl) ?_)
      refine wl_op rfl rfl (ow_vr (vr_move (v := .bool _) rfl) ?_)
      refine wl_noD rfl rfl rfl rfl rfl rfl ?_
      refine wl_noD rfl rfl rfl rfl rfl rfl ?_
      refine wl_noD rfl rfl rfl rfl rfl rfl ?_
      refine wl_op rfl rfl (ow_vr (vr_pick (b := true) (v := .bool _) rfl rfl) ?_)
      refine wl_op rfl rfl (ow_vr (vr_move (v := .bool _) rfl) ?_)
      refine wl_noD rfl rfl rfl rfl rfl rfl ?_
      refine wl_noD rfl rfl rfl rfl rfl rfl ?_
      refine wl_op rfl rfl (ow_vr (vr_pick (b := true) (v := .bool _) rfl rfl) ?_)
      refine wl_op rfl rfl (ow_vr (vr_move (v := .bool _) rfl) ?_)
      refine wl_noD rfl rfl rfl rfl rfl rfl ?_
      refine wl_noD rfl rfl rfl rfl rfl rfl ?_
      refine wl_op rfl rfl (ow_vr (vr_pick (b := true) (v := .bool _) rfl rfl) ?_)
      refine wl_op rfl rfl (ow_vr (vr_move (v := .bool _) rfl) ?_)
      refine wl_noD rfl rfl rfl rfl rfl rfl ?_
      refine wl_noD rfl rfl rfl rfl rfl rfl ?_
      refine wl_op rfl rfl (ow_vr (vr_pick (b := true) (v := .bool _) rfl rfl) ?_)
      refine wl_nil ?_
      refine hK3 _ _ ?_
      refine cw_cond_t rfl rfl (rfl) ?_
      refine cw_seq fun K5 hK5 => ?_
      refine cw_region ?_
      refine wl_op rfl rfl (ow_fng (vs := []) en_7 rfl hS (alive7 hG) (by repeat (first | exact needs0 | (refine needsC ?_ ?_; · (repeat (first | exact List.mem_cons_self | assumption | refine List.mem_cons_of_mem _ ?_))))) ?_)
      clear hS; rintro v42 _ w ⟨rfl, rfl⟩ hS; (try simp only [List.cons_append, List.nil_append] at hS)
      refine wl_op rfl rfl (ow_vr (vr_assign (v := .bool _) rfl) ?_)
      refine wl_nil ?_
      refine hK5 _ _ ?_
      refine cw_ret ?_
      refine thenF_ret (?_)
      refine ret_one (fn := Tryd.f5) (n := 127) (t := 6) (.inl rfl) rfl rfl ?_
      exact ⟨[], ⟨rfl, rfl⟩, hS⟩
    · (try simp only [decide_eq_true_eq, decide_eq_false_iff_not, Bool.not_eq_true, Bool.not_eq_false, Bool.not_eq_true', Bool.not_eq_false', Bool.and_eq_true, Bool.or_eq_true, Bool.and_eq_false_iff, Bool.or_eq_false_iff, Int.not_lt, Int.not_le, gt_iff_lt, ge_iff_le, ne_eq, Decidable.not_not, beq_iff_eq] at hc)
      have hg21 := hc; clear hc
      refine wl_yes rfl rfl rfl rfl rfl (ow_vr (vr_move (v := .int .i64 _) rfl) ?_)
      refine wl_yes rfl rfl rfl rfl rfl (ow_vr (vr_lss rfl rfl) ?_)
      refine wl_op rfl rfl (ow_vr (vr_pick (b := false) (v := .bool _) rfl rfl) ?_)
      refine wl_op rfl rfl (ow_vr (vr_move (v := .bool _) rfl) ?_)
      refine wl_split 25 rfl (fun hc => ?_) (fun hc => ?_)
      · (try simp only [decide_eq_true_eq, decide_eq_false_iff_not, Bool.not_eq_true, Bool.not_eq_false, Bool.not_eq_true', Bool.not_eq_false', Bool.and_eq_true, Bool.or_eq_true, Bool.and_eq_false_iff, Bool.or_eq_false_iff, Int.not_lt, Int.not_le, gt_iff_lt, ge_iff_le, ne_eq, Decidable.not_not, beq_iff_eq] at hc)
        have hg25 := hc; clear hc
        refine wl_noD rfl rfl rfl rfl rfl rfl ?_
        refine wl_noD rfl rfl rfl rfl rfl rfl ?_
        refine wl_noD rfl rfl rfl rfl rfl rfl ?_
        refine wl_op rfl rfl (ow_vr (vr_pick (b := true) (v := .bool _) rfl rfl) ?_)
        refine wl_op rfl rfl (ow_vr (vr_move (v := .bool _) rfl) ?_)
        refine wl_noD rfl rfl rfl rfl rfl rfl ?_
        refine wl_noD rfl rfl rfl rfl rfl rfl ?_
        refine wl_op rfl rfl (ow_vr (vr_pick (b := true) (v := .bool _) rfl rfl) ?_)
        refine wl_op rfl rfl (ow_vr (vr_move (v := .bool _) rfl) ?_)
        refine wl_noD rfl rfl rfl rfl rfl rfl ?_
        refine wl_noD rfl rfl rfl rfl rfl rfl ?_
        refine wl_op rfl rfl (ow_vr (vr_pick (b := true) (v := .bool _) rfl rfl) ?_)
        refine wl_op rfl rfl (ow_vr (vr_move (v := .bool _) rfl) ?_)
        refine wl_noD rfl rfl rfl rfl rfl rfl ?_
        refine wl_noD rfl rfl rfl rfl rfl rfl ?_
        refine wl_op rfl rfl (ow_vr (vr_pick (b := true) (v := .bool _) rfl rfl) ?_)
        refine wl_nil ?_
        refine hK3 _ _ ?_
        refine cw_cond_t rfl rfl (rfl) ?_
        refine cw_seq fun K6 hK6 => ?_
        refine cw_region ?_
        refine wl_op rfl rfl (ow_fng (vs := []) en_7 rfl hS (alive7 hG) (by repeat (first | exact needs0 | (refine needsC ?_ ?_; · (repeat (first | exact List.mem_cons_self | assumption | refine List.mem_cons_of_mem _ ?_))))) ?_)
        clear hS; rintro v42 _ w ⟨rfl, rfl⟩ hS; (try simp only [List.cons_append, List.nil_append] at hS)
        refine wl_op rfl rfl (ow_vr (vr_assign (v := .bool _) rfl) ?_)
        refine wl_nil ?_
        refine hK6 _ _ ?_
        refine cw_ret ?_
        refine thenF_ret (?_)
        refine ret_one (fn := Tryd.f5) (n := 127) (t := 6) (.inl rfl) rfl rfl ?_
        exact ⟨[], ⟨rfl, rfl⟩, hS⟩
      · (try simp only [decide_eq_true_eq, decide_eq_false_iff_not, Bool.not_eq_true, Bool.not_eq_false, Bool.not_eq_true', Bool.not_eq_false', Bool.and_eq_true, Bool.or_eq_true, Bool.and_eq_false_iff, Bool.or_eq_false_iff, Int.not_lt, Int.not_le, gt_iff_lt, ge_iff_le, ne_eq, Decidable.not_not, beq_iff_eq] at hc)
        have hg25 := hc; clear hc
        refine wl_yes rfl rfl rfl rfl rfl (ow_vr (vr_move (v := .int .i64 _) rfl) ?_)
        refine wl_yes rfl rfl rfl rfl rfl (ow_vr (vr_move (v := .int .i64 _) rfl) ?_)
        refine wl_yes rfl rfl rfl rfl rfl (ow_vr (vr_geq rfl rfl) ?_)
        refine wl_op rfl rfl (ow_vr (vr_pick (b := false) (v := .bool _) rfl rfl) ?_)
        refine wl_op rfl rfl (ow_vr (vr_move (v := .bool _) rfl) ?_)
        refine wl_split 30 rfl (fun hc => ?_) (fun hc => ?_)
        · (try simp only [decide_eq_true_eq, decide_eq_false_iff_not, Bool.not_eq_true, Bool.not_eq_false, Bool.not_eq_true', Bool.not_eq_false', Bool.and_eq_true, Bool.or_eq_true, Bool.and_eq_false_iff, Bool.or_eq_false_iff, Int.not_lt, Int.not_le, gt_iff_lt, ge_iff_le, ne_eq, Decidable.not_not, beq_iff_eq] at hc)
          have hg30 := hc; clear hc
          refine wl_noD rfl rfl rfl rfl rfl rfl ?_
          refine wl_noD rfl rfl rfl rfl rfl rfl ?_
          refine wl_op rfl rfl (ow_vr (vr_pick (b := true) (v := .bool _) rfl rfl) ?_)
          refine wl_op rfl rfl (ow_vr (vr_move (v := .bool _) rfl) ?_)
          refine wl_noD rfl rfl rfl rfl rfl rfl ?_
          refine wl_noD rfl rfl rfl rfl rfl rfl ?_
          refine wl_op rfl rfl (ow_vr (vr_pick (b := true) (v := .bool _) rfl rfl) ?_)
          refine wl_op rfl rfl (ow_vr (vr_move (v := .bool _) rfl) ?_)
          refine wl_noD rfl rfl rfl rfl rfl rfl ?_
          refine wl_noD rfl rfl rfl rfl rfl rfl ?_
          refine wl_op rfl rfl (ow_vr (vr_pick (b := true) (v := .bool _) rfl rfl) ?_)
          refine wl_nil ?_
          refine hK3 _ _ ?_
          refine cw_cond_t rfl rfl (rfl) ?_
          refine cw_seq fun K7 hK7 => ?_
          refine cw_region ?_
          refine wl_op rfl rfl (ow_fng (vs := []) en_7 rfl hS (alive7 hG) (by repeat (first | exact needs0 | (refine needsC ?_ ?_; · (repeat (first | exact List.mem_cons_self | assumption | refine List.mem_cons_of_mem _ ?_))))) ?_)
          clear hS; rintro v42 _ w ⟨rfl, rfl⟩ hS; (try simp only [List.cons_append, List.nil_append] at hS)
          refine wl_op rfl rfl (ow_vr (vr_assign (v := .bool _) rfl) ?_)
          refine wl_nil ?_
          refine hK7 _ _ ?_
          refine cw_ret ?_
          refine thenF_ret (?_)
          refine ret_one (fn := Tryd.f5) (n := 127) (t := 6) (.inl rfl) rfl rfl ?_
          exact ⟨[], ⟨rfl, rfl⟩, hS⟩
        · (try simp only [decide_eq_true_eq, decide_eq_false_iff_not, Bool.not_eq_true, Bool.not_eq_false, Bool.not_eq_true', Bool.not_eq_false', Bool.and_eq_true, Bool.or_eq_true, Bool.and_eq_false_iff, Bool.or_eq_false_iff, Int.not_lt, Int.not_le, gt_iff_lt, ge_iff_le, ne_eq, Decidable.not_not, beq_iff_eq] at hc)
          have hg30 := hc; clear hc
          refine wl_yes rfl rfl rfl rfl rfl (ow_vr (vr_move (v := .int .i64 _) rfl) ?_)
          refine wl_yes rfl rfl rfl rfl rfl (ow_vr (vr_lss rfl rfl) ?_)
          refine wl_op rfl rfl (ow_vr (vr_pick (b := false) (v := .bool _) rfl rfl) ?_)
          refine wl_op rfl rfl (ow_vr (vr_move (v := .bool _) rfl) ?_)
          refine wl_split 34 rfl (fun hc => ?_) (fun hc => ?_)
          · (try simp only [decide_eq_true_eq, decide_eq_false_iff_not, Bool.not_eq_true, Bool.not_eq_false, Bool.not_eq_true', Bool.not_eq_false', Bool.and_eq_true, Bool.or_eq_true, Bool.and_eq_false_iff, Bool.or_eq_false_iff, Int.not_lt, Int.not_le, gt_iff_lt, ge_iff_le, ne_eq, Decidable.not_not, beq_iff_eq] at hc)
            have hg34 := hc; clear hc
            refine wl_noD rfl rfl rfl rfl rfl rfl ?_
            refine wl_noD rfl rfl rfl rfl rfl rfl ?_
            refine wl_op rfl rfl (ow_vr (vr_pick (b := true) (v := .bool _) rfl rfl) ?_)
            refine wl_op rfl rfl (ow_vr (vr_move (v := .bool _) rfl) ?_)
            refine wl_noD rfl rfl rfl rfl rfl rfl ?_
            refine wl_noD rfl rfl rfl rfl rfl rfl ?_
            refine wl_op rfl rfl (ow_vr (vr_pick (b := true) (v := .bool _) rfl rfl) ?_)
            refine wl_nil ?_
            refine hK3 _ _ ?_
            refine cw_cond_t rfl rfl (rfl) ?_
            refine cw_seq fun K8 hK8 => ?_
            refine cw_region ?_
            refine wl_op rfl rfl (ow_fng (vs := []) en_7 rfl hS (alive7 hG) (by repeat (first | exact needs0 | (refine needsC ?_ ?_; · (repeat (first | exact List.mem_cons_self | assumption | refine List.mem_cons_of_mem _ ?_))))) ?_)
            clear hS; rintro v42 _ w ⟨rfl, rfl⟩ hS; (try simp only [List.cons_append, List.nil_append] at hS)
            refine wl_op rfl rfl (ow_vr (vr_assign (v := .bool _) rfl) ?_)
            refine wl_nil ?_
            refine hK8 _ _ ?_
            refine cw_ret ?_
            refine thenF_ret (?_)
            refine ret_one (fn := Tryd.f5) (n := 127) (t := 6) (.inl rfl) rfl rfl ?_
            exact ⟨[], ⟨rfl, rfl⟩, hS⟩
          · (try simp only [decide_eq_true_eq, decide_eq_false_iff_not, Bool.not_eq_true, Bool.not_eq_false, Bool.not_eq_true', Bool.not_eq_false', Bool.and_eq_true, Bool.or_eq_true, Bool.and_eq_false_iff, Bool.or_eq_false_iff, Int.not_lt, Int.not_le, gt_iff_lt, ge_iff_le, ne_eq, Decidable.not_not, beq_iff_eq] at hc)
            have hg34 := hc; clear hc
            refine wl_yes rfl rfl rfl rfl rfl (ow_vr (vr_move (v := .int .i64 _) rfl) ?_)
            refine wl_yes rfl rfl rfl rfl rfl (ow_vr (vr_gtr rfl rfl) ?_)
            refine wl_op rfl rfl (ow_vr (vr_pick (b := false) (v := .bool _) rfl rfl) ?_)
            refine wl_op rfl rfl (ow_vr (vr_move (v := .bool _) rfl) ?_)
            refine wl_split 38 rfl (fun hc => ?_) (fun hc => ?_)
            · (try simp only [decide_eq_true_eq, decide_eq_false_iff_not, Bool.not_eq_true, Bool.not_eq_false, Bool.not_eq_true', Bool.not_eq_false', Bool.and_eq_true, Bool.or_eq_true, Bool.and_eq_false_iff, Bool.or_eq_false_iff, Int.not_lt, Int.not_le, gt_iff_lt, ge_iff_le, ne_eq, Decidable.not_not, beq_iff_eq] at hc)
              have hg38 := hc; clear hc
              refine wl_noD rfl rfl rfl rfl rfl rfl ?_
              refine wl_noD rfl rfl rfl rfl rfl rfl ?_
              refine wl_op rfl rfl (ow_vr (vr_pick (b := true) (v := .bool _) rfl rfl) ?_)
              refine wl_nil ?_
              refine hK3 _ _ ?_
              refine cw_cond_t rfl rfl (rfl) ?_
              refine cw_seq fun K9 hK9 => ?_
              refine cw_region ?_
              refine wl_op rfl rfl (ow_fng (vs := []) en_7 rfl hS (alive7 hG) (by repeat (first | exact needs0 | (refine needsC ?_ ?_; · (repeat (first | exact List.mem_cons_self | assumption | refine List.mem_cons_of_mem _ ?_))))) ?_)
              clear hS; rintro v42 _ w ⟨rfl, rfl⟩ hS; (try simp only [List.cons_append, List.nil_append] at hS)
              refine wl_op rfl rfl (ow_vr (vr_assign (v := .bool _) rfl) ?_)
              refine wl_nil ?_
              refine hK9 _ _ ?_
              refine cw_ret ?_
              refine thenF_ret (?_)
              refine ret_one (fn := Tryd.f5) (n := 127) (t := 6) (.inl rfl) rfl rfl ?_
              exact ⟨[], ⟨rfl, rfl⟩, hS⟩
            · (try simp only [decide_eq_true_eq, decide_eq_false_iff_not, Bool.not_eq_true, Bool.not_eq_false, Bool.not_eq_true', Bool.not_eq_false', Bool.and_eq_true, Bool.or_eq_true, Bool.and_eq_false_iff, Bool.or_eq_false_iff, Int.not_lt, Int.not_le, gt_iff_lt, ge_iff_le, ne_eq, Decidable.not_not, beq_iff_eq] at hc)
              have hg38 := hc; clear hc
              refine wl_yes rfl rfl rfl rfl rfl (ow_fng (vs := []) en_7 rfl hS (alive7 hG) (by repeat (first | exact needs0 | (refine needsC ?_ ?_; · (repeat (first | exact List.mem_cons_self | assumption | refine List.mem_cons_of_mem _ ?_))))) ?_)
              clear hS; rintro v39 _ w ⟨rfl, rfl⟩ hS; (try simp only [List.cons_append, List.nil_append] at hS)
              refine wl_yes rfl rfl rfl rfl rfl (ow_vr (vr_not rfl) ?_)
              refine wl_op rfl rfl (ow_vr (vr_pick (b := false) (v := .bool _) rfl rfl) ?_)
              refine wl_nil ?_
              refine hK3 _ _ ?_
              refine cw_cond rfl rfl (fun hc => ?_) (fun hc => ?_)
              · (try simp only [decide_eq_true_eq, decide_eq_false_iff_not, Bool.not_eq_true, Bool.not_eq_false, Bool.not_eq_true', Bool.not_eq_false', Bool.and_eq_true, Bool.or_eq_true, Bool.and_eq_false_iff, Bool.or_eq_false_iff, Int.not_lt, Int.not_le, gt_iff_lt, ge_iff_le, ne_eq, Decidable.not_not, beq_iff_eq] at hc)
                have hc0 := hc; clear hc
                refine cw_seq fun K10 hK10 => ?_
                refine cw_region ?_
                refine wl_op rfl rfl (ow_fng (vs := []) en_7 rfl hS (alive7 hG) (by repeat (first | exact needs0 | (refine needsC ?_ ?_; · (repeat (first | exact List.mem_cons_self | assumption | refine List.mem_cons_of_mem _ ?_))))) ?_)
                clear hS; rintro v42 _ w ⟨rfl, rfl⟩ hS; (try simp only [List.cons_append, List.nil_append] at hS)
                refine wl_op rfl rfl (ow_vr (vr_assign (v := .bool _) rfl) ?_)
                refine wl_nil ?_
                refine hK10 _ _ ?_
                refine cw_ret ?_
                refine thenF_ret (?_)
                refine ret_one (fn := Tryd.f5) (n := 127) (t := 6) (.inl rfl) rfl rfl ?_
                exact ⟨[], ⟨rfl, rfl⟩, hS⟩
              · (try simp only [decide_eq_true_eq, decide_eq_false_iff_not, Bool.not_eq_true, Bool.not_eq_false, Bool.not_eq_true', Bool.not_eq_false', Bool.and_eq_true, Bool.or_eq_true, Bool.and_eq_false_iff, Bool.or_eq_false_iff, Int.not_lt, Int.not_le, gt_iff_lt, ge_iff_le, ne_eq, Decidable.not_not, beq_iff_eq] at hc)
                have hc0 := hc; clear hc
                refine cw_skip ?_
                refine hK2 _ _ ?_
                refine cw_seq fun K11 hK11 => ?_
                obtain ⟨K, rfl⟩ := Int.eq_ofNat_of_zero_le (show 0 ≤ k by omega)
                obtain ⟨T, rfl⟩ := Int.eq_ofNat_of_zero_le (show 0 ≤ times by omega)
                have hc := Calm.new (n := n) (by omega) (by omega)
                have hw : WfL ⟨0, n, 0, 0, 1⟩ := wfL (by omega)
                have hI := LogI.new (n := n) hw (by omega)
                refine cw_region ?_
                refine wl_op rfl rfl (ow_vr (vr_move (v := .int .i64 _) rfl) ?_)
                refine wl_op rfl rfl (ow_fn (vs := [.int .i64 _]) en_8 rfl hS (disk_New' (n := n) (by omega) (by omega)) ?_)
                clear hS; rintro v44 _ w ⟨p, Δ0, rfl, rfl, hd0⟩ hS; (try simp only [List.cons_append, List.nil_append] at hS)
                refine wl_op rfl rfl (ow_vr (vr_assign (v := .pointer _) rfl) ?_)
                refine wl_nil ?_
                refine hK11 _ _ ?_
                refine cw_seq fun K12 hK12 => ?_
                refine cw_region ?_
                refine wl_op rfl rfl (ow_vr (vr_move (v := .pointer _) rfl) ?_)
                refine wl_op rfl rfl (ow_vr (vr_move (v := .int .i64 _) rfl) ?_)
                refine wl_op rfl rfl (ow_fn (vs := [.pointer _, .int .i64 _, .int .i64 _, .int .i64 _, .int .i64 _, .int .i64 _]) en_9 rfl hS (loop_NewT hd0 hc.wf ⟨0, n, 0, 0, 1⟩ (by simp [mayL, newD]; omega)) ?_)
                clear hS; rintro v47 _ w ⟨q, rfl, rfl⟩ hS; (try simp only [List.cons_append, List.nil_append] at hS)
                refine wl_op rfl rfl (ow_vr (vr_assign (v := .pointer _) rfl) ?_)
                refine wl_nil ?_
                refine hK12 _ _ ?_
                refine cw_seq fun K13 hK13 => ?_
                refine cw_seq fun K14 hK14 => ?_
                refine cw_region ?_
                refine wl_op rfl rfl (ow_vr (vr_move (v := .pointer _) rfl) ?_)
                refine wl_op rfl rfl (ow_vr (vr_eqnil Tryd.underlying25 rfl) ?_)
                refine wl_nil ?_
                refine hK14 _ _ ?_
                refine cw_cond_f rfl rfl (rfl) ?_
                refine cw_skip ?_
                refine hK13 _ _ ?_
                refine cw_seq fun K15 hK15 => ?_
                have hS := Sat.nilc.2 hS
                refine cw_region ?_
                refine wl_op rfl rfl (ow_vr (vr_assign (v := .slice none 0 0) rfl) ?_)
                refine wl_nil ?_
                refine hK15 _ _ ?_
                refine cw_seq fun K16 hK16 => ?_
                refine cw_seq fun K17 hK17 => ?_
                refine cw_region ?_
                refine wl_op rfl rfl (ow_vr (vr_as (v' := .int .i64 ((0 : Nat) : Int)) (vr_assign rfl) rfl) ?_)
                refine wl_nil ?_
                refine hK17 _ _ ?_
                refine cw_block ?_
                refine cw_loop (fun m f w => ∃ (i : Nat) (v9 : Value) (D9 : Chunk) (g : Nat → Value), f = (upd (upd (upd (upd (upd (upd (upd g 0 (.int .i64 n)) 1 (.int .i64 (K : Int))) 2 (.int .i64 (T : Int))) 7 (ptr p)) 8 (ptr q)) 9 (v9)) 10 (.int .i64 (i : Int))) ∧ (i ≤ K ∧ Own 39 2 encC v9 (sqL i) D9) ∧ m = K - i ∧ Sat E (D9 :: loopC q p ⟨0, n, 0, 0, 1⟩ :: Δ0 :: F) w) ⟨0, .slice none 0 0, [], _, (reb (reb (reb (reb (reb (reb (reb rfl rfl) rfl) rfl) rfl) rfl) rfl) rfl), ?_, rfl, hS⟩ ?_
                · exact ⟨by omega, Own.nil⟩
                clear hS; rintro m f w ⟨i, v9, D9, g, rfl, hI0, rfl, hS⟩
                obtain ⟨hi, ho9⟩ := hI0
                have hsl := sqL_length i
                have hmu : (i : Int) * (i : Int) ≤ 30 * 30 := Int.mul_le_mul (by omega) (by omega) (by omega) (by omega)
                have hmu0 : 0 ≤ (i : Int) * (i : Int) := Int.mul_nonneg (by omega) (by omega)
                refine cw_seq fun K18 hK18 => ?_
                refine cw_seq fun K19 hK19 => ?_
                refine cw_region ?_
                refine wl_op rfl rfl (ow_vr (vr_move (v := .int .i64 (i : Int)) rfl) ?_)
                refine wl_op rfl rfl (ow_vr (vr_move (v := .int .i64 (K : Int)) rfl) ?_)
                refine wl_op rfl rfl (ow_vr (vr_lss rfl rfl) ?_)
                refine wl_nil ?_
                refine hK19 _ _ ?_
                refine cw_cond rfl rfl (fun hc => ?_) (fun hc => ?_)
                · (try simp only [decide_eq_true_eq, decide_eq_false_iff_not, Bool.not_eq_true, Bool.not_eq_false, Bool.not_eq_true', Bool.not_eq_false', Bool.and_eq_true, Bool.or_eq_true, Bool.and_eq_false_iff, Bool.or_eq_false_iff, Int.not_lt, Int.not_le, gt_iff_lt, ge_iff_le, ne_eq, Decidable.not_not, beq_iff_eq] at hc)
                  have hc2 := hc; clear hc
                  refine cw_skip ?_
                  refine hK18 _ _ ?_
                  refine cw_seq fun K20 hK20 => ?_
                  refine cw_block ?_
                  refine cw_region ?_
                  refine wl_op rfl rfl (ow_vr (vr_move (v := v9) rfl) ?_)
                  refine wl_op rfl rfl (ow_vr (vr_move (v := .int .i64 (i : Int)) rfl) ?_)
                  refine wl_op rfl rfl (ow_vr (vr_move (v := .int .i64 (i : Int)) rfl) ?_)
                  refine wl_op rfl rfl (ow_vr (vr_move (v := .int .i64 (i : Int)) rfl) ?_)
                  first | (refine wl_op rfl rfl (ow_vr (vr_muli rfl rfl (by unfold inI64; omega)) ?_)) | (refine wl_op rfl rfl (ow_vr (vr_mul rfl rfl) ?_))
                  refine wl_op rfl rfl (ow_vr (vr_build (vs := [(0, .int .i64 _), (1, .int .i64 _)]) (cs := [.int .i64 _, .int .i64 _]) zr_39 pl_39 rfl rfl) ?_)
                  refine wl_op rfl rfl (ow_buildSliceD (m := 2) (len := 1) (vs := [.agg #[.int .i64 _, .int .i64 _]]) (cs := [.int .i64 _, .int .i64 _]) hS Tryd.underlying27 if_39 rfl (by decide) (by decide) rfl rfl (by simp [Value.cells]) rfl ?_)
                  clear hS; intro b61 w hS
                  refine wl_op rfl rfl (ow_append (v := v9) hS Tryd.underlying27 Tryd.underlying27 if_39 rfl (by decide) rfl rfl (by assumption) (View.single (x := ((i : Int), (i : Int) * (i : Int))) rfl rfl (by decide)) (by first | exact HasC.here | exact HasC.there (HasC.here) | exact HasC.there (HasC.there (HasC.here)) | exact HasC.there (HasC.there (HasC.there (HasC.here))) | exact HasC.there (HasC.there (HasC.there (HasC.there (HasC.here)))) | exact HasC.there (HasC.there (HasC.there (HasC.there (HasC.there (HasC.here))))) | exact HasC.there (HasC.there (HasC.there (HasC.there (HasC.there (HasC.there (HasC.here)))))) | exact HasC.there (HasC.there (HasC.there (HasC.there (HasC.there (HasC.there (HasC.there (HasC.here))))))) | exact HasC.there (HasC.there (HasC.there (HasC.there (HasC.there (HasC.there (HasC.there (HasC.there (HasC.here))))))))) (by repeat (first | exact List.mem_cons_self | assumption | refine List.mem_cons_of_mem _ ?_)) (by exact fun _ => rfl) (by exact fun _ => rfl) (by first | omega | (simp [maxLen] <;> omega) | (simp <;> omega)) (by first | omega | (simp [maxLen] <;> omega) | (simp <;> omega)) ?_)
                  clear hS; intro v62 D62 w ho62 hS
                  refine wl_op rfl rfl (ow_vr (vr_assign (v := v62) rfl) ?_)
                  refine wl_nil ?_
                  replace hS := hS.tail1
                  refine hK20 _ _ ?_
                  refine cw_region ?_
                  refine wl_op rfl rfl (ow_vr (vr_move (v := .int .i64 (i : Int)) rfl) ?_)
                  refine wl_op rfl rfl (ow_vr (vr_as (v' := .int .i64 ((i + 1 : Nat) : Int)) (vr_addi rfl rfl (by unfold inI64; omega)) (congrArg (Value.int .i64) (by omega))) ?_)
                  refine wl_op rfl rfl (ow_vr (vr_assign (v := .int .i64 _) rfl) ?_)
                  refine wl_nil ?_
                  refine thenF_normal ⟨_, ?_, i + 1, v62, D62, _, (reb (reb (reb (reb (reb (reb (reb rfl rfl) rfl) rfl) rfl) rfl) rfl) rfl), ?_, rfl, hS⟩
                  · omega
                  · exact ⟨by omega, by rw [sqL_succ]; exact ho62⟩
                · (try simp only [decide_eq_true_eq, decide_eq_false_iff_not, Bool.not_eq_true, Bool.not_eq_false, Bool.not_eq_true', Bool.not_eq_false', Bool.and_eq_true, Bool.or_eq_true, Bool.and_eq_false_iff, Bool.or_eq_false_iff, Int.not_lt, Int.not_le, gt_iff_lt, ge_iff_le, ne_eq, Decidable.not_not, beq_iff_eq] at hc)
                  have hc2 := hc; clear hc
                  refine cw_exit ?_
                  refine hK16 _ _ ?_
                  refine cw_seq fun K21 hK21 => ?_
                  refine cw_seq fun K22 hK22 => ?_
                  obtain rfl : i = K := by omega
                  have hok := sqL_ok (k := i) (by omega)
                  have hv9 := ho9.view (by exact fun _ => rfl)
                  replace hS := hS.front1.perm (flat_cons flat_swap)
                  refine cw_region ?_
                  refine wl_op rfl rfl (ow_vr (vr_as (v' := .int .i64 ((0 : Nat) : Int)) (vr_assign rfl) rfl) ?_)
                  refine wl_nil ?_
                  refine hK22 _ _ ?_
                  refine cw_block ?_
                  refine cw_loop (fun m f w => ∃ (j : Nat) (ep : Int) (x : Int) (d : Dsk) (Δd : Chunk) (g : Nat → Value), f = (upd (upd (upd (upd (upd (upd (upd g 0 (.int .i64 n)) 1 (.int .i64 (i : Int))) 2 (.int .i64 (T : Int))) 7 (ptr p)) 8 (ptr q)) 9 (v9)) 11 (.int .i64 (j : Int))) ∧ (j ≤ T ∧ DiskAt p d Δd ∧ LogI d ⟨0, n, x, x, ep⟩ [] [] ∧ ep = 1 + (j : Int) ∧ Calm d ∧ d.n = n ∧ x = (j : Int) * ((i : Int) + 1) ∧ x ≤ 31 * (j : Int)) ∧ m = T - j ∧ Sat E (loopC q p ⟨0, n, x, x, ep⟩ :: Δd :: D9 :: F) w) ⟨0, 1, 0, newD n, Δ0, _, (reb (reb (reb (reb (reb (reb (reb rfl rfl) rfl) rfl) rfl) rfl) rfl) rfl), ?_, rfl, hS⟩ ?_
                  · exact ⟨by omega, hd0, hI, by omega, hc, rfl, by simp, by omega⟩
                  clear hS; rintro m f w ⟨j, ep, x, d, Δd, g, rfl, hI1, rfl, hS⟩
                  obtain ⟨hj, hd, hI, hepj, hc, hdn, hx, hxb⟩ := hI1
                  refine cw_seq fun K23 hK23 => ?_
                  refine cw_seq fun K24 hK24 => ?_
                  refine cw_region ?_
                  refine wl_op rfl rfl (ow_vr (vr_move (v := .int .i64 (j : Int)) rfl) ?_)
                  refine wl_op rfl rfl (ow_vr (vr_move (v := .int .i64 (T : Int)) rfl) ?_)
                  refine wl_op rfl rfl (ow_vr (vr_lss rfl rfl) ?_)
                  refine wl_nil ?_
                  refine hK24 _ _ ?_
                  refine cw_cond rfl rfl (fun hc => ?_) (fun hc => ?_)
                  · (try simp only [decide_eq_true_eq, decide_eq_false_iff_not, Bool.not_eq_true, Bool.not_eq_false, Bool.not_eq_true', Bool.not_eq_false', Bool.and_eq_true, Bool.or_eq_true, Bool.and_eq_false_iff, Bool.or_eq_false_iff, Int.not_lt, Int.not_le, gt_iff_lt, ge_iff_le, ne_eq, Decidable.not_not, beq_iff_eq] at hc)
                    have hc3 := hc; clear hc
                    refine cw_skip ?_
                    refine hK23 _ _ ?_
                    refine cw_seq fun K25 hK25 => ?_
                    refine cw_block ?_
                    refine cw_seq fun K26 hK26 => ?_
                    refine cw_seq fun K27 hK27 => ?_
                    have hgl := groupL_length x ep (sqL i)
                    rw [hsl] at hgl
                    have hx0 : 0 ≤ x := hI.wf.h0
                    have hxj : x + ((i : Int) + 1) = ((j : Int) + 1) * ((i : Int) + 1) := by rw [Int.add_mul, Int.one_mul, hx]
                    have hA := append_calm (c := sqL i) hI hc ((group_right hI.wf.h0 (by simp only [hsl]; omega) (by simp only; omega) (by simp only; omega)).2 hok) (by simp only; omega) (by simp only; omega)
                    obtain ⟨a1, a2, a3, a4, a5⟩ := hA
                    simp only [hgl, List.nil_append] at a2 a3
                    obtain ⟨y, hy⟩ : ∃ y : Int, x + ((i + 1 : Nat) : Int) = y := ⟨_, rfl⟩
                    rw [hy] at a2 a3
                    have hy2 : y = ((j : Int) + 1) * ((i : Int) + 1) := by rw [← hxj]; omega
                    have hL := loop_Append hd hc.wf q ⟨0, n, x, x, ep⟩ hI.wf (sqL i) v9 D9 G hv9 hG (by omega)
                    rw [a1, a2] at hL
                    refine cw_region ?_
                    refine wl_op rfl rfl (ow_vr (vr_move (v := (ptr q)) rfl) ?_)
                    refine wl_op rfl rfl (ow_vr (vr_move (v := v9) rfl) ?_)
                    refine wl_op rfl rfl (ow_fnm (vs := [(ptr q), v9]) en_12 rfl hS (hL) (by repeat (first | exact needs0 | (refine needsC ?_ ?_; · (repeat (first | exact List.mem_cons_self | assumption | refine List.mem_cons_of_mem _ ?_))))) ?_)
                    clear hS; rintro v70 _ w ⟨rfl, Δ1, rfl, hd1⟩ hS; (try simp only [List.cons_append, List.nil_append] at hS)
                    refine wl_op rfl rfl (ow_vr (vr_neq rfl rfl) ?_)
                    refine wl_op rfl rfl (ow_vr (vr_move (v := .bool _) rfl) ?_)
                    refine wl_known 72 rfl (c := false) (rfl) ?_
                    refine wl_yes rfl rfl rfl rfl rfl (ow_vr (vr_move (v := (ptr q)) rfl) ?_)
                    refine wl_yes rfl rfl rfl rfl rfl (ow_fn (vs := [(ptr q)]) en_14 rfl hS (loop_Next q p _) ?_)
                    clear hS; rintro v74 _ w ⟨rfl, rfl⟩ hS; (try simp only [List.cons_append, List.nil_append] at hS)
                    refine wl_yes rfl rfl rfl rfl rfl (ow_vr (vr_move (v := .int .i64 (j : Int)) rfl) ?_)
                    first | (refine wl_yes rfl rfl rfl rfl rfl (ow_vr (vr_addi rfl rfl (by unfold inI64; omega)) ?_)) | (refine wl_yes rfl rfl rfl rfl rfl (ow_vr (vr_add rfl rfl) ?_))
                    refine wl_yes rfl rfl rfl rfl rfl (ow_vr (vr_move (v := .int .i64 (i : Int)) rfl) ?_)
                    first | (refine wl_yes rfl rfl rfl rfl rfl (ow_vr (vr_addi rfl rfl (by unfold inI64; omega)) ?_)) | (refine wl_yes rfl rfl rfl rfl rfl (ow_vr (vr_add rfl rfl) ?_))
                    refine wl_yes rfl rfl rfl rfl rfl (ow_vr (vr_as (v' := .int .i64 y) (vr_muli rfl rfl (by unfold inI64; rw [← hy2]; omega)) (congrArg (Value.int .i64) hy2.symm)) ?_)
                    refine wl_yes rfl rfl rfl rfl rfl (ow_vr (vr_neq rfl rfl) ?_)
                    refine wl_op rfl rfl (ow_vr (vr_pick (b := false) (v := .bool _) rfl rfl) ?_)
                    refine wl_op rfl rfl (ow_vr (vr_move (v := .bool _) rfl) ?_)
                    refine wl_known 82 rfl (c := false) (by simp) ?_
                    refine wl_yes rfl rfl rfl rfl rfl (ow_vr (vr_move (v := (ptr q)) rfl) ?_)
                    refine wl_yes rfl rfl rfl rfl rfl (ow_fn (vs := [(ptr q)]) en_16 rfl hS (loop_Room q p _ a3.wf) ?_)
                    clear hS; rintro v84 _ w ⟨rfl, rfl⟩ hS; (try simp only [List.cons_append, List.nil_append] at hS)
                    refine wl_yes rfl rfl rfl rfl rfl (ow_vr (vr_move (v := .int .i64 n) rfl) ?_)
                    refine wl_yes rfl rfl rfl rfl rfl (ow_vr (vr_move (v := .int .i64 (i : Int)) rfl) ?_)
                    first | (refine wl_yes rfl rfl rfl rfl rfl (ow_vr (vr_subi rfl rfl (by unfold inI64; omega)) ?_)) | (refine wl_yes rfl rfl rfl rfl rfl (ow_vr (vr_sub rfl rfl) ?_))
                    first | (refine wl_yes rfl rfl rfl rfl rfl (ow_vr (vr_subi rfl rfl (by unfold inI64; omega)) ?_)) | (refine wl_yes rfl rfl rfl rfl rfl (ow_vr (vr_sub rfl rfl) ?_))
                    refine wl_yes rfl rfl rfl rfl rfl (ow_vr (vr_neq rfl rfl) ?_)
                    refine wl_op rfl rfl (ow_vr (vr_pick (b := false) (v := .bool _) rfl rfl) ?_)
                    refine wl_nil ?_
                    refine hK27 _ _ ?_
                    refine cw_cond_f rfl rfl (by simp; omega) ?_
                    refine cw_skip ?_
                    refine hK26 _ _ ?_
                    refine cw_seq fun K28 hK28 => ?_
                    refine cw_region ?_
                    refine wl_op rfl rfl (ow_vr (vr_move (v := (ptr p)) rfl) ?_)
                    refine wl_op rfl rfl (ow_vr (vr_move (v := .int .i64 n) rfl) ?_)
                    refine wl_op rfl rfl (ow_vr (vr_move (v := (ptr q)) rfl) ?_)
                    refine wl_op rfl rfl (ow_fn (vs := [(ptr q)]) en_13 rfl hS (loop_Head q p _) ?_)
                    clear hS; rintro v95 _ w ⟨rfl, rfl⟩ hS; (try simp only [List.cons_append, List.nil_append] at hS)
                    replace hS := hS.front1
                    refine wl_op rfl rfl (ow_vr (vr_move (v := .int .i64 (j : Int)) rfl) ?_)
                    refine wl_op rfl rfl (ow_vr (vr_as (v' := .int .i64 ep) (vr_addi rfl rfl (by unfold inI64; omega)) (congrArg (Value.int .i64) hepj.symm)) ?_)
                    refine wl_op rfl rfl (ow_fn (vs := [(ptr p), .int .i64 _, .int .i64 n, .int .i64 _, .int .i64 _]) en_10 rfl hS (loop_ScanI hd1 a4.wf a3 (by simp only; omega) (by simp only; omega) (by simp only; omega)) ?_)
                    clear hS; rintro v98 _ w ⟨vS, DS, rfl, rfl, hoS⟩ hS; (try simp only [List.cons_append, List.nil_append] at hS)
                    refine wl_op rfl rfl (ow_vr (vr_move (v := .tuple _) rfl) ?_)
                    refine wl_op rfl rfl (ow_vr (vr_extract (v := vS) rfl rfl) ?_)
                    refine wl_op rfl rfl (ow_vr (vr_extract (v := .int .i64 _) rfl rfl) ?_)
                    refine wl_op rfl rfl (ow_vr (vr_extract (v := .int .i64 _) rfl rfl) ?_)
                    refine wl_op rfl rfl (ow_vr (vr_assign (v := vS) rfl) ?_)
                    refine wl_op rfl rfl (ow_vr (vr_assign (v := .int .i64 _) rfl) ?_)
                    refine wl_op rfl rfl (ow_vr (vr_assign (v := .int .i64 _) rfl) ?_)
                    refine wl_nil ?_
                    refine hK28 _ _ ?_
                    refine cw_seq fun K29 hK29 => ?_
                    replace hS := hS.front2
                    refine cw_region ?_
                    refine wl_op rfl rfl (ow_vr (vr_move (v := .int .i64 _) rfl) ?_)
                    refine wl_op rfl rfl (ow_vr (vr_neq rfl rfl) ?_)
                    refine wl_op rfl rfl (ow_vr (vr_move (v := .bool _) rfl) ?_)
                    refine wl_known 104 rfl (c := false) (rfl) ?_
                    refine wl_yes rfl rfl rfl rfl rfl (ow_vr (vr_move (v := .int .i64 _) rfl) ?_)
                    refine wl_yes rfl rfl rfl rfl rfl (ow_vr (vr_move (v := (ptr q)) rfl) ?_)
                    refine wl_yes rfl rfl rfl rfl rfl (ow_fn (vs := [(ptr q)]) en_14 rfl hS (loop_Next q p _) ?_)
                    clear hS; rintro v107 _ w ⟨rfl, rfl⟩ hS; (try simp only [List.cons_append, List.nil_append] at hS)
                    refine wl_yes rfl rfl rfl rfl rfl (ow_vr (vr_neq rfl rfl) ?_)
                    refine wl_op rfl rfl (ow_vr (vr_pick (b := false) (v := .bool _) rfl rfl) ?_)
                    refine wl_op rfl rfl (ow_vr (vr_move (v := .bool _) rfl) ?_)
                    refine wl_known 110 rfl (c := false) (by simp) ?_
                    refine wl_yes rfl rfl rfl rfl rfl (ow_vr (vr_move (v := vS) rfl) ?_)
                    refine wl_yes rfl rfl rfl rfl rfl (ow_vr (vr_move (v := v9) rfl) ?_)
                    refine wl_yes rfl rfl rfl rfl rfl (ow_fng (vs := [vS, v9]) en_15 rfl hS (book_SameChanges _ _ _ _ DS D9 (hoS.view (by exact fun _ => rfl)) hv9 (by omega) (by omega)) (by repeat (first | exact needs0 | (refine needsC ?_ ?_; · (repeat (first | exact List.mem_cons_self | assumption | refine List.mem_cons_of_mem _ ?_))))) ?_)
                    clear hS; rintro v113 _ w ⟨rfl, rfl⟩ hS; (try simp only [List.cons_append, List.nil_append] at hS)
                    refine wl_yes rfl rfl rfl rfl rfl (ow_vr (vr_not rfl) ?_)
                    refine wl_op rfl rfl (ow_vr (vr_pick (b := false) (v := .bool _) rfl rfl) ?_)
                    refine wl_op rfl rfl (ow_vr (vr_move (v := .bool _) rfl) ?_)
                    refine wl_known 116 rfl (c := false) (by simp) ?_
                    refine wl_yes rfl rfl rfl rfl rfl (ow_vr (vr_move (v := (ptr q)) rfl) ?_)
                    refine wl_yes rfl rfl rfl rfl rfl (ow_vr (vr_move (v := .int .i64 (j : Int)) rfl) ?_)
                    first | (refine wl_yes rfl rfl rfl rfl rfl (ow_vr (vr_addi rfl rfl (by unfold inI64; omega)) ?_); have hC := loop_Cut q p ⟨0, n, x, y, ep⟩ (2 + (j : Int)); rw [cut_to (by simp only; omega) (by omega)] at hC; have a6 := a3.cut (e := 2 + (j : Int)) (by simp only; omega)) | (refine wl_yes rfl rfl rfl rfl rfl (ow_vr (vr_add rfl rfl) ?_); have hC := loop_Cut q p ⟨0, n, x, y, ep⟩ (2 + (j : Int)); rw [cut_to (by simp only; omega) (by omega)] at hC; have a6 := a3.cut (e := 2 + (j : Int)) (by simp only; omega))
                    refine wl_yes rfl rfl rfl rfl rfl (ow_fn (vs := [(ptr q), .int .i64 _]) en_11 rfl hS (hC) ?_)
                    clear hS; rintro v120 _ w ⟨rfl, rfl⟩ hS; (try simp only [List.cons_append, List.nil_append] at hS)
                    refine wl_yes rfl rfl rfl rfl rfl (ow_vr (vr_neq rfl rfl) ?_)
                    refine wl_op rfl rfl (ow_vr (vr_pick (b := false) (v := .bool _) rfl rfl) ?_)
                    refine wl_nil ?_
                    replace hS := hS.front1.tail1
                    refine hK29 _ _ ?_
                    refine cw_cond_f rfl rfl (rfl) ?_
                    refine cw_skip ?_
                    refine hK25 _ _ ?_
                    refine cw_region ?_
                    refine wl_op rfl rfl (ow_vr (vr_move (v := .int .i64 (j : Int)) rfl) ?_)
                    refine wl_op rfl rfl (ow_vr (vr_as (v' := .int .i64 ((j + 1 : Nat) : Int)) (vr_addi rfl rfl (by unfold inI64; omega)) (congrArg (Value.int .i64) (by omega))) ?_)
                    refine wl_op rfl rfl (ow_vr (vr_assign (v := .int .i64 _) rfl) ?_)
                    refine wl_nil ?_
                    refine thenF_normal ⟨_, ?_, j + 1, 2 + (j : Int), y, (appendL d ⟨0, n, x, x, ep⟩ (sqL i)).2.1, Δ1, _, (reb (reb (reb (reb (reb (reb (reb rfl rfl) rfl) rfl) rfl) rfl) rfl) rfl), ?_, rfl, hS⟩
                    · omega
                    · exact ⟨by omega, hd1, a6, by omega, a4, a5.trans hdn, by rw [hy2]; simp, by omega⟩
                  · (try simp only [decide_eq_true_eq, decide_eq_false_iff_not, Bool.not_eq_true, Bool.not_eq_false, Bool.not_eq_true', Bool.not_eq_false', Bool.and_eq_true, Bool.or_eq_true, Bool.and_eq_false_iff, Bool.or_eq_false_iff, Int.not_lt, Int.not_le, gt_iff_lt, ge_iff_le, ne_eq, Decidable.not_not, beq_iff_eq] at hc)
                    have hc3 := hc; clear hc
                    refine cw_exit ?_
                    refine hK21 _ _ ?_
                    refine cw_seq fun K30 hK30 => ?_
                    refine cw_region ?_
                    refine wl_op rfl rfl (ow_vr (vr_move (v := (ptr q)) rfl) ?_)
                    refine wl_op rfl rfl (ow_fn (vs := [(ptr q)]) en_16 rfl hS (loop_Room q p _ hI.wf) ?_)
                    clear hS; rintro v124 _ w ⟨rfl, rfl⟩ hS; (try simp only [List.cons_append, List.nil_append] at hS)
                    refine wl_op rfl rfl (ow_vr (vr_move (v := .int .i64 n) rfl) ?_)
                    refine wl_op rfl rfl (ow_vr (vr_eql rfl rfl) ?_)
                    refine wl_op rfl rfl (ow_vr (vr_assign (v := .bool _) rfl) ?_)
                    refine wl_nil ?_
                    refine hK30 _ _ ?_
                    refine cw_ret ?_
                    refine ret_one (fn := Tryd.f5) (n := 127) (t := 6) (.inl rfl) rfl rfl ?_
                    exact ⟨[], ⟨congrArg Value.bool (by simp), rfl⟩, hS.tail1.tail1.tail1⟩
theorem loop_elder (n : Int) (l : List VL) (cut : Int) (v : Value) (Δ G : Chunk) (hv : View 1 (fun y : VL => [y.1]) v l Δ) (hvs : ∀ y ∈ l, View 2 encC y.1 y.2 Δ) (hG : Glob G) (hn : l.length ≤ 9223372036854775807) (hns : ∀ y ∈ l, y.2.length ≤ 9223372036854775807) :
    FnG Tryd.prog 4 [.int .i64 n, v, .int .i64 cut] [Δ, G] (fun u Δs => u = .bool true ∧ Δs = []) := by
  refine FnG.mk fun E F w hS hF => ?_
  have hF0 : Δ ∈ F := hF _ (by simp)
  have hFg : G ∈ F := hF _ (by simp)
  refine returns_enter Tryd.func4 rfl Tryd.ntmps4 rfl ?_
  refine cw_seq fun K1 hK1 => ?_
  refine cw_region ?_
  refine wl_op rfl rfl (ow_vr (vr_assign (v := .bool false) rfl) ?_)
  refine wl_nil ?_
  refine hK1 _ _ ?_
  refine cw_seq fun K2 hK2 => ?_
  refine cw_seq fun K3 hK3 => ?_
  refine cw_region ?_
  refine wl_op rfl rfl (ow_vr (vr_move (v := .int .i64 _) rfl) ?_)
  refine wl_op rfl rfl (ow_vr (vr_lss rfl rfl) ?_)
  refine wl_op rfl rfl (ow_vr (vr_move (v := .bool _) rfl) ?_)
  refine wl_split 17 rfl (fun hc => ?_) (fun hc => ?_)
  · (try simp only [decide_eq_true_eq, decide_eq_false_iff_not, Bool.not_eq_true, Bool.not_eq_false, Bool.not_eq_true', Bool.not_eq_false', Bool.and_eq_true, Bool.or_eq_true, Bool.and_eq_false_iff, Bool.or_eq_false_iff, Int.not_lt, Int.not_le, gt_iff_lt, ge_iff_le, ne_eq, Decidable.not_not, beq_iff_eq] at hc)
    have hg17 := hc; clear hc
    refine wl_noD rfl rfl rfl rfl rfl rfl ?_
    refine wl_noD rfl rfl rfl rfl rfl rfl ?_
    refine wl_op rfl rfl (ow_vr (vr_pick (b := true) (v := .bool _) rfl rfl) ?_)
    refine wl_op rfl rfl (ow_vr (vr_move (v := .bool _) rfl) ?_)
    refine wl_noD rfl rfl rfl rfl rfl rfl ?_
    refine wl_noD rfl rfl rfl rfl rfl rfl ?_
    refine wl_noD rfl rfl rfl rfl rfl rfl ?_
    refine wl_op rfl rfl (ow_vr (vr_pick (b := true) (v := .bool _) rfl rfl) ?_)
    refine wl_op rfl rfl (ow_vr (vr_move (v := .bool _) rfl) ?_)
    refine wl_noD rfl rfl rfl rfl rfl rfl ?_
    refine wl_noD rfl rfl rfl rfl rfl rfl ?_
    refine wl_op rfl rfl (ow_vr (vr_pick (b := true) (v := .bool _) rfl rfl) ?_)
    refine wl_op rfl rfl (ow_vr (vr_move (v := .bool _) rfl) ?_)
    refine wl_noD rfl rfl rfl rfl rfl rfl ?_
    refine wl_noD rfl rfl rfl rfl rfl rfl ?_
    refine wl_op rfl rfl (ow_vr (vr_pick (b := true) (v := .bool _) rfl rfl) ?_)
    refine wl_op rfl rfl (ow_vr (vr_move (v := .bool _) rfl) ?_)
    refine wl_noD rfl rfl rfl rfl rfl rfl ?_
    refine wl_noD rfl rfl rfl rfl rfl rfl ?_
    refine wl_op rfl rfl (ow_vr (vr_pick (b := true) (v := .bool _) rfl rfl) ?_)
    refine wl_nil ?_
    refine hK3 _ _ ?_
    refine cw_cond_t rfl rfl (rfl) ?_
    refine cw_seq fun K4 hK4 => ?_
    refine cw_region ?_
    refine wl_op rfl rfl (ow_fng (vs := []) en_7 rfl hS (alive7 hG) (by repeat (first | exact needs0 | (refine needsC ?_ ?_; · (repeat (first | exact List.mem_cons_self | assumption | refine List.mem_cons_of_mem _ ?_))))) ?_)
    clear hS; rintro v38 _ w ⟨rfl, rfl⟩ hS; (try simp only [List.cons_append, List.nil_append] at hS)
    refine wl_op rfl rfl (ow_vr (vr_assign (v := .bool _) rfl) ?_)
    refine wl_nil ?_
    refine hK4 _ _ ?_
    refine cw_ret ?_
    refine thenF_ret (?_)
    refine ret_one (fn := Tryd.f4) (n := 106) (t := 6) (.inl rfl) rfl rfl ?_
    exact ⟨[], ⟨rfl, rfl⟩, hS⟩
  · (try simp only [decide_eq_true_eq, decide_eq_false_iff_not, Bool.not_eq_true, Bool.not_eq_false, Bool.not_eq_true', Bool.not_eq_false', Bool.and_eq_true, Bool.or_eq_true, Bool.and_eq_false_iff, Bool.or_eq_false_iff, Int.not_lt, Int.not_le, gt_iff_lt, ge_iff_le, ne_eq, Decidable.not_not, beq_iff_eq] at hc)
    have hg17 := hc; clear hc
    refine wl_yes rfl rfl rfl rfl rfl (ow_vr (vr_move (v := .int .i64 _) rfl) ?_)
    refine wl_yes rfl rfl rfl rfl rfl (ow_vr (vr_gtr rfl rfl) ?_)
    refine wl_op rfl rfl (ow_vr (vr_pick (b := false) (v := .bool _) rfl rfl) ?_)
    refine wl_op rfl rfl (ow_vr (vr_move (v := .bool _) rfl) ?_)
    refine wl_split 21 rfl (fun hc => ?_) (fun hc => ?_)
    · (try simp only [decide_eq_true_eq, decide_eq_false_iff_not, Bool.not_eq_true, Bool.not_eq_false, Bool.not_eq_true', Bool.not_eq_false', Bool.and_eq_true, Bool.or_eq_true, Bool.and_eq_false_iff, Bool.or_eq_false_iff, Int.not_lt, Int.not_le, gt_iff_lt, ge_iff_le, ne_eq, Decidable.not_not, beq_iff_eq] at hc)
      have hg21 := hc; clear hc
      refine wl_noD rfl rfl rfl rfl rfl rfl ?_
      refine wl_noD rfl rfl rfl rfl rfl rfl ?_
      refine wl_noD rfl rfl rfl rfl rfl rfl ?_
      refine wl_op rfl rfl (ow_vr (vr_pick (b := true) (v := .bool _) rfl rfl) ?_)
      refine wl_op rfl rfl (ow_vr (vr_move (v := .bool _) rfl) ?_)
      refine wl_noD rfl rfl rfl rfl rfl rfl ?_
      refine wl_noD rfl rfl rfl rfl rfl rfl ?_
      refine wl_op rfl rfl (ow_vr (vr_pick (b := true) (v := .bool _) rfl rfl) ?_)
      refine wl_op rfl rfl (ow_vr (vr_move (v := .bool _) rfl) ?_)
      refine wl_noD rfl rfl rfl rfl rfl rfl ?_
      refine wl_noD rfl rfl rfl rfl rfl rfl ?_
      refine wl_op rfl rfl (ow_vr (vr_pick (b := true) (v := .bool _) rfl rfl) ?_)
      refine wl_op rfl rfl (ow_vr (vr_move (v := .bool _) rfl) ?_)
      refine wl_noD rfl rfl rfl rfl rfl rfl ?_
      refine wl_noD rfl rfl rfl rfl rfl rfl ?_
      refine wl_op rfl rfl (ow_vr (vr_pick (b := true) (v := .bool _) rfl rfl) ?_)
      refine wl_nil ?_
      refine hK3 _ _ ?_
      refine cw_cond_t rfl rfl (rfl) ?_
      refine cw_seq fun K5 hK5 => ?_
      refine cw_region ?_
      refine wl_op rfl rfl (ow_fng (vs := []) en_7 rfl hS (alive7 hG) (by repeat (first | exact needs0 | (refine needsC ?_ ?_; · (repeat (first | exact List.mem_cons_self | assumption | refine List.mem_cons_of_mem _ ?_))))) ?_)
      clear hS; rintro v38 _ w ⟨rfl, rfl⟩ hS; (try simp only [List.cons_append, List.nil_append] at hS)
      refine wl_op rfl rfl (ow_vr (vr_assign (v := .bool _) rfl) ?_)
      refine wl_nil ?_
      refine hK5 _ _ ?_
      refine cw_ret ?_
      refine thenF_ret (?_)
      refine ret_one (fn := Tryd.f4) (n := 106) (t := 6) (.inl rfl) rfl rfl ?_
      exact ⟨[], ⟨rfl, rfl⟩, hS⟩
    · (try simp only [decide_eq_true_eq, decide_eq_false_iff_not, Bool.not_eq_true, Bool.not_eq_false, Bool.not_eq_true', Bool.not_eq_false', Bool.and_eq_true, Bool.or_eq_true, Bool.and_eq_false_iff, Bool.or_eq_false_iff, Int.not_lt, Int.not_le, gt_iff_lt, ge_iff_le, ne_eq, Decidable.not_not, beq_iff_eq] at hc)
      have hg21 := hc; clear hc
      refine wl_yes rfl rfl rfl rfl rfl (ow_vr (vr_move (v := v) rfl) ?_)
      refine wl_yes rfl rfl rfl rfl rfl (ow_vr (vr_len_v (v := v) Tryd.underlying32 rfl hv) ?_)
      refine wl_yes rfl rfl rfl rfl rfl (ow_vr (vr_gtr rfl rfl) ?_)
      refine wl_op rfl rfl (ow_vr (vr_pick (b := false) (v := .bool _) rfl rfl) ?_)
      refine wl_op rfl rfl (ow_vr (vr_move (v := .bool _) rfl) ?_)
      refine wl_split 26 rfl (fun hc => ?_) (fun hc => ?_)
      · (try simp only [decide_eq_true_eq, decide_eq_false_iff_not, Bool.not_eq_true, Bool.not_eq_false, Bool.not_eq_true', Bool.not_eq_false', Bool.and_eq_true, Bool.or_eq_true, Bool.and_eq_false_iff, Bool.or_eq_false_iff, Int.not_lt, Int.not_le, gt_iff_lt, ge_iff_le, ne_eq, Decidable.not_not, beq_iff_eq] at hc)
        have hg26 := hc; clear hc
        refine wl_noD rfl rfl rfl rfl rfl rfl ?_
        refine wl_noD rfl rfl rfl rfl rfl rfl ?_
        refine wl_op rfl rfl (ow_vr (vr_pick (b := true) (v := .bool _) rfl rfl) ?_)
        refine wl_op rfl rfl (ow_vr (vr_move (v := .bool _) rfl) ?_)
        refine wl_noD rfl rfl rfl rfl rfl rfl ?_
        refine wl_noD rfl rfl rfl rfl rfl rfl ?_
        refine wl_op rfl rfl (ow_vr (vr_pick (b := true) (v := .bool _) rfl rfl) ?_)
        refine wl_op rfl rfl (ow_vr (vr_move (v := .bool _) rfl) ?_)
        refine wl_noD rfl rfl rfl rfl rfl rfl ?_
        refine wl_noD rfl rfl rfl rfl rfl rfl ?_
        refine wl_op rfl rfl (ow_vr (vr_pick (b := true) (v := .bool _) rfl rfl) ?_)
        refine wl_nil ?_
        refine hK3 _ _ ?_
        refine cw_cond_t rfl rfl (rfl) ?_
        refine cw_seq fun K6 hK6 => ?_
        refine cw_region ?_
        refine wl_op rfl rfl (ow_fng (vs := []) en_7 rfl hS (alive7 hG) (by repeat (first | exact needs0 | (refine needsC ?_ ?_; · (repeat (first | exact List.mem_cons_self | assumption | refine List.mem_cons_of_mem _ ?_))))) ?_)
        clear hS; rintro v38 _ w ⟨rfl, rfl⟩ hS; (try simp only [List.cons_append, List.nil_append] at hS)
        refine wl_op rfl rfl (ow_vr (vr_assign (v := .bool _) rfl) ?_)
        refine wl_nil ?_
        refine hK6 _ _ ?_
        refine cw_ret ?_
        refine thenF_ret (?_)
        refine ret_one (fn := Tryd.f4) (n := 106) (t := 6) (.inl rfl) rfl rfl ?_
        exact ⟨[], ⟨rfl, rfl⟩, hS⟩
      · (try simp only [decide_eq_true_eq, decide_eq_false_iff_not, Bool.not_eq_true, Bool.not_eq_false, Bool.not_eq_true', Bool.not_eq_false', Bool.and_eq_true, Bool.or_eq_true, Bool.and_eq_false_iff, Bool.or_eq_false_iff, Int.not_lt, Int.not_le, gt_iff_lt, ge_iff_le, ne_eq, Decidable.not_not, beq_iff_eq] at hc)
        have hg26 := hc; clear hc
        refine wl_yes rfl rfl rfl rfl rfl (ow_vr (vr_move (v := .int .i64 _) rfl) ?_)
        refine wl_yes rfl rfl rfl rfl rfl (ow_vr (vr_lss rfl rfl) ?_)
        refine wl_op rfl rfl (ow_vr (vr_pick (b := false) (v := .bool _) rfl rfl) ?_)
        refine wl_op rfl rfl (ow_vr (vr_move (v := .bool _) rfl) ?_)
        refine wl_split 30 rfl (fun hc => ?_) (fun hc => ?_)
        · (try simp only [decide_eq_true_eq, decide_eq_false_iff_not, Bool.not_eq_true, Bool.not_eq_false, Bool.not_eq_true', Bool.not_eq_false', Bool.and_eq_true, Bool.or_eq_true, Bool.and_eq_false_iff, Bool.or_eq_false_iff, Int.not_lt, Int.not_le, gt_iff_lt, ge_iff_le, ne_eq, Decidable.not_not, beq_iff_eq] at hc)
          have hg30 := hc; clear hc
          refine wl_noD rfl rfl rfl rfl rfl rfl ?_
          refine wl_noD rfl rfl rfl rfl rfl rfl ?_
          refine wl_op rfl rfl (ow_vr (vr_pick (b := true) (v := .bool _) rfl rfl) ?_)
          refine wl_op rfl rfl (ow_vr (vr_move (v := .bool _) rfl) ?_)
          refine wl_noD rfl rfl rfl rfl rfl rfl ?_
          refine wl_noD rfl rfl rfl rfl rfl rfl ?_
          refine wl_op rfl rfl (ow_vr (vr_pick (b := true) (v := .bool _) rfl rfl) ?_)
          refine wl_nil ?_
          refine hK3 _ _ ?_
          refine cw_cond_t rfl rfl (rfl) ?_
          refine cw_seq fun K7 hK7 => ?_
          refine cw_region ?_
          refine wl_op rfl rfl (ow_fng (vs := []) en_7 rfl hS (alive7 hG) (by repeat (first | exact needs0 | (refine needsC ?_ ?_; · (repeat (first | exact List.mem_cons_self | assumption | refine List.mem_cons_of_mem _ ?_))))) ?_)
          clear hS; rintro v38 _ w ⟨rfl, rfl⟩ hS; (try simp only [List.cons_append, List.nil_append] at hS)
          refine wl_op rfl rfl (ow_vr (vr_assign (v := .bool _) rfl) ?_)
          refine wl_nil ?_
          refine hK7 _ _ ?_
          refine cw_ret ?_
          refine thenF_ret (?_)
          refine ret_one (fn := Tryd.f4) (n := 106) (t := 6) (.inl rfl) rfl rfl ?_
          exact ⟨[], ⟨rfl, rfl⟩, hS⟩
        · (try simp only [decide_eq_true_eq, decide_eq_false_iff_not, Bool.not_eq_true, Bool.not_eq_false, Bool.not_eq_true', Bool.not_eq_false', Bool.and_eq_true, Bool.or_eq_true, Bool.and_eq_false_iff, Bool.or_eq_false_iff, Int.not_lt, Int.not_le, gt_iff_lt, ge_iff_le, ne_eq, Decidable.not_not, beq_iff_eq] at hc)
          have hg30 := hc; clear hc
          refine wl_yes rfl rfl rfl rfl rfl (ow_vr (vr_move (v := .int .i64 _) rfl) ?_)
          refine wl_yes rfl rfl rfl rfl rfl (ow_vr (vr_gtr rfl rfl) ?_)
          refine wl_op rfl rfl (ow_vr (vr_pick (b := false) (v := .bool _) rfl rfl) ?_)
          refine wl_op rfl rfl (ow_vr (vr_move (v := .bool _) rfl) ?_)
          refine wl_split 34 rfl (fun hc => ?_) (fun hc => ?_)
          · (try simp only [decide_eq_true_eq, decide_eq_false_iff_not, Bool.not_eq_true, Bool.not_eq_false, Bool.not_eq_true', Bool.not_eq_false', Bool.and_eq_true, Bool.or_eq_true, Bool.and_eq_false_iff, Bool.or_eq_false_iff, Int.not_lt, Int.not_le, gt_iff_lt, ge_iff_le, ne_eq, Decidable.not_not, beq_iff_eq] at hc)
            have hg34 := hc; clear hc
            refine wl_noD rfl rfl rfl rfl rfl rfl ?_
            refine wl_noD rfl rfl rfl rfl rfl rfl ?_
            refine wl_op rfl rfl (ow_vr (vr_pick (b := true) (v := .bool _) rfl rfl) ?_)
            refine wl_nil ?_
            refine hK3 _ _ ?_
            refine cw_cond_t rfl rfl (rfl) ?_
            refine cw_seq fun K8 hK8 => ?_
            refine cw_region ?_
            refine wl_op rfl rfl (ow_fng (vs := []) en_7 rfl hS (alive7 hG) (by repeat (first | exact needs0 | (refine needsC ?_ ?_; · (repeat (first | exact List.mem_cons_self | assumption | refine List.mem_cons_of_mem _ ?_))))) ?_)
            clear hS; rintro v38 _ w ⟨rfl, rfl⟩ hS; (try simp only [List.cons_append, List.nil_append] at hS)
            refine wl_op rfl rfl (ow_vr (vr_assign (v := .bool _) rfl) ?_)
            refine wl_nil ?_
            refine hK8 _ _ ?_
            refine cw_ret ?_
            refine thenF_ret (?_)
            refine ret_one (fn := Tryd.f4) (n := 106) (t := 6) (.inl rfl) rfl rfl ?_
            exact ⟨[], ⟨rfl, rfl⟩, hS⟩
          · (try simp only [decide_eq_true_eq, decide_eq_false_iff_not, Bool.not_eq_true, Bool.not_eq_false, Bool.not_eq_true', Bool.not_eq_false', Bool.and_eq_true, Bool.or_eq_true, Bool.and_eq_false_iff, Bool.or_eq_false_iff, Int.not_lt, Int.not_le, gt_iff_lt, ge_iff_le, ne_eq, Decidable.not_not, beq_iff_eq] at hc)
            have hg34 := hc; clear hc
            refine wl_yes rfl rfl rfl rfl rfl (ow_fng (vs := []) en_7 rfl hS (alive7 hG) (by repeat (first | exact needs0 | (refine needsC ?_ ?_; · (repeat (first | exact List.mem_cons_self | assumption | refine List.mem_cons_of_mem _ ?_))))) ?_)
            clear hS; rintro v35 _ w ⟨rfl, rfl⟩ hS; (try simp only [List.cons_append, List.nil_append] at hS)
            refine wl_yes rfl rfl rfl rfl rfl (ow_vr (vr_not rfl) ?_)
            refine wl_op rfl rfl (ow_vr (vr_pick (b := false) (v := .bool _) rfl rfl) ?_)
            refine wl_nil ?_
            refine hK3 _ _ ?_
            refine cw_cond rfl rfl (fun hc => ?_) (fun hc => ?_)
            · (try simp only [decide_eq_true_eq, decide_eq_false_iff_not, Bool.not_eq_true, Bool.not_eq_false, Bool.not_eq_true', Bool.not_eq_false', Bool.and_eq_true, Bool.or_eq_true, Bool.and_eq_false_iff, Bool.or_eq_false_iff, Int.not_lt, Int.not_le, gt_iff_lt, ge_iff_le, ne_eq, Decidable.not_not, beq_iff_eq] at hc)
              have hc0 := hc; clear hc
              refine cw_seq fun K9 hK9 => ?_
              refine cw_region ?_
              refine wl_op rfl rfl (ow_fng (vs := []) en_7 rfl hS (alive7 hG) (by repeat (first | exact needs0 | (refine needsC ?_ ?_; · (repeat (first | exact List.mem_cons_self | assumption | refine List.mem_cons_of_mem _ ?_))))) ?_)
              clear hS; rintro v38 _ w ⟨rfl, rfl⟩ hS; (try simp only [List.cons_append, List.nil_append] at hS)
              refine wl_op rfl rfl (ow_vr (vr_assign (v := .bool _) rfl) ?_)
              refine wl_nil ?_
              refine hK9 _ _ ?_
              refine cw_ret ?_
              refine thenF_ret (?_)
              refine ret_one (fn := Tryd.f4) (n := 106) (t := 6) (.inl rfl) rfl rfl ?_
              exact ⟨[], ⟨rfl, rfl⟩, hS⟩
            · (try simp only [decide_eq_true_eq, decide_eq_false_iff_not, Bool.not_eq_true, Bool.not_eq_false, Bool.not_eq_true', Bool.not_eq_false', Bool.and_eq_true, Bool.or_eq_true, Bool.and_eq_false_iff, Bool.or_eq_false_iff, Int.not_lt, Int.not_le, gt_iff_lt, ge_iff_le, ne_eq, Decidable.not_not, beq_iff_eq] at hc)
              have hc0 := hc; clear hc
              refine cw_skip ?_
              refine hK2 _ _ ?_
              refine cw_seq fun K10 hK10 => ?_
              have hc := Calm.new (n := n) (by omega) (by omega)
              have hw : WfL ⟨0, n, 0, 0, 1⟩ := wfL (by omega)
              have hI := LogI.new (n := n) hw (by omega)
              refine cw_region ?_
              refine wl_op rfl rfl (ow_vr (vr_move (v := .int .i64 _) rfl) ?_)
              refine wl_op rfl rfl (ow_fn (vs := [.int .i64 _]) en_8 rfl hS (disk_New' (n := n) (by omega) (by omega)) ?_)
              clear hS; rintro v40 _ w ⟨p, Δ0, rfl, rfl, hd0⟩ hS; (try simp only [List.cons_append, List.nil_append] at hS)
              refine wl_op rfl rfl (ow_vr (vr_assign (v := .pointer _) rfl) ?_)
              refine wl_nil ?_
              refine hK10 _ _ ?_
              refine cw_seq fun K11 hK11 => ?_
              refine cw_region ?_
              refine wl_op rfl rfl (ow_vr (vr_move (v := .pointer _) rfl) ?_)
              refine wl_op rfl rfl (ow_vr (vr_move (v := .int .i64 _) rfl) ?_)
              refine wl_op rfl rfl (ow_fn (vs := [.pointer _, .int .i64 _, .int .i64 _, .int .i64 _, .int .i64 _, .int .i64 _]) en_9 rfl hS (loop_NewT hd0 hc.wf ⟨0, n, 0, 0, 1⟩ (by simp [mayL, newD]; omega)) ?_)
              clear hS; rintro v43 _ w ⟨q, rfl, rfl⟩ hS; (try simp only [List.cons_append, List.nil_append] at hS)
              refine wl_op rfl rfl (ow_vr (vr_assign (v := .pointer _) rfl) ?_)
              refine wl_nil ?_
              refine hK11 _ _ ?_
              refine cw_seq fun K12 hK12 => ?_
              refine cw_seq fun K13 hK13 => ?_
              refine cw_region ?_
              refine wl_op rfl rfl (ow_vr (vr_move (v := .pointer _) rfl) ?_)
              refine wl_op rfl rfl (ow_vr (vr_eqnil Tryd.underlying25 rfl) ?_)
              refine wl_nil ?_
              refine hK13 _ _ ?_
              refine cw_cond_f rfl rfl (rfl) ?_
              refine cw_skip ?_
              refine hK12 _ _ ?_
              refine cw_seq fun K14 hK14 => ?_
              refine cw_region ?_
              refine wl_op rfl rfl (ow_vr (vr_assign (v := .int .i64 1) rfl) ?_)
              refine wl_nil ?_
              refine hK14 _ _ ?_
              refine cw_seq fun K15 hK15 => ?_
              have hS := Sat.nilc.2 hS
              refine cw_region ?_
              refine wl_op rfl rfl (ow_vr (vr_assign (v := .slice none 0 0) rfl) ?_)
              refine wl_nil ?_
              refine hK15 _ _ ?_
              refine cw_seq fun K16 hK16 => ?_
              refine cw_seq fun K17 hK17 => ?_
              refine cw_region ?_
              refine wl_op rfl rfl (ow_vr (vr_as (v' := .int .i64 ((0 : Nat) : Int)) (vr_assign rfl) rfl) ?_)
              refine wl_nil ?_
              refine hK17 _ _ ?_
              refine cw_block ?_
              refine cw_loop (fun m f w => ∃ (k : Nat) (ep : Int) (hd_ : Int) (nx : Int) (d : Dsk) (Δd : Chunk) (es : List Entr) (all : List (Int × Int)) (va : Value) (Da : Chunk) (g : Nat → Value), f = (upd (upd (upd (upd (upd (upd (upd (upd g 0 (.int .i64 n)) 1 (v)) 2 (.int .i64 cut)) 7 (ptr p)) 8 (ptr q)) 9 (.int .i64 ep)) 10 (va)) 11 (.int .i64 (k : Int))) ∧ (k ≤ l.length ∧ DiskAt p d Δd ∧ LogI d ⟨0, n, hd_, nx, ep⟩ es all ∧ Calm d ∧ d.n = n ∧ 1 ≤ ep ∧ ep ≤ 1 + (k : Int) ∧ nx ≤ 21 * (k : Int) ∧ Own 39 2 encC va all Da ∧ all.length ≤ 20 * k) ∧ m = l.length - k ∧ Sat E (Da :: loopC q p ⟨0, n, hd_, nx, ep⟩ :: Δd :: F) w) ⟨0, 1, 0, 0, newD n, Δ0, [], [], .slice none 0 0, [], _, (reb (reb (reb (reb (reb (reb (reb (reb rfl rfl) rfl) rfl) rfl) rfl) rfl) rfl) rfl), ?_, rfl, hS⟩ ?_
              · exact ⟨by omega, hd0, hI, hc, rfl, by omega, by omega, by omega, Own.nil, by simp⟩
              clear hS; rintro m f w ⟨k, ep, hd_, nx, d, Δd, es, all, va, Da, g, rfl, hI0, rfl, hS⟩
              obtain ⟨hk, hd, hI, hc, hdn, hep, hep2, hnx, hoa, hal⟩ := hI0
              refine cw_seq fun K18 hK18 => ?_
              refine cw_seq fun K19 hK19 => ?_
              refine cw_region ?_
              refine wl_op rfl rfl (ow_vr (vr_move (v := .int .i64 (k : Int)) rfl) ?_)
              refine wl_op rfl rfl (ow_vr (vr_move (v := v) rfl) ?_)
              refine wl_op rfl rfl (ow_vr (vr_len_v (v := v) Tryd.underlying32 rfl hv) ?_)
              refine wl_op rfl rfl (ow_vr (vr_lss rfl rfl) ?_)
              refine wl_nil ?_
              refine hK19 _ _ ?_
              refine cw_cond rfl rfl (fun hc => ?_) (fun hc => ?_)
              · (try simp only [decide_eq_true_eq, decide_eq_false_iff_not, Bool.not_eq_true, Bool.not_eq_false, Bool.not_eq_true', Bool.not_eq_false', Bool.and_eq_true, Bool.or_eq_true, Bool.and_eq_false_iff, Bool.or_eq_false_iff, Int.not_lt, Int.not_le, gt_iff_lt, ge_iff_le, ne_eq, Decidable.not_not, beq_iff_eq] at hc)
                have hc2 := hc; clear hc
                refine cw_skip ?_
                refine hK18 _ _ ?_
                refine cw_seq fun K20 hK20 => ?_
                refine cw_block ?_
                refine cw_seq fun K21 hK21 => ?_
                refine cw_seq fun K22 hK22 => ?_
                obtain ⟨x, hx⟩ := get_lt (xs := l) (k := k) (by omega)
                have hvx := hvs x (List.mem_of_getElem? hx)
                refine cw_region ?_
                refine wl_op rfl rfl (ow_vr (vr_move (v := v) rfl) ?_)
                refine wl_op rfl rfl (ow_vr (vr_move (v := .int .i64 (k : Int)) rfl) ?_)
                first | (refine wl_op rfl rfl (ow_vr (vr_indexAddr Tryd.underlying32 sz_27 rfl rfl (by omega) (by omega)) ?_)) | (refine wl_op rfl rfl (ow_vr (vr_indexV (v := v) Tryd.underlying32 sz_27 rfl (by first | assumption | (refine Own.view ?_ (by assumption); exact fun _ => rfl) | exact OwnB.view (by assumption)) rfl (by omega) (by first | omega | (simp <;> omega))) ?_))
                refine wl_op rfl rfl (ow_lr (S := Sat _ _) (lr_loadV1 (u := x.1) Tryd.underlying27 rfl rfl hv (by repeat (first | exact List.mem_cons_self | assumption | refine List.mem_cons_of_mem _ ?_)) (hx) (by exact fun _ => rfl) (by rfl)) hS ?_)
                refine wl_op rfl rfl (ow_vr (vr_len_v (v := x.1) Tryd.underlying27 rfl hvx) ?_)
                refine wl_op rfl rfl (ow_vr (vr_gtr rfl rfl) ?_)
                refine wl_nil ?_
                refine hK22 _ _ ?_
                refine cw_cond rfl rfl (fun hc => ?_) (fun hc => ?_)
                · (try simp only [decide_eq_true_eq, decide_eq_false_iff_not, Bool.not_eq_true, Bool.not_eq_false, Bool.not_eq_true', Bool.not_eq_false', Bool.and_eq_true, Bool.or_eq_true, Bool.and_eq_false_iff, Bool.or_eq_false_iff, Int.not_lt, Int.not_le, gt_iff_lt, ge_iff_le, ne_eq, Decidable.not_not, beq_iff_eq] at hc)
                  have hc3 := hc; clear hc
                  refine cw_seq fun K23 hK23 => ?_
                  refine cw_region ?_
                  refine wl_op rfl rfl (ow_vr (vr_assign (v := .bool true) rfl) ?_)
                  refine wl_nil ?_
                  refine hK23 _ _ ?_
                  refine cw_ret ?_
                  refine thenF_ret (inB_ret (thenF_ret (thenF_ret (inB_ret (thenF_ret (?_))))))
                  refine ret_one (fn := Tryd.f4) (n := 106) (t := 6) (.inl rfl) rfl rfl ?_
                  exact ⟨[], ⟨rfl, rfl⟩, hS.tail1.tail1.tail1⟩
                · (try simp only [decide_eq_true_eq, decide_eq_false_iff_not, Bool.not_eq_true, Bool.not_eq_false, Bool.not_eq_true', Bool.not_eq_false', Bool.and_eq_true, Bool.or_eq_true, Bool.and_eq_false_iff, Bool.or_eq_false_iff, Int.not_lt, Int.not_le, gt_iff_lt, ge_iff_le, ne_eq, Decidable.not_not, beq_iff_eq] at hc)
                  have hc3 := hc; clear hc
                  refine cw_skip ?_
                  refine hK21 _ _ ?_
                  refine cw_seq fun K24 hK24 => ?_
                  have hJK24 : ∀ f w, (∃ (ep' : Int) (h' : Int) (es' : List Entr) (all' : List (Int × Int)) (va' : Value) (Da' : Chunk) (g : Nat → Value), f = (upd (upd (upd (upd (upd (upd (upd (upd g 0 (.int .i64 n)) 1 (v)) 2 (.int .i64 cut)) 7 (ptr p)) 8 (ptr q)) 9 (.int .i64 ep')) 10 (va')) 11 (.int .i64 (k : Int))) ∧ (LogI d ⟨0, n, h', nx, ep'⟩ es' all' ∧ 1 ≤ ep' ∧ ep' ≤ 2 + (k : Int) ∧ Own 39 2 encC va' all' Da' ∧ all'.length ≤ 20 * k) ∧ Sat E (Da' :: loopC q p ⟨0, n, h', nx, ep'⟩ :: Δd :: F) w) → K24 f w := by
                    clear hS; rintro f w ⟨ep', h', es', all', va', Da', g, rfl, hj19, hS⟩
                    obtain ⟨hI', he1, he2, hoa', hal'⟩ := hj19
                    have hgl := groupL_length nx ep' x.2
                    replace hS := hS.front2.front2
                    have hL := loop_Append hd hc.wf q ⟨0, n, h', nx, ep'⟩ hI'.wf x.2 x.1 Δ G hvx hG (by omega)
                    have hYes : (groupL nx ep' x.2).all rightE = true → ((groupL nx ep' x.2).length : Int) ≤ n - (nx - h') → _ := fun h1 h2 => append_calm hI' hc h1 h2 (by simp only; omega)
                    have hNo : ¬ ((groupL nx ep' x.2).all rightE = true ∧ ((groupL nx ep' x.2).length : Int) ≤ n - (nx - h')) → _ := fun h => append_no hI' h
                    obtain ⟨X, hX⟩ : ∃ X, appendL d ⟨0, n, h', nx, ep'⟩ x.2 = X := ⟨_, rfl⟩
                    rw [hX] at hL
                    simp only [hX] at hYes hNo
                    have hres : (X.1 = 0 ∧ ∃ nx2 es2, X.2.2 = ⟨0, n, h', nx2, ep'⟩ ∧ LogI X.2.1 ⟨0, n, h', nx2, ep'⟩ es2 (all' ++ x.2) ∧ Calm X.2.1 ∧ X.2.1.n = n ∧ nx2 ≤ 21 * ((k : Int) + 1)) ∨ (X.1 ≠ 0 ∧ ∃ nx2 es2, X.2.2 = ⟨0, n, h', nx2, ep'⟩ ∧ LogI X.2.1 ⟨0, n, h', nx2, ep'⟩ es2 all' ∧ Calm X.2.1 ∧ X.2.1.n = n ∧ nx2 ≤ 21 * ((k : Int) + 1)) := by
                      by_cases hh : (groupL nx ep' x.2).all rightE = true ∧ ((groupL nx ep' x.2).length : Int) ≤ n - (nx - h')
                      · obtain ⟨a1, a2, a3, a4, a5⟩ := hYes hh.1 hh.2
                        exact .inl ⟨a1, _, _, a2, a3, a4, a5.trans hdn, by omega⟩
                      · obtain ⟨b1, b2⟩ := hNo hh
                        exact .inr ⟨b1, nx, es', by rw [b2], by rw [b2]; exact hI', by rw [b2]; exact hc, by rw [b2]; exact hdn, by omega⟩
                    clear hYes hNo
                    refine hK24 _ _ ?_
                    refine cw_seq fun K25 hK25 => ?_
                    have hJK25 : ∀ f w, (∃ (all2 : List (Int × Int)) (va2 : Value) (Da2 : Chunk) (Δ2 : Chunk) (g : Nat → Value), f = (upd (upd (upd (upd (upd (upd (upd (upd g 0 (.int .i64 n)) 1 (v)) 2 (.int .i64 cut)) 7 (ptr p)) 8 (ptr q)) 9 (.int .i64 ep')) 10 (va2)) 11 (.int .i64 (k : Int))) ∧ ((∃ nx2 es2, X.2.2 = ⟨0, n, h', nx2, ep'⟩ ∧ LogI X.2.1 ⟨0, n, h', nx2, ep'⟩ es2 all2 ∧ Calm X.2.1 ∧ X.2.1.n = n ∧ nx2 ≤ 21 * ((k : Int) + 1)) ∧ Own 39 2 encC va2 all2 Da2 ∧ all2.length ≤ 20 * (k + 1) ∧ DiskAt p X.2.1 Δ2) ∧ Sat E (loopC q p X.2.2 :: Δ2 :: Da2 :: F) w) → K25 f w := by
                      clear hS; rintro f w ⟨all2, va2, Da2, Δ2, g, rfl, hj21, hS⟩
                      refine hK25 _ _ ?_
                      refine cw_seq fun K26 hK26 => ?_
                      obtain ⟨⟨nx2, es2, hXL, hI2, hc2, hdn2, hnx2⟩, hoa2, hal2, hd2⟩ := hj21
                      have hh2 : h' ≤ nx2 := hI2.wf.h1
                      rw [hXL] at hS
                      refine cw_region ?_
                      refine wl_op rfl rfl (ow_vr (vr_move (v := (ptr p)) rfl) ?_)
                      refine wl_op rfl rfl (ow_vr (vr_move (v := .int .i64 n) rfl) ?_)
                      refine wl_op rfl rfl (ow_vr (vr_move (v := (ptr q)) rfl) ?_)
                      refine wl_op rfl rfl (ow_fn (vs := [(ptr q)]) en_13 rfl hS (loop_Head q p _) ?_)
                      clear hS; rintro v86 _ w ⟨rfl, rfl⟩ hS; (try simp only [List.cons_append, List.nil_append] at hS)
                      replace hS := hS.front1
                      refine wl_op rfl rfl (ow_vr (vr_move (v := .int .i64 ep') rfl) ?_)
                      refine wl_op rfl rfl (ow_fn (vs := [(ptr p), .int .i64 _, .int .i64 n, .int .i64 _, .int .i64 ep']) en_10 rfl hS (loop_ScanI hd2 hc2.wf hI2 (by simp only; omega) (by simp only; omega) (show h' < 1000000000 by omega)) ?_)
                      clear hS; rintro v88 _ w ⟨vS, DS, rfl, rfl, hoS⟩ hS; (try simp only [List.cons_append, List.nil_append] at hS)
                      refine wl_op rfl rfl (ow_vr (vr_move (v := .tuple _) rfl) ?_)
                      refine wl_op rfl rfl (ow_vr (vr_extract (v := vS) rfl rfl) ?_)
                      refine wl_op rfl rfl (ow_vr (vr_extract (v := .int .i64 _) rfl rfl) ?_)
                      refine wl_op rfl rfl (ow_vr (vr_extract (v := .int .i64 _) rfl rfl) ?_)
                      refine wl_op rfl rfl (ow_vr (vr_assign (v := vS) rfl) ?_)
                      refine wl_op rfl rfl (ow_vr (vr_assign (v := .int .i64 _) rfl) ?_)
                      refine wl_op rfl rfl (ow_vr (vr_assign (v := .int .i64 _) rfl) ?_)
                      refine wl_nil ?_
                      refine hK26 _ _ ?_
                      refine cw_seq fun K27 hK27 => ?_
                      replace hS := hS.front2
                      refine cw_region ?_
                      refine wl_op rfl rfl (ow_vr (vr_move (v := .int .i64 _) rfl) ?_)
                      refine wl_op rfl rfl (ow_vr (vr_neq rfl rfl) ?_)
                      refine wl_op rfl rfl (ow_vr (vr_move (v := .bool _) rfl) ?_)
                      refine wl_known 94 rfl (c := false) (rfl) ?_
                      refine wl_yes rfl rfl rfl rfl rfl (ow_vr (vr_move (v := .int .i64 _) rfl) ?_)
                      refine wl_yes rfl rfl rfl rfl rfl (ow_vr (vr_move (v := (ptr q)) rfl) ?_)
                      refine wl_yes rfl rfl rfl rfl rfl (ow_fn (vs := [(ptr q)]) en_14 rfl hS (loop_Next q p _) ?_)
                      clear hS; rintro v97 _ w ⟨rfl, rfl⟩ hS; (try simp only [List.cons_append, List.nil_append] at hS)
                      refine wl_yes rfl rfl rfl rfl rfl (ow_vr (vr_neq rfl rfl) ?_)
                      refine wl_op rfl rfl (ow_vr (vr_pick (b := false) (v := .bool _) rfl rfl) ?_)
                      refine wl_op rfl rfl (ow_vr (vr_move (v := .bool _) rfl) ?_)
                      refine wl_known 100 rfl (c := false) (by simp) ?_
                      refine wl_yes rfl rfl rfl rfl rfl (ow_vr (vr_move (v := vS) rfl) ?_)
                      refine wl_yes rfl rfl rfl rfl rfl (ow_vr (vr_move (v := va2) rfl) ?_)
                      refine wl_yes rfl rfl rfl rfl rfl (ow_fng (vs := [vS, va2]) en_15 rfl hS (book_SameChanges _ _ _ _ DS Da2 (hoS.view (by exact fun _ => rfl)) (hoa2.view (by exact fun _ => rfl)) (by omega) (by omega)) (by repeat (first | exact needs0 | (refine needsC ?_ ?_; · (repeat (first | exact List.mem_cons_self | assumption | refine List.mem_cons_of_mem _ ?_))))) ?_)
                      clear hS; rintro v103 _ w ⟨rfl, rfl⟩ hS; (try simp only [List.cons_append, List.nil_append] at hS)
                      refine wl_yes rfl rfl rfl rfl rfl (ow_vr (vr_not rfl) ?_)
                      refine wl_op rfl rfl (ow_vr (vr_pick (b := false) (v := .bool _) rfl rfl) ?_)
                      refine wl_nil ?_
                      replace hS := hS.front1.tail1.front2
                      refine hK27 _ _ ?_
                      refine cw_cond_f rfl rfl (by simp) ?_
                      refine cw_skip ?_
                      refine hK20 _ _ ?_
                      refine cw_region ?_
                      refine wl_op rfl rfl (ow_vr (vr_move (v := .int .i64 (k : Int)) rfl) ?_)
                      refine wl_op rfl rfl (ow_vr (vr_as (v' := .int .i64 ((k + 1 : Nat) : Int)) (vr_addi rfl rfl (by unfold inI64; omega)) (congrArg (Value.int .i64) (by omega))) ?_)
                      refine wl_op rfl rfl (ow_vr (vr_assign (v := .int .i64 _) rfl) ?_)
                      refine wl_nil ?_
                      refine thenF_normal ⟨_, ?_, k + 1, ep', h', nx2, X.2.1, Δ2, es2, all2, va2, Da2, _, (reb (reb (reb (reb (reb (reb (reb (reb rfl rfl) rfl) rfl) rfl) rfl) rfl) rfl) rfl), ?_, rfl, hS⟩
                      · omega
                      · exact ⟨by omega, hd2, hI2, hc2, hdn2, he1, by omega, by omega, hoa2, by omega⟩
                    refine cw_seq fun K28 hK28 => ?_
                    refine cw_region ?_
                    refine wl_op rfl rfl (ow_vr (vr_move (v := (ptr q)) rfl) ?_)
                    refine wl_op rfl rfl (ow_vr (vr_move (v := v) rfl) ?_)
                    refine wl_op rfl rfl (ow_vr (vr_move (v := .int .i64 (k : Int)) rfl) ?_)
                    first | (refine wl_op rfl rfl (ow_vr (vr_indexAddr Tryd.underlying32 sz_27 rfl rfl (by omega) (by omega)) ?_)) | (refine wl_op rfl rfl (ow_vr (vr_indexV (v := v) Tryd.underlying32 sz_27 rfl (by first | assumption | (refine Own.view ?_ (by assumption); exact fun _ => rfl) | exact OwnB.view (by assumption)) rfl (by omega) (by first | omega | (simp <;> omega))) ?_))
                    refine wl_op rfl rfl (ow_lr (S := Sat _ _) (lr_loadV1 (u := x.1) Tryd.underlying27 rfl rfl hv (by repeat (first | exact List.mem_cons_self | assumption | refine List.mem_cons_of_mem _ ?_)) (hx) (by exact fun _ => rfl) (by rfl)) hS ?_)
                    refine wl_op rfl rfl (ow_fnm (vs := [(ptr q), x.1]) en_12 rfl hS (hL) (by repeat (first | exact needs0 | (refine needsC ?_ ?_; · (repeat (first | exact List.mem_cons_self | assumption | refine List.mem_cons_of_mem _ ?_))))) ?_)
                    clear hS; rintro v74 _ w ⟨rfl, Δ1, rfl, hd1⟩ hS; (try simp only [List.cons_append, List.nil_append] at hS)
                    refine wl_op rfl rfl (ow_vr (vr_eql rfl rfl) ?_)
                    refine wl_nil ?_
                    refine hK28 _ _ ?_
                    refine cw_cond rfl rfl (fun hc => ?_) (fun hc => ?_)
                    · (try simp only [decide_eq_true_eq, decide_eq_false_iff_not, Bool.not_eq_true, Bool.not_eq_false, Bool.not_eq_true', Bool.not_eq_false', Bool.and_eq_true, Bool.or_eq_true, Bool.and_eq_false_iff, Bool.or_eq_false_iff, Int.not_lt, Int.not_le, gt_iff_lt, ge_iff_le, ne_eq, Decidable.not_not, beq_iff_eq] at hc)
                      have happ := hc; clear hc
                      refine cw_region ?_
                      refine wl_op rfl rfl (ow_vr (vr_move (v := va') rfl) ?_)
                      refine wl_op rfl rfl (ow_vr (vr_move (v := v) rfl) ?_)
                      refine wl_op rfl rfl (ow_vr (vr_move (v := .int .i64 (k : Int)) rfl) ?_)
                      first | (refine wl_op rfl rfl (ow_vr (vr_indexAddr Tryd.underlying32 sz_27 rfl rfl (by omega) (by omega)) ?_)) | (refine wl_op rfl rfl (ow_vr (vr_indexV (v := v) Tryd.underlying32 sz_27 rfl (by first | assumption | (refine Own.view ?_ (by assumption); exact fun _ => rfl) | exact OwnB.view (by assumption)) rfl (by omega) (by first | omega | (simp <;> omega))) ?_))
                      refine wl_op rfl rfl (ow_lr (S := Sat _ _) (lr_loadV1 (u := x.1) Tryd.underlying27 rfl rfl hv (by repeat (first | exact List.mem_cons_self | assumption | refine List.mem_cons_of_mem _ ?_)) (hx) (by exact fun _ => rfl) (by rfl)) hS ?_)
                      refine wl_op rfl rfl (ow_append (v := va') (u := x.1) hS Tryd.underlying27 Tryd.underlying27 if_39 rfl (by decide) rfl rfl (by assumption) (by first | assumption | (refine Own.view ?_ (by assumption); exact fun _ => rfl) | exact OwnB.view (by assumption)) (by first | exact HasC.here | exact HasC.there (HasC.here) | exact HasC.there (HasC.there (HasC.here)) | exact HasC.there (HasC.there (HasC.there (HasC.here))) | exact HasC.there (HasC.there (HasC.there (HasC.there (HasC.here)))) | exact HasC.there (HasC.there (HasC.there (HasC.there (HasC.there (HasC.here))))) | exact HasC.there (HasC.there (HasC.there (HasC.there (HasC.there (HasC.there (HasC.here)))))) | exact HasC.there (HasC.there (HasC.there (HasC.there (HasC.there (HasC.there (HasC.there (HasC.here))))))) | exact HasC.there (HasC.there (HasC.there (HasC.there (HasC.there (HasC.there (HasC.there (HasC.there (HasC.here))))))))) (by repeat (first | exact List.mem_cons_self | assumption | refine List.mem_cons_of_mem _ ?_)) (by exact fun _ => rfl) (by exact fun _ => rfl) (by first | omega | (simp [maxLen] <;> omega) | (simp <;> omega)) (by first | omega | (simp [maxLen] <;> omega) | (simp <;> omega)) ?_)
                      clear hS; intro v81 D81 w ho81 hS
                      refine wl_op rfl rfl (ow_vr (vr_assign (v := v81) rfl) ?_)
                      refine wl_nil ?_
                      refine hJK25 _ _ ⟨all' ++ x.2, v81, D81, Δ1, _, (reb (reb (reb (reb (reb (reb (reb (reb rfl rfl) rfl) rfl) rfl) rfl) rfl) rfl) rfl), ?_, hS⟩
                      first | exact ⟨hres.elim (fun h => h.2) (fun h => absurd happ h.1), ho81, by simp; omega, hd1⟩ | exact ⟨hres.elim (fun h => absurd h.1 happ) (fun h => h.2), hoa', by omega, hd1⟩
                    · (try simp only [decide_eq_true_eq, decide_eq_false_iff_not, Bool.not_eq_true, Bool.not_eq_false, Bool.not_eq_true', Bool.not_eq_false', Bool.and_eq_true, Bool.or_eq_true, Bool.and_eq_false_iff, Bool.or_eq_false_iff, Int.not_lt, Int.not_le, gt_iff_lt, ge_iff_le, ne_eq, Decidable.not_not, beq_iff_eq] at hc)
                      have happ := hc; clear hc
                      refine cw_skip ?_
                      refine hJK25 _ _ ⟨all', va', Da', Δ1, _, (reb (reb (reb (reb (reb (reb (reb (reb rfl rfl) rfl) rfl) rfl) rfl) rfl) rfl) rfl), ?_, hS⟩
                      first | exact ⟨hres.elim (fun h => h.2) (fun h => absurd happ h.1), ho81, by simp; omega, hd1⟩ | exact ⟨hres.elim (fun h => absurd h.1 happ) (fun h => h.2), hoa', by omega, hd1⟩
                  refine cw_seq fun K29 hK29 => ?_
                  refine cw_region ?_
                  refine wl_op rfl rfl (ow_vr (vr_move (v := .int .i64 (k : Int)) rfl) ?_)
                  refine wl_op rfl rfl (ow_vr (vr_rem rfl rfl (by omega) (by omega)) ?_)
                  refine wl_op rfl rfl (ow_vr (vr_move (v := .int .i64 cut) rfl) ?_)
                  refine wl_op rfl rfl (ow_vr (vr_rem rfl rfl (by omega) (by omega)) ?_)
                  refine wl_op rfl rfl (ow_vr (vr_eql rfl rfl) ?_)
                  refine wl_nil ?_
                  refine hK29 _ _ ?_
                  refine cw_cond rfl rfl (fun hc => ?_) (fun hc => ?_)
                  · (try simp only [decide_eq_true_eq, decide_eq_false_iff_not, Bool.not_eq_true, Bool.not_eq_false, Bool.not_eq_true', Bool.not_eq_false', Bool.and_eq_true, Bool.or_eq_true, Bool.and_eq_false_iff, Bool.or_eq_false_iff, Int.not_lt, Int.not_le, gt_iff_lt, ge_iff_le, ne_eq, Decidable.not_not, beq_iff_eq] at hc)
                    have hcut := hc; clear hc
                    refine cw_seq fun K30 hK30 => ?_
                    have hC := loop_Cut q p ⟨0, n, hd_, nx, ep⟩ (ep + 1)
                    rw [cut_to (by simp only; omega) (by omega)] at hC
                    have hIc := hI.cut (e := ep + 1) (by simp only; omega)
                    replace hS := hS.front1
                    refine cw_region ?_
                    refine wl_op rfl rfl (ow_vr (vr_move (v := .int .i64 ep) rfl) ?_)
                    first | (refine wl_op rfl rfl (ow_vr (vr_addi rfl rfl (by unfold inI64; omega)) ?_)) | (refine wl_op rfl rfl (ow_vr (vr_add rfl rfl) ?_))
                    refine wl_op rfl rfl (ow_vr (vr_assign (v := .int .i64 _) rfl) ?_)
                    refine wl_nil ?_
                    refine hK30 _ _ ?_
                    refine cw_seq fun K31 hK31 => ?_
                    refine cw_seq fun K32 hK32 => ?_
                    refine cw_region ?_
                    refine wl_op rfl rfl (ow_vr (vr_move (v := (ptr q)) rfl) ?_)
                    refine wl_op rfl rfl (ow_vr (vr_move (v := .int .i64 _) rfl) ?_)
                    refine wl_op rfl rfl (ow_fn (vs := [(ptr q), .int .i64 _]) en_11 rfl hS (hC) ?_)
                    clear hS; rintro v67 _ w ⟨rfl, rfl⟩ hS; (try simp only [List.cons_append, List.nil_append] at hS)
                    refine wl_op rfl rfl (ow_vr (vr_neq rfl rfl) ?_)
                    refine wl_nil ?_
                    refine hK32 _ _ ?_
                    refine cw_cond_f rfl rfl (rfl) ?_
                    refine cw_skip ?_
                    refine hK31 _ _ ?_
                    refine cw_region ?_
                    refine wl_op rfl rfl (ow_vr (vr_assign (v := .slice none 0 0) rfl) ?_)
                    refine wl_nil ?_
                    replace hS := Sat.nilc.2 hS.front1.tail1
                    refine hJK24 _ _ ⟨ep + 1, nx, [], [], .slice none 0 0, [], _, (reb (reb (reb (reb (reb (reb (reb (reb rfl rfl) rfl) rfl) rfl) rfl) rfl) rfl) rfl), ?_, hS⟩
                    first | exact ⟨hIc, by omega, by omega, Own.nil, by simp⟩ | exact ⟨hI, by omega, by omega, hoa, by omega⟩
                  · (try simp only [decide_eq_true_eq, decide_eq_false_iff_not, Bool.not_eq_true, Bool.not_eq_false, Bool.not_eq_true', Bool.not_eq_false', Bool.and_eq_true, Bool.or_eq_true, Bool.and_eq_false_iff, Bool.or_eq_false_iff, Int.not_lt, Int.not_le, gt_iff_lt, ge_iff_le, ne_eq, Decidable.not_not, beq_iff_eq] at hc)
                    have hcut := hc; clear hc
                    refine cw_skip ?_
                    refine hJK24 _ _ ⟨ep, hd_, es, all, va, Da, _, (reb (reb (reb (reb (reb (reb (reb (reb rfl rfl) rfl) rfl) rfl) rfl) rfl) rfl) rfl), ?_, hS⟩
                    first | exact ⟨hIc, by omega, by omega, Own.nil, by simp⟩ | exact ⟨hI, by omega, by omega, hoa, by omega⟩
              · (try simp only [decide_eq_true_eq, decide_eq_false_iff_not, Bool.not_eq_true, Bool.not_eq_false, Bool.not_eq_true', Bool.not_eq_false', Bool.and_eq_true, Bool.or_eq_true, Bool.and_eq_false_iff, Bool.or_eq_false_iff, Int.not_lt, Int.not_le, gt_iff_lt, ge_iff_le, ne_eq, Decidable.not_not, beq_iff_eq] at hc)
                have hc2 := hc; clear hc
                refine cw_exit ?_
                refine hK16 _ _ ?_
                refine cw_seq fun K33 hK33 => ?_
                refine cw_region ?_
                refine wl_op rfl rfl (ow_vr (vr_assign (v := .bool true) rfl) ?_)
                refine wl_nil ?_
                refine hK33 _ _ ?_
                refine cw_ret ?_
                refine ret_one (fn := Tryd.f4) (n := 106) (t := 6) (.inl rfl) rfl rfl ?_
                exact ⟨[], ⟨rfl, rfl⟩, hS.tail1.tail1.tail1⟩
end Go.Proofs.YtjcagoighpmdkaaDoor
