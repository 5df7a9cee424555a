/- LoopPlays. -/
import Derived.Test.YtjcagoighpmdkaaGreatDoorPlays
namespace Go.Proofs.YtjcagoighpmdkaaGreatDoor
open Go Go.RowKit
set_option linter.unusedVariables false
set_option linter.unusedSimpArgs false
theorem Sat.lp1 {E w : World} {a b c d : Chunk} {L : List Chunk} (h : Sat E (a :: b :: c :: d :: L) w) : Sat E (c :: d :: a :: b :: L) w := h.perm (by classical exact List.perm_iff_count.2 fun x => by simp only [List.cons_append, List.nil_append, List.flatten_cons, List.flatten_nil, List.flatten_append, List.count_append, List.append_nil, List.count_cons, List.count_nil] <;> omega)
/-- An own list in another's place. -/
theorem Sat.lp4 {E w : World} {z a b c e y : Chunk} {L : List Chunk} (h : Sat E (z :: a :: b :: c :: e :: y :: L) w) : Sat E (a :: b :: c :: e :: z :: L) w :=
  Sat.tail1 (show Sat E (y :: a :: b :: c :: e :: z :: L) w from h.perm (by classical exact List.perm_iff_count.2 fun x => by simp only [List.cons_append, List.nil_append, List.flatten_cons, List.flatten_nil, List.flatten_append, List.count_append, List.append_nil, List.count_cons, List.count_nil] <;> omega))
theorem Sat.lp5 {E w : World} {a b c e : Chunk} {L : List Chunk} (h : Sat E (a :: b :: c :: e :: L) w) : Sat E (e :: a :: b :: L) w :=
  Sat.tail1 (show Sat E (c :: e :: a :: b :: L) w from h.perm (by classical exact List.perm_iff_count.2 fun x => by simp only [List.cons_append, List.nil_append, List.flatten_cons, List.flatten_nil, List.flatten_append, List.count_append, List.append_nil, List.count_cons, List.count_nil] <;> omega))
theorem Sat.lp6 {E w : World} {a b c e f' g k : Chunk} {L : List Chunk} (h : Sat E (a :: b :: c :: e :: f' :: g :: k :: L) w) : Sat E (c :: a :: b :: [] :: g :: k :: L) w :=
  Sat.tail1 (Sat.tail1 (show Sat E (e :: f' :: c :: a :: b :: [] :: g :: k :: L) w from h.perm (by classical exact List.perm_iff_count.2 fun x => by simp only [List.cons_append, List.nil_append, List.flatten_cons, List.flatten_nil, List.flatten_append, List.count_append, List.append_nil, List.count_cons, List.count_nil] <;> omega)))
theorem Sat.lp7 {E w : World} {a b c e : Chunk} {L : List Chunk} (h : Sat E (a :: b :: c :: e :: L) w) : Sat E (a :: b :: c :: [] :: L) w :=
  Sat.tail1 (show Sat E (e :: a :: b :: c :: [] :: L) w from h.perm (by classical exact List.perm_iff_count.2 fun x => by simp only [List.cons_append, List.nil_append, List.flatten_cons, List.flatten_nil, List.flatten_append, List.count_append, List.append_nil, List.count_cons, List.count_nil] <;> omega))
theorem Sat.lp8 {E w : World} {a b c e f' g k : Chunk} {L : List Chunk} (h : Sat E (a :: b :: c :: e :: f' :: g :: k :: L) w) : Sat E (g :: k :: a :: b :: c :: e :: f' :: L) w := h.perm (by classical exact List.perm_iff_count.2 fun x => by simp only [List.cons_append, List.nil_append, List.flatten_cons, List.flatten_nil, List.flatten_append, List.count_append, List.append_nil, List.count_cons, List.count_nil] <;> omega)
theorem Sat.lp9 {E w : World} {a b g k c e f' : Chunk} {L : List Chunk} (h : Sat E (a :: b :: g :: k :: c :: e :: f' :: L) w) : Sat E (c :: a :: b :: f' :: g :: k :: L) w :=
  Sat.tail1 (show Sat E (e :: c :: a :: b :: f' :: g :: k :: L) w from h.perm (by classical exact List.perm_iff_count.2 fun x => by simp only [List.cons_append, List.nil_append, List.flatten_cons, List.flatten_nil, List.flatten_append, List.count_append, List.append_nil, List.count_cons, List.count_nil] <;> omega))
attribute [local irreducible] actF WL CW OW PL SW VR LR yes Returns Fn
set_option maxHeartbeats 4000000 in
theorem loop_plays (n head : Int) (l : List OpR) (v : Value) (Δ G : Chunk) (hv : View 5 encOp v l Δ) (hvs : ∀ o ∈ l, View 2 encC o.vL o.cs Δ ∧ View 1 encI o.vK o.ks Δ ∧ o.cs.length ≤ 9223372036854775807 ∧ o.ks.length ≤ 9223372036854775807) (hG : Glob G) (hn : l.length ≤ 9223372036854775807) :
    FnG Tryz.prog 3 [.int .i64 n, .int .i64 head, v] [Δ, G] (fun u Δs => u = .bool true ∧ Δs = []) := by
  refine FnG.mk fun E F w hS hF => ?_
  have hF0 : Δ ∈ F := hF _ (by simp)
  have hFg : G ∈ F := hF _ (by simp)
  refine returns_enter Tryz.func3 rfl Tryz.ntmps3 rfl ?_
  refine cw_seq fun K1 hK1 => ?_
  refine cw_region ?_
  refine wl_op rfl rfl (ow_vr (vr_assign (v := .bool false) rfl) ?_)
  refine wl_nil ?_
  refine hK1 _ _ ?_
  refine cw_seq fun K2 hK2 => ?_
  refine cw_seq fun K3 hK3 => ?_
  refine cw_region ?_
  refine wl_op rfl rfl (ow_vr (vr_move (v := .int .i64 _) rfl) ?_)
  refine wl_op rfl rfl (ow_vr (vr_lss rfl rfl) ?_)
  refine wl_op rfl rfl (ow_vr (vr_move (v := .bool _) rfl) ?_)
  refine wl_split 29 rfl (fun hc => ?_) (fun hc => ?_)
  · (try simp only [decide_eq_true_eq, decide_eq_false_iff_not, Bool.not_eq_true, Bool.not_eq_false, Bool.not_eq_true', Bool.not_eq_false', Bool.and_eq_true, Bool.or_eq_true, Bool.and_eq_false_iff, Bool.or_eq_false_iff, Int.not_lt, Int.not_le, gt_iff_lt, ge_iff_le, ne_eq, Decidable.not_not, beq_iff_eq] at hc)
    have hg29 := hc; clear hc
    refine wl_noD rfl rfl rfl rfl rfl rfl ?_
    refine wl_noD rfl rfl rfl rfl rfl rfl ?_
    refine wl_op rfl rfl (ow_vr (vr_pick (b := true) (v := .bool _) rfl rfl) ?_)
    refine wl_op rfl rfl (ow_vr (vr_move (v := .bool _) rfl) ?_)
    refine wl_noD rfl rfl rfl rfl rfl rfl ?_
    refine wl_noD rfl rfl rfl rfl rfl rfl ?_
    refine wl_op rfl rfl (ow_vr (vr_pick (b := true) (v := .bool _) rfl rfl) ?_)
    refine wl_op rfl rfl (ow_vr (vr_move (v := .bool _) rfl) ?_)
    refine wl_noD rfl rfl rfl rfl rfl rfl ?_
    refine wl_noD rfl rfl rfl rfl rfl rfl ?_
    refine wl_op rfl rfl (ow_vr (vr_pick (b := true) (v := .bool _) rfl rfl) ?_)
    refine wl_op rfl rfl (ow_vr (vr_move (v := .bool _) rfl) ?_)
    refine wl_noD rfl rfl rfl rfl rfl rfl ?_
    refine wl_noD rfl rfl rfl rfl rfl rfl ?_
    refine wl_noD rfl rfl rfl rfl rfl rfl ?_
    refine wl_op rfl rfl (ow_vr (vr_pick (b := true) (v := .bool _) rfl rfl) ?_)
    refine wl_op rfl rfl (ow_vr (vr_move (v := .bool _) rfl) ?_)
    refine wl_noD rfl rfl rfl rfl rfl rfl ?_
    refine wl_noD rfl rfl rfl rfl rfl rfl ?_
    refine wl_op rfl rfl (ow_vr (vr_pick (b := true) (v := .bool _) rfl rfl) ?_)
    refine wl_nil ?_
    refine hK3 _ _ ?_
    refine cw_cond_t rfl rfl (rfl) ?_
    refine cw_seq fun K4 hK4 => ?_
    refine cw_region ?_
    refine wl_op rfl rfl (ow_fng (vs := []) en_4 rfl hS (alive7 hG) (by repeat (first | exact needs0 | (refine needsC ?_ ?_; · (repeat (first | exact List.mem_cons_self | assumption | refine List.mem_cons_of_mem _ ?_))))) ?_)
    clear hS; rintro v50 _ w ⟨rfl, rfl⟩ hS; (try simp only [List.cons_append, List.nil_append] at hS)
    refine wl_op rfl rfl (ow_vr (vr_assign (v := .bool _) rfl) ?_)
    refine wl_nil ?_
    refine hK4 _ _ ?_
    refine cw_ret ?_
    refine thenF_ret (?_)
    refine ret_one (fn := Tryz.f3) (n := 331) (t := 6) (.inl rfl) rfl rfl ?_
    exact ⟨[], ⟨rfl, rfl⟩, hS⟩
  · (try simp only [decide_eq_true_eq, decide_eq_false_iff_not, Bool.not_eq_true, Bool.not_eq_false, Bool.not_eq_true', Bool.not_eq_false', Bool.and_eq_true, Bool.or_eq_true, Bool.and_eq_false_iff, Bool.or_eq_false_iff, Int.not_lt, Int.not_le, gt_iff_lt, ge_iff_le, ne_eq, Decidable.not_not, beq_iff_eq] at hc)
    have hg29 := hc; clear hc
    refine wl_yes rfl rfl rfl rfl rfl (ow_vr (vr_move (v := .int .i64 _) rfl) ?_)
    refine wl_yes rfl rfl rfl rfl rfl (ow_vr (vr_gtr rfl rfl) ?_)
    refine wl_op rfl rfl (ow_vr (vr_pick (b := false) (v := .bool _) rfl rfl) ?_)
    refine wl_op rfl rfl (ow_vr (vr_move (v := .bool _) rfl) ?_)
    refine wl_split 33 rfl (fun hc => ?_) (fun hc => ?_)
    · (try simp only [decide_eq_true_eq, decide_eq_false_iff_not, Bool.not_eq_true, Bool.not_eq_false, Bool.not_eq_true', Bool.not_eq_false', Bool.and_eq_true, Bool.or_eq_true, Bool.and_eq_false_iff, Bool.or_eq_false_iff, Int.not_lt, Int.not_le, gt_iff_lt, ge_iff_le, ne_eq, Decidable.not_not, beq_iff_eq] at hc)
      have hg33 := hc; clear hc
      refine wl_noD rfl rfl rfl rfl rfl rfl ?_
      refine wl_noD rfl rfl rfl rfl rfl rfl ?_
      refine wl_op rfl rfl (ow_vr (vr_pick (b := true) (v := .bool _) rfl rfl) ?_)
      refine wl_op rfl rfl (ow_vr (vr_move (v := .bool _) rfl) ?_)
      refine wl_noD rfl rfl rfl rfl rfl rfl ?_
      refine wl_noD rfl rfl rfl rfl rfl rfl ?_
      refine wl_op rfl rfl (ow_vr (vr_pick (b := true) (v := .bool _) rfl rfl) ?_)
      refine wl_op rfl rfl (ow_vr (vr_move (v := .bool _) rfl) ?_)
      refine wl_noD rfl rfl rfl rfl rfl rfl ?_
      refine wl_noD rfl rfl rfl rfl rfl rfl ?_
      refine wl_noD rfl rfl rfl rfl rfl rfl ?_
      refine wl_op rfl rfl (ow_vr (vr_pick (b := true) (v := .bool _) rfl rfl) ?_)
      refine wl_op rfl rfl (ow_vr (vr_move (v := .bool _) rfl) ?_)
      refine wl_noD rfl rfl rfl rfl rfl rfl ?_
      refine wl_noD rfl rfl rfl rfl rfl rfl ?_
      refine wl_op rfl rfl (ow_vr (vr_pick (b := true) (v := .bool _) rfl rfl) ?_)
      refine wl_nil ?_
      refine hK3 _ _ ?_
      refine cw_cond_t rfl rfl (rfl) ?_
      refine cw_seq fun K5 hK5 => ?_
      refine cw_region ?_
      refine wl_op rfl rfl (ow_fng (vs := []) en_4 rfl hS (alive7 hG) (by repeat (first | exact needs0 | (refine needsC ?_ ?_; · (repeat (first | exact List.mem_cons_self | assumption | refine List.mem_cons_of_mem _ ?_))))) ?_)
      clear hS; rintro v50 _ w ⟨rfl, rfl⟩ hS; (try simp only [List.cons_append, List.nil_append] at hS)
      refine wl_op rfl rfl (ow_vr (vr_assign (v := .bool _) rfl) ?_)
      refine wl_nil ?_
      refine hK5 _ _ ?_
      refine cw_ret ?_
      refine thenF_ret (?_)
      refine ret_one (fn := Tryz.f3) (n := 331) (t := 6) (.inl rfl) rfl rfl ?_
      exact ⟨[], ⟨rfl, rfl⟩, hS⟩
    · (try simp only [decide_eq_true_eq, decide_eq_false_iff_not, Bool.not_eq_true, Bool.not_eq_false, Bool.not_eq_true', Bool.not_eq_false', Bool.and_eq_true, Bool.or_eq_true, Bool.and_eq_false_iff, Bool.or_eq_false_iff, Int.not_lt, Int.not_le, gt_iff_lt, ge_iff_le, ne_eq, Decidable.not_not, beq_iff_eq] at hc)
      have hg33 := hc; clear hc
      refine wl_yes rfl rfl rfl rfl rfl (ow_vr (vr_move (v := .int .i64 _) rfl) ?_)
      refine wl_yes rfl rfl rfl rfl rfl (ow_vr (vr_lss rfl rfl) ?_)
      refine wl_op rfl rfl (ow_vr (vr_pick (b := false) (v := .bool _) rfl rfl) ?_)
      refine wl_op rfl rfl (ow_vr (vr_move (v := .bool _) rfl) ?_)
      refine wl_split 37 rfl (fun hc => ?_) (fun hc => ?_)
      · (try simp only [decide_eq_true_eq, decide_eq_false_iff_not, Bool.not_eq_true, Bool.not_eq_false, Bool.not_eq_true', Bool.not_eq_false', Bool.and_eq_true, Bool.or_eq_true, Bool.and_eq_false_iff, Bool.or_eq_false_iff, Int.not_lt, Int.not_le, gt_iff_lt, ge_iff_le, ne_eq, Decidable.not_not, beq_iff_eq] at hc)
        have hg37 := hc; clear hc
        refine wl_noD rfl rfl rfl rfl rfl rfl ?_
        refine wl_noD rfl rfl rfl rfl rfl rfl ?_
        refine wl_op rfl rfl (ow_vr (vr_pick (b := true) (v := .bool _) rfl rfl) ?_)
        refine wl_op rfl rfl (ow_vr (vr_move (v := .bool _) rfl) ?_)
        refine wl_noD rfl rfl rfl rfl rfl rfl ?_
        refine wl_noD rfl rfl rfl rfl rfl rfl ?_
        refine wl_noD rfl rfl rfl rfl rfl rfl ?_
        refine wl_op rfl rfl (ow_vr (vr_pick (b := true) (v := .bool _) rfl rfl) ?_)
        refine wl_op rfl rfl (ow_vr (vr_move (v := .bool _) rfl) ?_)
        refine wl_noD rfl rfl rfl rfl rfl rfl ?_
        refine wl_noD rfl rfl rfl rfl rfl rfl ?_
        refine wl_op rfl rfl (ow_vr (vr_pick (b := true) (v := .bool _) rfl rfl) ?_)
        refine wl_nil ?_
        refine hK3 _ _ ?_
        refine cw_cond_t rfl rfl (rfl) ?_
        refine cw_seq fun K6 hK6 => ?_
        refine cw_region ?_
        refine wl_op rfl rfl (ow_fng (vs := []) en_4 rfl hS (alive7 hG) (by repeat (first | exact needs0 | (refine needsC ?_ ?_; · (repeat (first | exact List.mem_cons_self | assumption | refine List.mem_cons_of_mem _ ?_))))) ?_)
        clear hS; rintro v50 _ w ⟨rfl, rfl⟩ hS; (try simp only [List.cons_append, List.nil_append] at hS)
        refine wl_op rfl rfl (ow_vr (vr_assign (v := .bool _) rfl) ?_)
        refine wl_nil ?_
        refine hK6 _ _ ?_
        refine cw_ret ?_
        refine thenF_ret (?_)
        refine ret_one (fn := Tryz.f3) (n := 331) (t := 6) (.inl rfl) rfl rfl ?_
        exact ⟨[], ⟨rfl, rfl⟩, hS⟩
      · (try simp only [decide_eq_true_eq, decide_eq_false_iff_not, Bool.not_eq_true, Bool.not_eq_false, Bool.not_eq_true', Bool.not_eq_false', Bool.and_eq_true, Bool.or_eq_true, Bool.and_eq_false_iff, Bool.or_eq_false_iff, Int.not_lt, Int.not_le, gt_iff_lt, ge_iff_le, ne_eq, Decidable.not_not, beq_iff_eq] at hc)
        have hg37 := hc; clear hc
        refine wl_yes rfl rfl rfl rfl rfl (ow_vr (vr_move (v := .int .i64 _) rfl) ?_)
        refine wl_yes rfl rfl rfl rfl rfl (ow_vr (vr_gtr rfl rfl) ?_)
        refine wl_op rfl rfl (ow_vr (vr_pick (b := false) (v := .bool _) rfl rfl) ?_)
        refine wl_op rfl rfl (ow_vr (vr_move (v := .bool _) rfl) ?_)
        refine wl_split 41 rfl (fun hc => ?_) (fun hc => ?_)
        · (try simp only [decide_eq_true_eq, decide_eq_false_iff_not, Bool.not_eq_true, Bool.not_eq_false, Bool.not_eq_true', Bool.not_eq_false', Bool.and_eq_true, Bool.or_eq_true, Bool.and_eq_false_iff, Bool.or_eq_false_iff, Int.not_lt, Int.not_le, gt_iff_lt, ge_iff_le, ne_eq, Decidable.not_not, beq_iff_eq] at hc)
          have hg41 := hc; clear hc
          refine wl_noD rfl rfl rfl rfl rfl rfl ?_
          refine wl_noD rfl rfl rfl rfl rfl rfl ?_
          refine wl_noD rfl rfl rfl rfl rfl rfl ?_
          refine wl_op rfl rfl (ow_vr (vr_pick (b := true) (v := .bool _) rfl rfl) ?_)
          refine wl_op rfl rfl (ow_vr (vr_move (v := .bool _) rfl) ?_)
          refine wl_noD rfl rfl rfl rfl rfl rfl ?_
          refine wl_noD rfl rfl rfl rfl rfl rfl ?_
          refine wl_op rfl rfl (ow_vr (vr_pick (b := true) (v := .bool _) rfl rfl) ?_)
          refine wl_nil ?_
          refine hK3 _ _ ?_
          refine cw_cond_t rfl rfl (rfl) ?_
          refine cw_seq fun K7 hK7 => ?_
          refine cw_region ?_
          refine wl_op rfl rfl (ow_fng (vs := []) en_4 rfl hS (alive7 hG) (by repeat (first | exact needs0 | (refine needsC ?_ ?_; · (repeat (first | exact List.mem_cons_self | assumption | refine List.mem_cons_of_mem _ ?_))))) ?_)
          clear hS; rintro v50 _ w ⟨rfl, rfl⟩ hS; (try simp only [List.cons_append, List.nil_append] at hS)
          refine wl_op rfl rfl (ow_vr (vr_assign (v := .bool _) rfl) ?_)
          refine wl_nil ?_
          refine hK7 _ _ ?_
          refine cw_ret ?_
          refine thenF_ret (?_)
          refine ret_one (fn := Tryz.f3) (n := 331) (t := 6) (.inl rfl) rfl rfl ?_
          exact ⟨[], ⟨rfl, rfl⟩, hS⟩
        · (try simp only [decide_eq_true_eq, decide_eq_false_iff_not, Bool.not_eq_true, Bool.not_eq_false, Bool.not_eq_true', Bool.not_eq_false', Bool.and_eq_true, Bool.or_eq_true, Bool.and_eq_false_iff, Bool.or_eq_false_iff, Int.not_lt, Int.not_le, gt_iff_lt, ge_iff_le, ne_eq, Decidable.not_not, beq_iff_eq] at hc)
          have hg41 := hc; clear hc
          refine wl_yes rfl rfl rfl rfl rfl (ow_vr (vr_move (v := v) rfl) ?_)
          refine wl_yes rfl rfl rfl rfl rfl (ow_vr (vr_len_v (v := v) Tryz.underlying22 rfl hv) ?_)
          refine wl_yes rfl rfl rfl rfl rfl (ow_vr (vr_gtr rfl rfl) ?_)
          refine wl_op rfl rfl (ow_vr (vr_pick (b := false) (v := .bool _) rfl rfl) ?_)
          refine wl_op rfl rfl (ow_vr (vr_move (v := .bool _) rfl) ?_)
          refine wl_split 46 rfl (fun hc => ?_) (fun hc => ?_)
          · (try simp only [decide_eq_true_eq, decide_eq_false_iff_not, Bool.not_eq_true, Bool.not_eq_false, Bool.not_eq_true', Bool.not_eq_false', Bool.and_eq_true, Bool.or_eq_true, Bool.and_eq_false_iff, Bool.or_eq_false_iff, Int.not_lt, Int.not_le, gt_iff_lt, ge_iff_le, ne_eq, Decidable.not_not, beq_iff_eq] at hc)
            have hg46 := hc; clear hc
            refine wl_noD rfl rfl rfl rfl rfl rfl ?_
            refine wl_noD rfl rfl rfl rfl rfl rfl ?_
            refine wl_op rfl rfl (ow_vr (vr_pick (b := true) (v := .bool _) rfl rfl) ?_)
            refine wl_nil ?_
            refine hK3 _ _ ?_
            refine cw_cond_t rfl rfl (rfl) ?_
            refine cw_seq fun K8 hK8 => ?_
            refine cw_region ?_
            refine wl_op rfl rfl (ow_fng (vs := []) en_4 rfl hS (alive7 hG) (by repeat (first | exact needs0 | (refine needsC ?_ ?_; · (repeat (first | exact List.mem_cons_self | assumption | refine List.mem_cons_of_mem _ ?_))))) ?_)
            clear hS; rintro v50 _ w ⟨rfl, rfl⟩ hS; (try simp only [List.cons_append, List.nil_append] at hS)
            refine wl_op rfl rfl (ow_vr (vr_assign (v := .bool _) rfl) ?_)
            refine wl_nil ?_
            refine hK8 _ _ ?_
            refine cw_ret ?_
            refine thenF_ret (?_)
            refine ret_one (fn := Tryz.f3) (n := 331) (t := 6) (.inl rfl) rfl rfl ?_
            exact ⟨[], ⟨rfl, rfl⟩, hS⟩
          · (try simp only [decide_eq_true_eq, decide_eq_false_iff_not, Bool.not_eq_true, Bool.not_eq_false, Bool.not_eq_true', Bool.not_eq_false', Bool.and_eq_true, Bool.or_eq_true, Bool.and_eq_false_iff, Bool.or_eq_false_iff, Int.not_lt, Int.not_le, gt_iff_lt, ge_iff_le, ne_eq, Decidable.not_not, beq_iff_eq] at hc)
            have hg46 := hc; clear hc
            refine wl_yes rfl rfl rfl rfl rfl (ow_fng (vs := []) en_4 rfl hS (alive7 hG) (by repeat (first | exact needs0 | (refine needsC ?_ ?_; · (repeat (first | exact List.mem_cons_self | assumption | refine List.mem_cons_of_mem _ ?_))))) ?_)
            clear hS; rintro v47 _ w ⟨rfl, rfl⟩ hS; (try simp only [List.cons_append, List.nil_append] at hS)
            refine wl_yes rfl rfl rfl rfl rfl (ow_vr (vr_not rfl) ?_)
            refine wl_op rfl rfl (ow_vr (vr_pick (b := false) (v := .bool _) rfl rfl) ?_)
            refine wl_nil ?_
            refine hK3 _ _ ?_
            refine cw_cond rfl rfl (fun hc => ?_) (fun hc => ?_)
            · (try simp only [decide_eq_true_eq, decide_eq_false_iff_not, Bool.not_eq_true, Bool.not_eq_false, Bool.not_eq_true', Bool.not_eq_false', Bool.and_eq_true, Bool.or_eq_true, Bool.and_eq_false_iff, Bool.or_eq_false_iff, Int.not_lt, Int.not_le, gt_iff_lt, ge_iff_le, ne_eq, Decidable.not_not, beq_iff_eq] at hc)
              have hc0 := hc; clear hc
              refine cw_seq fun K9 hK9 => ?_
              refine cw_region ?_
              refine wl_op rfl rfl (ow_fng (vs := []) en_4 rfl hS (alive7 hG) (by repeat (first | exact needs0 | (refine needsC ?_ ?_; · (repeat (first | exact List.mem_cons_self | assumption | refine List.mem_cons_of_mem _ ?_))))) ?_)
              clear hS; rintro v50 _ w ⟨rfl, rfl⟩ hS; (try simp only [List.cons_append, List.nil_append] at hS)
              refine wl_op rfl rfl (ow_vr (vr_assign (v := .bool _) rfl) ?_)
              refine wl_nil ?_
              refine hK9 _ _ ?_
              refine cw_ret ?_
              refine thenF_ret (?_)
              refine ret_one (fn := Tryz.f3) (n := 331) (t := 6) (.inl rfl) rfl rfl ?_
              exact ⟨[], ⟨rfl, rfl⟩, hS⟩
            · (try simp only [decide_eq_true_eq, decide_eq_false_iff_not, Bool.not_eq_true, Bool.not_eq_false, Bool.not_eq_true', Bool.not_eq_false', Bool.and_eq_true, Bool.or_eq_true, Bool.and_eq_false_iff, Bool.or_eq_false_iff, Int.not_lt, Int.not_le, gt_iff_lt, ge_iff_le, ne_eq, Decidable.not_not, beq_iff_eq] at hc)
              have hc0 := hc; clear hc
              refine cw_skip ?_
              refine hK2 _ _ ?_
              refine cw_seq fun K10 hK10 => ?_
              have hc := Calm.new (n := n + 6) (by omega) (by omega)
              have hw : WfL ⟨3, n, head, head, 1⟩ := wfL (by omega)
              have hI := LogI.new (n := n + 6) hw (by omega)
              refine cw_region ?_
              refine wl_op rfl rfl (ow_vr (vr_move (v := .int .i64 _) rfl) ?_)
              first | (refine wl_op rfl rfl (ow_vr (vr_addi rfl rfl (by unfold inI64; omega)) ?_)) | (refine wl_op rfl rfl (ow_vr (vr_add rfl rfl) ?_))
              refine wl_op rfl rfl (ow_fn (vs := [.int .i64 _]) en_5 rfl hS (disk_New' (n := n + 6) (by omega) (by omega)) ?_)
              clear hS; rintro v53 _ w ⟨p, Δ0, rfl, rfl, hd0⟩ hS; (try simp only [List.cons_append, List.nil_append] at hS)
              refine wl_op rfl rfl (ow_vr (vr_assign (v := .pointer _) rfl) ?_)
              refine wl_nil ?_
              refine hK10 _ _ ?_
              refine cw_seq fun K11 hK11 => ?_
              refine cw_region ?_
              refine wl_op rfl rfl (ow_vr (vr_assign (v := .int .i64 1) rfl) ?_)
              refine wl_nil ?_
              refine hK11 _ _ ?_
              refine cw_seq fun K12 hK12 => ?_
              refine cw_region ?_
              refine wl_op rfl rfl (ow_vr (vr_move (v := .pointer _) rfl) ?_)
              refine wl_op rfl rfl (ow_vr (vr_move (v := .int .i64 _) rfl) ?_)
              refine wl_op rfl rfl (ow_vr (vr_move (v := .int .i64 _) rfl) ?_)
              refine wl_op rfl rfl (ow_vr (vr_move (v := .int .i64 _) rfl) ?_)
              refine wl_op rfl rfl (ow_vr (vr_move (v := .int .i64 _) rfl) ?_)
              refine wl_op rfl rfl (ow_fn (vs := [.pointer _, .int .i64 _, .int .i64 _, .int .i64 _, .int .i64 _, .int .i64 _]) en_6 rfl hS (loop_NewT hd0 hc.wf ⟨3, n, head, head, 1⟩ (by simp [mayL, newD]; omega)) ?_)
              clear hS; rintro v59 _ w ⟨q0, rfl, rfl⟩ hS; (try simp only [List.cons_append, List.nil_append] at hS)
              refine wl_op rfl rfl (ow_vr (vr_assign (v := .pointer _) rfl) ?_)
              refine wl_nil ?_
              refine hK12 _ _ ?_
              refine cw_seq fun K13 hK13 => ?_
              refine cw_seq fun K14 hK14 => ?_
              refine cw_region ?_
              refine wl_op rfl rfl (ow_vr (vr_move (v := .pointer _) rfl) ?_)
              refine wl_op rfl rfl (ow_vr (vr_eqnil Tryz.underlying26 rfl) ?_)
              refine wl_nil ?_
              refine hK14 _ _ ?_
              refine cw_cond_f rfl rfl (rfl) ?_
              refine cw_skip ?_
              refine hK13 _ _ ?_
              refine cw_seq fun K15 hK15 => ?_
              refine cw_region ?_
              refine wl_op rfl rfl (ow_vr (vr_move (v := .int .i64 _) rfl) ?_)
              refine wl_op rfl rfl (ow_vr (vr_assign (v := .int .i64 _) rfl) ?_)
              refine wl_nil ?_
              refine hK15 _ _ ?_
              refine cw_seq fun K16 hK16 => ?_
              refine cw_region ?_
              refine wl_op rfl rfl (ow_vr (vr_assign (v := .slice none 0 0) rfl) ?_)
              refine wl_nil ?_
              refine hK16 _ _ ?_
              refine cw_seq fun K17 hK17 => ?_
              refine cw_region ?_
              refine wl_op rfl rfl (ow_vr (vr_build (vs := []) (cs := [.slice _ _ _, .slice _ _ _, .slice _ _ _, .slice _ _ _, .slice _ _ _, .slice _ _ _, .slice _ _ _, .slice _ _ _, .slice _ _ _, .slice _ _ _, .slice _ _ _, .slice _ _ _]) zr_37 pl_37 rfl rfl) ?_)
              refine wl_op rfl rfl (ow_box (cs := [_, _, _, _, _, _, _, _, _, _, _, _]) hS rfl rfl ?_)
              clear hS; intro b64 w hS
              refine wl_op rfl rfl (ow_vr (vr_assign (v := .pointer _) rfl) ?_)
              refine wl_nil ?_
              refine hK17 _ _ ?_
              refine cw_seq fun K18 hK18 => ?_
              refine cw_seq fun K19 hK19 => ?_
              refine cw_region ?_
              refine wl_op rfl rfl (ow_vr (vr_as (v' := .int .i64 ((0 : Nat) : Int)) (vr_assign rfl) rfl) ?_)
              refine wl_nil ?_
              replace hS := (Sat.nilc.2 (Sat.nilc.2 hS)).perm (show List.Perm _ (loopC q0 p ⟨3, n, head, head, 1⟩ :: Δ0 :: [] :: bookC b64 (.slice none 0 0) (.slice none 0 0) (.slice none 0 0) (.slice none 0 0) (.slice none 0 0) (.slice none 0 0) (.slice none 0 0) (.slice none 0 0) :: [] :: F).flatten from (by classical exact List.perm_iff_count.2 fun x => by simp only [List.cons_append, List.nil_append, List.flatten_cons, List.flatten_nil, List.flatten_append, List.count_append, List.append_nil, List.count_cons, List.count_nil] <;> omega))
              refine hK19 _ _ ?_
              refine cw_block ?_
              refine cw_loop (fun m f w => ∃ (k : Nat) (q : Nat) (h : Int) (nx : Int) (ep : Int) (d : Dsk) (Δd : Chunk) (es : List Entr) (all : List (Int × Int)) (va : Value) (Da : Chunk) (vb : Value) (vw : Value) (xss : List (List (Int × Int))) (I : Chunk) (K : Chunk) (g : Nat → Value), f = (upd (upd (upd (upd (upd (upd (upd (upd (upd (upd g 0 (.int .i64 n)) 1 (.int .i64 h)) 2 (v)) 7 (ptr p)) 8 (.int .i64 ep)) 9 (ptr q)) 10 (.int .i64 nx)) 11 (va)) 12 (ptr b64)) 13 (.int .i64 (k : Int))) ∧ (k ≤ l.length ∧ DiskAt p d Δd ∧ LogI d ⟨3, n, h, nx, ep⟩ es all ∧ WfD d ∧ d.n = n + 6 ∧ 1 ≤ ep ∧ ep < 1000000000 ∧ nx ≤ 1000 + 41 * (k : Int) ∧ Own 55 2 encC va all Da ∧ all.length ≤ 40 * k ∧ Kept 55 28 2 encC vb vw xss I K) ∧ m = l.length - k ∧ Sat E (loopC q p ⟨3, n, h, nx, ep⟩ :: Δd :: Da :: bookC b64 (.slice none 0 0) (.slice none 0 0) (.slice none 0 0) (.slice none 0 0) vb vw (.slice none 0 0) (.slice none 0 0) :: K :: F) w) ⟨0, q0, head, head, 1, newD (n + 6), Δ0, [], [], .slice none 0 0, [], .slice none 0 0, .slice none 0 0, [], [], [], _, (reb (reb (reb (reb (reb (reb (reb (reb (reb (reb rfl rfl) rfl) rfl) rfl) rfl) rfl) rfl) rfl) rfl) rfl), ?_, rfl, hS⟩ ?_
              · exact ⟨by omega, hd0, hI, hc.wf, rfl, by omega, by omega, by omega, Own.nil, by simp, Kept.none⟩
              clear hS; rintro m f w ⟨k, q, h, nx, ep, d, Δd, es, all, va, Da, vb, vw, xss, I, K, g, rfl, hI0, rfl, hS⟩
              obtain ⟨hk, hd, hI, hwd, hdn, hep, hep2, hnx, hoa, hal, hkp⟩ := hI0
              have hh0 : 0 ≤ h := hI.wf.h0
              have hh1 : h ≤ nx := hI.wf.h1
              have hh2 : nx - h ≤ n := hI.wf.h2
              refine cw_seq fun K20 hK20 => ?_
              refine cw_seq fun K21 hK21 => ?_
              refine cw_region ?_
              refine wl_op rfl rfl (ow_vr (vr_move (v := .int .i64 (k : Int)) rfl) ?_)
              refine wl_op rfl rfl (ow_vr (vr_move (v := v) rfl) ?_)
              refine wl_op rfl rfl (ow_vr (vr_len_v (v := v) Tryz.underlying22 rfl hv) ?_)
              refine wl_op rfl rfl (ow_vr (vr_lss rfl rfl) ?_)
              refine wl_nil ?_
              refine hK21 _ _ ?_
              refine cw_cond rfl rfl (fun hc => ?_) (fun hc => ?_)
              · (try simp only [decide_eq_true_eq, decide_eq_false_iff_not, Bool.not_eq_true, Bool.not_eq_false, Bool.not_eq_true', Bool.not_eq_false', Bool.and_eq_true, Bool.or_eq_true, Bool.and_eq_false_iff, Bool.or_eq_false_iff, Int.not_lt, Int.not_le, gt_iff_lt, ge_iff_le, ne_eq, Decidable.not_not, beq_iff_eq] at hc)
                have hc2 := hc; clear hc
                refine cw_skip ?_
                refine hK20 _ _ ?_
                refine cw_seq fun K22 hK22 => ?_
                refine cw_block ?_
                refine cw_seq fun K23 hK23 => ?_
                obtain ⟨⟨kd, en, ee, vL, cs, vK, ks⟩, hx⟩ := get_lt (xs := l) (k := k) (by omega)
                obtain ⟨hvL, hvK, hnL, hnK⟩ := hvs _ (List.mem_of_getElem? hx)
                simp only at hvL hvK hnL hnK
                obtain ⟨aL, cL, rfl⟩ := hvL.len
                obtain ⟨aK, cK, rfl⟩ := hvK.len
                refine cw_region ?_
                refine wl_op rfl rfl (ow_vr (vr_move (v := v) rfl) ?_)
                refine wl_op rfl rfl (ow_vr (vr_move (v := .int .i64 (k : Int)) rfl) ?_)
                first | (refine wl_op rfl rfl (ow_vr (vr_indexAddr Tryz.underlying22 sz_40 rfl rfl (by omega) (by omega)) ?_)) | (refine wl_op rfl rfl (ow_vr (vr_indexV (v := v) Tryz.underlying22 sz_40 rfl (by first | assumption | (refine Own.view ?_ (by assumption); exact fun _ => rfl) | exact OwnB.view (by assumption)) rfl (by omega) (by first | omega | (simp <;> omega))) ?_))
                refine wl_op rfl rfl (ow_lr (S := Sat _ _) (lr_loadVA (cs := [.int .i64 _, .int .i64 _, .int .i64 _, .slice _ _ _, .slice _ _ _]) Tryz.underlying40 rfl sz_40 rfl hv (by repeat (first | exact List.mem_cons_self | assumption | refine List.mem_cons_of_mem _ ?_)) (hx) (by exact fun _ => rfl) (by rfl)) hS ?_)
                refine wl_op rfl rfl (ow_alloc (cs := [_, _, _, _, _]) hS zr_40 rfl ?_)
                clear hS; intro b14 w hS
                refine wl_op rfl rfl (ow_storeA (vs := [.int .i64 _, .int .i64 _, .int .i64 _, .slice _ _ _, .slice _ _ _]) hS sz_40 rfl rfl rfl (by first | rfl | (simp only [List.all_cons, List.all_nil, Bool.and_true, Bool.and_eq_true]; repeat (first | refine ⟨by first | rfl | assumption, ?_⟩ | rfl | assumption))) (by first | exact Has.here | exact Has.there (Has.here) | exact Has.there (Has.there (Has.here)) | exact Has.there (Has.there (Has.there (Has.here))) | exact Has.there (Has.there (Has.there (Has.there (Has.here)))) | exact Has.there (Has.there (Has.there (Has.there (Has.there (Has.here))))) | exact Has.there (Has.there (Has.there (Has.there (Has.there (Has.there (Has.here)))))) | exact Has.there (Has.there (Has.there (Has.there (Has.there (Has.there (Has.there (Has.here)))))))) (by simp) ?_)
                clear hS; intro w hS; try simp only [putAt, List.set_cons_zero, List.set_cons_succ] at hS
                refine wl_nil ?_
                refine hK23 _ _ ?_
                refine cw_seq fun K24 hK24 => ?_
                refine cw_seq fun K25 hK25 => ?_
                refine cw_region ?_
                first | (refine wl_op rfl rfl (ow_vr (vr_fieldAddr fo_40_3 rfl) ?_)) | (refine wl_op rfl rfl (ow_vr (vr_fieldAddrV fo_40_3 rfl (by first | assumption | (refine Own.view ?_ (by assumption); exact fun _ => rfl) | exact OwnB.view (by assumption)) (by first | omega | (simp <;> omega))) ?_))
                refine wl_op rfl rfl (ow_lr (S := Sat _ _) (lr_load1 Tryz.underlying28 rfl rfl (by first | exact Has.here | exact Has.there (Has.here) | exact Has.there (Has.there (Has.here)) | exact Has.there (Has.there (Has.there (Has.here))) | exact Has.there (Has.there (Has.there (Has.there (Has.here)))) | exact Has.there (Has.there (Has.there (Has.there (Has.there (Has.here))))) | exact Has.there (Has.there (Has.there (Has.there (Has.there (Has.there (Has.here)))))) | exact Has.there (Has.there (Has.there (Has.there (Has.there (Has.there (Has.there (Has.here)))))))) rfl) hS ?_)
                first | (refine wl_op rfl rfl (ow_vr (vr_len_sl Tryz.underlying28 rfl) ?_)) | (refine wl_op rfl rfl (ow_vr (vr_len_v Tryz.underlying28 rfl (by first | assumption | (refine Own.view ?_ (by assumption); exact fun _ => rfl) | exact OwnB.view (by assumption))) ?_))
                refine wl_op rfl rfl (ow_vr (vr_gtr rfl rfl) ?_)
                refine wl_op rfl rfl (ow_vr (vr_move (v := .bool _) rfl) ?_)
                refine wl_split 79 rfl (fun hc => ?_) (fun hc => ?_)
                · (try simp only [decide_eq_true_eq, decide_eq_false_iff_not, Bool.not_eq_true, Bool.not_eq_false, Bool.not_eq_true', Bool.not_eq_false', Bool.and_eq_true, Bool.or_eq_true, Bool.and_eq_false_iff, Bool.or_eq_false_iff, Int.not_lt, Int.not_le, gt_iff_lt, ge_iff_le, ne_eq, Decidable.not_not, beq_iff_eq] at hc)
                  have hg79 := hc; clear hc
                  refine wl_noD rfl rfl rfl rfl rfl rfl ?_
                  refine wl_noD rfl rfl rfl rfl rfl rfl ?_
                  refine wl_noD rfl rfl rfl rfl rfl rfl ?_
                  refine wl_noD rfl rfl rfl rfl rfl rfl ?_
                  refine wl_op rfl rfl (ow_vr (vr_pick (b := true) (v := .bool _) rfl rfl) ?_)
                  refine wl_nil ?_
                  refine hK25 _ _ ?_
                  refine cw_cond_t rfl rfl (rfl) ?_
                  refine cw_seq fun K26 hK26 => ?_
                  refine cw_region ?_
                  refine wl_op rfl rfl (ow_vr (vr_assign (v := .bool true) rfl) ?_)
                  refine wl_nil ?_
                  refine hK26 _ _ ?_
                  refine cw_ret ?_
                  refine thenF_ret (inB_ret (thenF_ret (thenF_ret (inB_ret (thenF_ret (?_))))))
                  refine ret_one (fn := Tryz.f3) (n := 331) (t := 6) (.inl rfl) rfl rfl ?_
                  exact ⟨[], ⟨rfl, rfl⟩, hS.tail1.tail1.tail1.tail1.tail1.tail1⟩
                · (try simp only [decide_eq_true_eq, decide_eq_false_iff_not, Bool.not_eq_true, Bool.not_eq_false, Bool.not_eq_true', Bool.not_eq_false', Bool.and_eq_true, Bool.or_eq_true, Bool.and_eq_false_iff, Bool.or_eq_false_iff, Int.not_lt, Int.not_le, gt_iff_lt, ge_iff_le, ne_eq, Decidable.not_not, beq_iff_eq] at hc)
                  have hg79 := hc; clear hc
                  first | (refine wl_yes rfl rfl rfl rfl rfl (ow_vr (vr_fieldAddr fo_40_4 rfl) ?_)) | (refine wl_yes rfl rfl rfl rfl rfl (ow_vr (vr_fieldAddrV fo_40_4 rfl (by first | assumption | (refine Own.view ?_ (by assumption); exact fun _ => rfl) | exact OwnB.view (by assumption)) (by first | omega | (simp <;> omega))) ?_))
                  refine wl_yes rfl rfl rfl rfl rfl (ow_lr (S := Sat _ _) (lr_load1 Tryz.underlying38 rfl rfl (by first | exact Has.here | exact Has.there (Has.here) | exact Has.there (Has.there (Has.here)) | exact Has.there (Has.there (Has.there (Has.here))) | exact Has.there (Has.there (Has.there (Has.there (Has.here)))) | exact Has.there (Has.there (Has.there (Has.there (Has.there (Has.here))))) | exact Has.there (Has.there (Has.there (Has.there (Has.there (Has.there (Has.here)))))) | exact Has.there (Has.there (Has.there (Has.there (Has.there (Has.there (Has.there (Has.here)))))))) rfl) hS ?_)
                  first | (refine wl_yes rfl rfl rfl rfl rfl (ow_vr (vr_len_sl Tryz.underlying38 rfl) ?_)) | (refine wl_yes rfl rfl rfl rfl rfl (ow_vr (vr_len_v Tryz.underlying38 rfl (by first | assumption | (refine Own.view ?_ (by assumption); exact fun _ => rfl) | exact OwnB.view (by assumption))) ?_))
                  refine wl_yes rfl rfl rfl rfl rfl (ow_vr (vr_gtr rfl rfl) ?_)
                  refine wl_op rfl rfl (ow_vr (vr_pick (b := false) (v := .bool _) rfl rfl) ?_)
                  refine wl_nil ?_
                  refine hK25 _ _ ?_
                  refine cw_cond rfl rfl (fun hc => ?_) (fun hc => ?_)
                  · (try simp only [decide_eq_true_eq, decide_eq_false_iff_not, Bool.not_eq_true, Bool.not_eq_false, Bool.not_eq_true', Bool.not_eq_false', Bool.and_eq_true, Bool.or_eq_true, Bool.and_eq_false_iff, Bool.or_eq_false_iff, Int.not_lt, Int.not_le, gt_iff_lt, ge_iff_le, ne_eq, Decidable.not_not, beq_iff_eq] at hc)
                    have hc3 := hc; clear hc
                    refine cw_seq fun K27 hK27 => ?_
                    refine cw_region ?_
                    refine wl_op rfl rfl (ow_vr (vr_assign (v := .bool true) rfl) ?_)
                    refine wl_nil ?_
                    refine hK27 _ _ ?_
                    refine cw_ret ?_
                    refine thenF_ret (inB_ret (thenF_ret (thenF_ret (inB_ret (thenF_ret (?_))))))
                    refine ret_one (fn := Tryz.f3) (n := 331) (t := 6) (.inl rfl) rfl rfl ?_
                    exact ⟨[], ⟨rfl, rfl⟩, hS.tail1.tail1.tail1.tail1.tail1.tail1⟩
                  · (try simp only [decide_eq_true_eq, decide_eq_false_iff_not, Bool.not_eq_true, Bool.not_eq_false, Bool.not_eq_true', Bool.not_eq_false', Bool.and_eq_true, Bool.or_eq_true, Bool.and_eq_false_iff, Bool.or_eq_false_iff, Int.not_lt, Int.not_le, gt_iff_lt, ge_iff_le, ne_eq, Decidable.not_not, beq_iff_eq] at hc)
                    have hc3 := hc; clear hc
                    refine cw_skip ?_
                    refine hK24 _ _ ?_
                    refine cw_seq fun K28 hK28 => ?_
                    have hJK28 : ∀ f w, (∃ (q2 : Nat) (h2 : Int) (nx2 : Int) (ep2 : Int) (L2 : Lp) (d2 : Dsk) (Δ2 : Chunk) (all2 : List (Int × Int)) (va2 : Value) (Da2 : Chunk) (vb2 : Value) (vw2 : Value) (xss2 : List (List (Int × Int))) (I2 : Chunk) (K2 : Chunk) (g : Nat → Value), f = (upd (upd (upd (upd (upd (upd (upd (upd (upd (upd g 0 (.int .i64 n)) 1 (.int .i64 h2)) 2 (v)) 7 (ptr p)) 8 (.int .i64 ep2)) 9 (ptr q2)) 10 (.int .i64 nx2)) 11 (va2)) 12 (ptr b64)) 13 (.int .i64 (k : Int))) ∧ (L2 = ⟨3, n, h2, nx2, ep2⟩ ∧ DiskAt p d2 Δ2 ∧ (∃ es2, LogI d2 ⟨3, n, h2, nx2, ep2⟩ es2 all2) ∧ WfD d2 ∧ d2.n = n + 6 ∧ 1 ≤ ep2 ∧ ep2 < 1000000000 ∧ nx2 ≤ 1000 + 41 * ((k : Int) + 1) ∧ Own 55 2 encC va2 all2 Da2 ∧ all2.length ≤ 40 * (k + 1) ∧ Kept 55 28 2 encC vb2 vw2 xss2 I2 K2) ∧ Sat E ([(b14, .cells [.int .i64 kd, .int .i64 en, .int .i64 ee, .slice aL cs.length cL, .slice aK ks.length cK].toArray 40 (0, 0))] :: loopC q2 p L2 :: Δ2 :: Da2 :: bookC b64 (.slice none 0 0) (.slice none 0 0) (.slice none 0 0) (.slice none 0 0) vb2 vw2 (.slice none 0 0) (.slice none 0 0) :: K2 :: F) w) → K28 f w := by
                      clear hS; rintro f w ⟨q2, h2, nx2, ep2, L2, d2, Δ2, all2, va2, Da2, vb2, vw2, xss2, I2, K2, g, rfl, hj70, hS⟩
                      obtain ⟨rfl, hd2, ⟨es2, hI2⟩, hwd2, hdn2, hep3, hep4, hnx2, hoa2, hal2, hkp2⟩ := hj70
                      replace hS := hS.tail1
                      refine hK28 _ _ ?_
                      refine cw_seq fun K29 hK29 => ?_
                      refine cw_region ?_
                      refine wl_op rfl rfl (ow_vr (vr_move (v := (ptr q2)) rfl) ?_)
                      refine wl_op rfl rfl (ow_vr (vr_eqnil Tryz.underlying26 rfl) ?_)
                      refine wl_op rfl rfl (ow_vr (vr_move (v := .bool _) rfl) ?_)
                      refine wl_known 286 rfl (c := false) (rfl) ?_
                      refine wl_yes rfl rfl rfl rfl rfl (ow_vr (vr_move (v := (ptr q2)) rfl) ?_)
                      refine wl_yes rfl rfl rfl rfl rfl (ow_fn (vs := [(ptr q2)]) en_19 rfl hS (loop_Head q2 p _) ?_)
                      clear hS; rintro v288 _ w ⟨rfl, rfl⟩ hS; (try simp only [List.cons_append, List.nil_append] at hS)
                      refine wl_yes rfl rfl rfl rfl rfl (ow_vr (vr_move (v := .int .i64 h2) rfl) ?_)
                      refine wl_yes rfl rfl rfl rfl rfl (ow_vr (vr_neq rfl rfl) ?_)
                      refine wl_op rfl rfl (ow_vr (vr_pick (b := false) (v := .bool _) rfl rfl) ?_)
                      refine wl_op rfl rfl (ow_vr (vr_move (v := .bool _) rfl) ?_)
                      refine wl_known 292 rfl (c := false) (by simp) ?_
                      refine wl_yes rfl rfl rfl rfl rfl (ow_vr (vr_move (v := (ptr q2)) rfl) ?_)
                      refine wl_yes rfl rfl rfl rfl rfl (ow_fn (vs := [(ptr q2)]) en_20 rfl hS (loop_Next q2 p _) ?_)
                      clear hS; rintro v294 _ w ⟨rfl, rfl⟩ hS; (try simp only [List.cons_append, List.nil_append] at hS)
                      refine wl_yes rfl rfl rfl rfl rfl (ow_vr (vr_move (v := .int .i64 nx2) rfl) ?_)
                      refine wl_yes rfl rfl rfl rfl rfl (ow_vr (vr_neq rfl rfl) ?_)
                      refine wl_op rfl rfl (ow_vr (vr_pick (b := false) (v := .bool _) rfl rfl) ?_)
                      refine wl_op rfl rfl (ow_vr (vr_move (v := .bool _) rfl) ?_)
                      refine wl_known 298 rfl (c := false) (by simp) ?_
                      refine wl_yes rfl rfl rfl rfl rfl (ow_vr (vr_move (v := (ptr q2)) rfl) ?_)
                      refine wl_yes rfl rfl rfl rfl rfl (ow_fn (vs := [(ptr q2)]) en_21 rfl hS (loop_Room q2 p _ hI2.wf) ?_)
                      clear hS; rintro v300 _ w ⟨rfl, rfl⟩ hS; (try simp only [List.cons_append, List.nil_append] at hS)
                      refine wl_yes rfl rfl rfl rfl rfl (ow_vr (vr_move (v := .int .i64 n) rfl) ?_)
                      refine wl_yes rfl rfl rfl rfl rfl (ow_vr (vr_move (v := .int .i64 nx2) rfl) ?_)
                      refine wl_yes rfl rfl rfl rfl rfl (ow_vr (vr_move (v := .int .i64 h2) rfl) ?_)
                      refine wl_yes rfl rfl rfl rfl rfl (ow_vr (vr_subi rfl rfl (by have : h2 ≤ nx2 := hI2.wf.h1; have : 0 ≤ h2 := hI2.wf.h0; unfold inI64; omega)) ?_)
                      refine wl_yes rfl rfl rfl rfl rfl (ow_vr (vr_subi rfl rfl (by have : h2 ≤ nx2 := hI2.wf.h1; have : 0 ≤ h2 := hI2.wf.h0; unfold inI64; omega)) ?_)
                      refine wl_yes rfl rfl rfl rfl rfl (ow_vr (vr_neq rfl rfl) ?_)
                      refine wl_op rfl rfl (ow_vr (vr_pick (b := false) (v := .bool _) rfl rfl) ?_)
                      refine wl_nil ?_
                      refine hK29 _ _ ?_
                      refine cw_cond_f rfl rfl (by simp) ?_
                      refine cw_skip ?_
                      refine hK22 _ _ ?_
                      refine cw_region ?_
                      refine wl_op rfl rfl (ow_vr (vr_move (v := .int .i64 (k : Int)) rfl) ?_)
                      refine wl_op rfl rfl (ow_vr (vr_as (v' := .int .i64 ((k + 1 : Nat) : Int)) (vr_addi rfl rfl (by unfold inI64; omega)) (congrArg (Value.int .i64) (by omega))) ?_)
                      refine wl_op rfl rfl (ow_vr (vr_assign (v := .int .i64 _) rfl) ?_)
                      refine wl_nil ?_
                      refine thenF_normal ⟨_, ?_, k + 1, q2, h2, nx2, ep2, d2, Δ2, es2, all2, va2, Da2, vb2, vw2, xss2, I2, K2, _, (reb (reb (reb (reb (reb (reb (reb (reb (reb (reb rfl rfl) rfl) rfl) rfl) rfl) rfl) rfl) rfl) rfl) rfl), ?_, rfl, hS⟩
                      · omega
                      · exact ⟨by omega, hd2, hI2, hwd2, hdn2, hep3, hep4, by omega, hoa2, hal2, hkp2⟩
                    refine cw_seq fun K30 hK30 => ?_
                    have hcl : cs.length ≤ 40 := by omega
                    have hkl : ks.length ≤ 60 := by omega
                    have hL0 : one (.slice aL cs.length cL) = true := rfl
                    refine cw_region ?_
                    first | (refine wl_op rfl rfl (ow_vr (vr_fieldAddr fo_40_0 rfl) ?_)) | (refine wl_op rfl rfl (ow_vr (vr_fieldAddrV fo_40_0 rfl (by first | assumption | (refine Own.view ?_ (by assumption); exact fun _ => rfl) | exact OwnB.view (by assumption)) (by first | omega | (simp <;> omega))) ?_))
                    refine wl_op rfl rfl (ow_lr (S := Sat _ _) (lr_load1 Tryz.underlying3 rfl rfl (by first | exact Has.here | exact Has.there (Has.here) | exact Has.there (Has.there (Has.here)) | exact Has.there (Has.there (Has.there (Has.here))) | exact Has.there (Has.there (Has.there (Has.there (Has.here)))) | exact Has.there (Has.there (Has.there (Has.there (Has.there (Has.here))))) | exact Has.there (Has.there (Has.there (Has.there (Has.there (Has.there (Has.here)))))) | exact Has.there (Has.there (Has.there (Has.there (Has.there (Has.there (Has.there (Has.here)))))))) rfl) hS ?_)
                    refine wl_nil ?_
                    refine hK30 _ _ ?_
                    refine cw_block ?_
                    refine cw_seq fun K31 hK31 => ?_
                    refine cw_region ?_
                    refine wl_op rfl rfl (ow_vr (vr_eql rfl rfl) ?_)
                    refine wl_op rfl rfl (ow_vr (vr_assign (v := .bool _) rfl) ?_)
                    refine wl_nil ?_
                    refine hK31 _ _ ?_
                    refine cw_cond rfl rfl (fun hc => ?_) (fun hc => ?_)
                    · (try simp only [decide_eq_true_eq, decide_eq_false_iff_not, Bool.not_eq_true, Bool.not_eq_false, Bool.not_eq_true', Bool.not_eq_false', Bool.and_eq_true, Bool.or_eq_true, Bool.and_eq_false_iff, Bool.or_eq_false_iff, Int.not_lt, Int.not_le, gt_iff_lt, ge_iff_le, ne_eq, Decidable.not_not, beq_iff_eq] at hc)
                      have hk1 := hc; clear hc
                      refine cw_seq fun K32 hK32 => ?_
                      refine cw_region ?_
                      first | (refine wl_op rfl rfl (ow_vr (vr_fieldAddr fo_40_3 rfl) ?_)) | (refine wl_op rfl rfl (ow_vr (vr_fieldAddrV fo_40_3 rfl (by first | assumption | (refine Own.view ?_ (by assumption); exact fun _ => rfl) | exact OwnB.view (by assumption)) (by first | omega | (simp <;> omega))) ?_))
                      refine wl_op rfl rfl (ow_lr (S := Sat _ _) (lr_load1 Tryz.underlying28 rfl rfl (by first | exact Has.here | exact Has.there (Has.here) | exact Has.there (Has.there (Has.here)) | exact Has.there (Has.there (Has.there (Has.here))) | exact Has.there (Has.there (Has.there (Has.there (Has.here)))) | exact Has.there (Has.there (Has.there (Has.there (Has.there (Has.here))))) | exact Has.there (Has.there (Has.there (Has.there (Has.there (Has.there (Has.here)))))) | exact Has.there (Has.there (Has.there (Has.there (Has.there (Has.there (Has.there (Has.here)))))))) rfl) hS ?_)
                      refine wl_op rfl rfl (ow_fng (vs := [.slice _ _ _]) en_7 rfl hS (book_LentChanges cs (.slice aL cs.length cL) Δ hvL (by omega)) (by repeat (first | exact needs0 | (refine needsC ?_ ?_; · (repeat (first | exact List.mem_cons_self | assumption | refine List.mem_cons_of_mem _ ?_))))) ?_)
                      clear hS; rintro v91 _ w ⟨D91, rfl, hlc⟩ hS; (try simp only [List.cons_append, List.nil_append] at hS)
                      refine wl_op rfl rfl (ow_vr (vr_assign (v := v91) rfl) ?_)
                      refine wl_nil ?_
                      refine hK32 _ _ ?_
                      refine cw_seq fun K33 hK33 => ?_
                      have hvc := hlc.view (by exact fun _ => rfl)
                      have hcase := append_case hI hwd cs (by simp only; omega) (by simp only; omega) (by simp only; omega)
                      have hL := loop_Append hd hwd q ⟨3, n, h, nx, ep⟩ hI.wf cs v91 D91 G hvc hG (by omega)
                      obtain ⟨X, hX⟩ : ∃ X, appendL d ⟨3, n, h, nx, ep⟩ cs = X := ⟨_, rfl⟩
                      rw [hX] at hL
                      simp only [hX] at hcase
                      replace hS := hS.lp1
                      refine cw_region ?_
                      refine wl_op rfl rfl (ow_vr (vr_move (v := (ptr q)) rfl) ?_)
                      refine wl_op rfl rfl (ow_vr (vr_move (v := v91) rfl) ?_)
                      refine wl_op rfl rfl (ow_fnm (vs := [(ptr q), v91]) en_8 rfl hS (hL) (by repeat (first | exact needs0 | (refine needsC ?_ ?_; · (repeat (first | exact List.mem_cons_self | assumption | refine List.mem_cons_of_mem _ ?_))))) ?_)
                      clear hS; rintro v94 _ w ⟨rfl, Δ1, rfl, hd1⟩ hS; (try simp only [List.cons_append, List.nil_append] at hS)
                      refine wl_op rfl rfl (ow_vr (vr_assign (v := .int .i64 _) rfl) ?_)
                      refine wl_nil ?_
                      refine hK33 _ _ ?_
                      refine cw_seq fun K34 hK34 => ?_
                      refine cw_region ?_
                      refine wl_op rfl rfl (ow_vr (vr_assign (v := .int .i64 0) rfl) ?_)
                      refine wl_nil ?_
                      refine hK34 _ _ ?_
                      refine cw_seq fun K35 hK35 => ?_
                      have hJK35 : ∀ f w, (∃ (wn : Int) (g : Nat → Value), f = (upd (upd (upd (upd (upd (upd (upd (upd (upd (upd (upd (upd (upd (upd g 0 (.int .i64 n)) 1 (.int .i64 h)) 2 (v)) 7 (ptr p)) 8 (.int .i64 ep)) 9 (ptr q)) 10 (.int .i64 nx)) 11 (va)) 12 (ptr b64)) 13 (.int .i64 (k : Int))) 14 (ptr b14)) 15 (v91)) 16 (.int .i64 X.1)) 17 (.int .i64 wn)) ∧ (wn = X.1) ∧ Sat E (loopC q p X.2.2 :: Δ1 :: D91 :: [(b14, .cells [.int .i64 kd, .int .i64 en, .int .i64 ee, .slice aL cs.length cL, .slice aK ks.length cK].toArray 40 (0, 0))] :: Da :: bookC b64 (.slice none 0 0) (.slice none 0 0) (.slice none 0 0) (.slice none 0 0) vb vw (.slice none 0 0) (.slice none 0 0) :: K :: F) w) → K35 f w := by
                        clear hS; rintro f w ⟨wn, g, rfl, hj28, hS⟩
                        refine hK35 _ _ ?_
                        refine cw_seq fun K36 hK36 => ?_
                        refine cw_seq fun K37 hK37 => ?_
                        refine cw_region ?_
                        refine wl_op rfl rfl (ow_vr (vr_move (v := .int .i64 X.1) rfl) ?_)
                        refine wl_op rfl rfl (ow_vr (vr_move (v := .int .i64 wn) rfl) ?_)
                        refine wl_op rfl rfl (ow_vr (vr_neq rfl rfl) ?_)
                        refine wl_op rfl rfl (ow_vr (vr_move (v := .bool _) rfl) ?_)
                        refine wl_known 118 rfl (c := false) (by simp [hj28]) ?_
                        refine wl_yes rfl rfl rfl rfl rfl (ow_vr (vr_move (v := v91) rfl) ?_)
                        first | (refine wl_yes rfl rfl rfl rfl rfl (ow_vr (vr_fieldAddr fo_40_3 rfl) ?_)) | (refine wl_yes rfl rfl rfl rfl rfl (ow_vr (vr_fieldAddrV fo_40_3 rfl (by first | assumption | (refine Own.view ?_ (by assumption); exact fun _ => rfl) | exact OwnB.view (by assumption)) (by first | omega | (simp <;> omega))) ?_))
                        refine wl_yes rfl rfl rfl rfl rfl (ow_lr (S := Sat _ _) (lr_load1 Tryz.underlying28 rfl rfl (by first | exact Has.here | exact Has.there (Has.here) | exact Has.there (Has.there (Has.here)) | exact Has.there (Has.there (Has.there (Has.here))) | exact Has.there (Has.there (Has.there (Has.there (Has.here)))) | exact Has.there (Has.there (Has.there (Has.there (Has.there (Has.here))))) | exact Has.there (Has.there (Has.there (Has.there (Has.there (Has.there (Has.here)))))) | exact Has.there (Has.there (Has.there (Has.there (Has.there (Has.there (Has.there (Has.here)))))))) rfl) hS ?_)
                        refine wl_yes rfl rfl rfl rfl rfl (ow_fng (vs := [v91, .slice _ _ _]) en_11 rfl hS (book_StaysChanges cs cs v91 (.slice aL cs.length cL) D91 Δ hlc hvL (by omega) (by omega)) (by repeat (first | exact needs0 | (refine needsC ?_ ?_; · (repeat (first | exact List.mem_cons_self | assumption | refine List.mem_cons_of_mem _ ?_))))) ?_)
                        clear hS; rintro v122 _ w ⟨rfl, rfl⟩ hS; (try simp only [List.cons_append, List.nil_append] at hS)
                        refine wl_yes rfl rfl rfl rfl rfl (ow_vr (vr_not rfl) ?_)
                        refine wl_op rfl rfl (ow_vr (vr_pick (b := false) (v := .bool _) rfl rfl) ?_)
                        refine wl_nil ?_
                        refine hK37 _ _ ?_
                        refine cw_cond_f rfl rfl (by simp) ?_
                        refine cw_skip ?_
                        refine hK36 _ _ ?_
                        refine cw_seq fun K38 hK38 => ?_
                        have hJK38 : ∀ f w, (∃ (nx1 : Int) (all1 : List (Int × Int)) (va1 : Value) (Da1 : Chunk) (g : Nat → Value), f = (upd (upd (upd (upd (upd (upd (upd (upd (upd (upd (upd (upd g 0 (.int .i64 n)) 1 (.int .i64 h)) 2 (v)) 7 (ptr p)) 8 (.int .i64 ep)) 9 (ptr q)) 10 (.int .i64 nx1)) 11 (va1)) 12 (ptr b64)) 13 (.int .i64 (k : Int))) 14 (ptr b14)) 16 (.int .i64 X.1)) ∧ (Own 55 2 encC va1 all1 Da1 ∧ (X.1 = 0 → nx1 = nx + ((cs.length : Int) + 1) ∧ all1 = all ++ cs) ∧ (X.1 ≠ 0 → nx1 = nx ∧ all1 = all)) ∧ Sat E (loopC q p X.2.2 :: Δ1 :: D91 :: [(b14, .cells [.int .i64 kd, .int .i64 en, .int .i64 ee, .slice aL cs.length cL, .slice aK ks.length cK].toArray 40 (0, 0))] :: Da1 :: bookC b64 (.slice none 0 0) (.slice none 0 0) (.slice none 0 0) (.slice none 0 0) vb vw (.slice none 0 0) (.slice none 0 0) :: K :: F) w) → K38 f w := by
                          clear hS; rintro f w ⟨nx1, all1, va1, Da1, g, rfl, hj33, hS⟩
                          obtain ⟨hoa1, hz1, hz2⟩ := hj33
                          have hXL : X.2.2 = ⟨3, n, h, nx1, ep⟩ := by
                            rcases hcase with ⟨f1, f2⟩ | ⟨f1, f2, f3⟩ | ⟨f1, f2, f3, f4, ⟨f5, f6, f7, _⟩ | ⟨f5, f6, f7, _⟩⟩
                            · rw [(hz2 (by rw [f2]; simp)).1, f2]
                            · rw [(hz2 (by rw [f3]; simp)).1, f3]
                            · rw [(hz1 f5).1, f7]
                            · rw [(hz2 (by rw [f5]; simp)).1, f7]
                          have hnx1 : nx1 ≤ 1000 + 41 * ((k : Int) + 1) ∧ nx ≤ nx1 ∧ all1.length ≤ 40 * (k + 1) := by
                            by_cases hz : X.1 = 0
                            · rw [(hz1 hz).1, (hz1 hz).2]; simp; omega
                            · rw [(hz2 hz).1, (hz2 hz).2]; omega
                          have hfin : X.1 ≠ 3 → (∃ es2, LogI X.2.1 ⟨3, n, h, nx1, ep⟩ es2 all1) ∧ WfD X.2.1 ∧ X.2.1.n = n + 6 ∧ all1.length ≤ 40 * (k + 1) := fun h3 => by
                            rcases hcase with ⟨f1, f2⟩ | ⟨f1, f2, f3⟩ | ⟨f1, f2, f3, f4, ⟨f5, f6, f7, es', f8⟩ | ⟨f5, _⟩⟩
                            · rw [(hz2 (by rw [f2]; simp)).1, (hz2 (by rw [f2]; simp)).2, f2]; exact ⟨⟨es, hI⟩, hwd, hdn, by omega⟩
                            · rw [(hz2 (by rw [f3]; simp)).1, (hz2 (by rw [f3]; simp)).2, f3]; exact ⟨⟨es, hI⟩, hwd, hdn, by omega⟩
                            · refine ⟨⟨es', ?_⟩, f3, f4.trans hdn, hnx1.2.2⟩
                              rw [(hz1 f5).1, (hz1 f5).2]; exact f8
                            · exact absurd f5 h3
                          replace hS := hS.lp5
                          refine hK38 _ _ ?_
                          refine cw_seq fun K39 hK39 => ?_
                          have hJK39 : ∀ f w, (∃ (g : Nat → Value), f = (upd (upd (upd (upd (upd (upd (upd (upd (upd (upd (upd (upd g 0 (.int .i64 n)) 1 (.int .i64 h)) 2 (v)) 7 (ptr p)) 8 (.int .i64 ep)) 9 (ptr q)) 10 (.int .i64 nx1)) 11 (va1)) 12 (ptr b64)) 13 (.int .i64 (k : Int))) 14 (ptr b14)) 16 (.int .i64 X.1)) ∧ (X.1 = 3 → ep < 999999990) ∧ Sat E ([(b14, .cells [.int .i64 kd, .int .i64 en, .int .i64 ee, .slice aL cs.length cL, .slice aK ks.length cK].toArray 40 (0, 0))] :: loopC q p X.2.2 :: Δ1 :: Da1 :: bookC b64 (.slice none 0 0) (.slice none 0 0) (.slice none 0 0) (.slice none 0 0) vb vw (.slice none 0 0) (.slice none 0 0) :: K :: F) w) → K39 f w := by
                            clear hS; rintro f w ⟨g, rfl, hj35, hS⟩
                            refine hK39 _ _ ?_
                            refine cw_seq fun K40 hK40 => ?_
                            refine cw_region ?_
                            refine wl_op rfl rfl (ow_vr (vr_move (v := .int .i64 X.1) rfl) ?_)
                            refine wl_op rfl rfl (ow_vr (vr_eql rfl rfl) ?_)
                            refine wl_op rfl rfl (ow_vr (vr_move (v := .bool _) rfl) ?_)
                            refine wl_split 146 rfl (fun hc => ?_) (fun hc => ?_)
                            · (try simp only [decide_eq_true_eq, decide_eq_false_iff_not, Bool.not_eq_true, Bool.not_eq_false, Bool.not_eq_true', Bool.not_eq_false', Bool.and_eq_true, Bool.or_eq_true, Bool.and_eq_false_iff, Bool.or_eq_false_iff, Int.not_lt, Int.not_le, gt_iff_lt, ge_iff_le, ne_eq, Decidable.not_not, beq_iff_eq] at hc)
                              have h3b := hc; clear hc
                              first | (refine wl_yes rfl rfl rfl rfl rfl (ow_vr (vr_fieldAddr fo_40_3 rfl) ?_)) | (refine wl_yes rfl rfl rfl rfl rfl (ow_vr (vr_fieldAddrV fo_40_3 rfl (by first | assumption | (refine Own.view ?_ (by assumption); exact fun _ => rfl) | exact OwnB.view (by assumption)) (by first | omega | (simp <;> omega))) ?_))
                              refine wl_yes rfl rfl rfl rfl rfl (ow_lr (S := Sat _ _) (lr_load1 Tryz.underlying28 rfl rfl (by first | exact Has.here | exact Has.there (Has.here) | exact Has.there (Has.there (Has.here)) | exact Has.there (Has.there (Has.there (Has.here))) | exact Has.there (Has.there (Has.there (Has.there (Has.here)))) | exact Has.there (Has.there (Has.there (Has.there (Has.there (Has.here))))) | exact Has.there (Has.there (Has.there (Has.there (Has.there (Has.there (Has.here)))))) | exact Has.there (Has.there (Has.there (Has.there (Has.there (Has.there (Has.there (Has.here)))))))) rfl) hS ?_)
                              refine wl_yes rfl rfl rfl rfl rfl (ow_fng (vs := [.slice _ _ _]) en_9 rfl hS (law_fine cs (.slice aL cs.length cL) Δ hvL (by omega)) (by repeat (first | exact needs0 | (refine needsC ?_ ?_; · (repeat (first | exact List.mem_cons_self | assumption | refine List.mem_cons_of_mem _ ?_))))) ?_)
                              clear hS; rintro v149 _ w ⟨rfl, rfl⟩ hS; (try simp only [List.cons_append, List.nil_append] at hS)
                              refine wl_op rfl rfl (ow_vr (vr_pick (b := true) (v := .bool _) rfl rfl) ?_)
                              refine wl_nil ?_
                              refine hK40 _ _ ?_
                              refine cw_cond_t rfl rfl (by (rcases hcase with ⟨f1, f2⟩ | ⟨f1, _⟩ | ⟨f1, _⟩ <;> first | exact f1 | (exfalso; rw [f2] at h3b; simp at h3b))) ?_
                              refine cw_seq fun K41 hK41 => ?_
                              have he9 := hj35 h3b
                              have hz3 := hz2 (by omega)
                              obtain ⟨f1, f2, hwd1, hdn1, f6, f7, hb1, hor1, haft⟩ : fineL cs = true ∧ ¬ n - (nx - h) < (cs.length : Int) + 1 ∧ WfD X.2.1 ∧ X.2.1.n = d.n ∧ X.2.1.off = true ∧ X.2.2 = ⟨3, n, h, nx, ep⟩ ∧ (∀ k, (readD X.2.1 k).length ≤ 1000) ∧ (changesE (scanGo (readD X.2.1) 3 n ep n.toNat h) = (all, nx - h) ∨ changesE (scanGo (readD X.2.1) 3 n ep n.toNat h) = (all ++ cs, nx + ((cs.length : Int) + 1) - h)) ∧ (∀ x e, ep < e → 0 ≤ x → x ≤ 1000000000000 → LogI { X.2.1 with off := false } ⟨3, n, x, x, e⟩ [] []) := by
                                rcases hcase with ⟨f1, f2⟩ | ⟨f1, f2, f3⟩ | ⟨f1, f2, f3, f4, ⟨f5, _⟩ | ⟨f5, f6, f7, f8, f9, f10⟩⟩
                                · rw [f2] at h3b; simp at h3b
                                · rw [f3] at h3b; simp at h3b
                                · rw [f5] at h3b; simp at h3b
                                · exact ⟨f1, f2, f3, f4, f6, f7, f8, f9, f10⟩
                              have hwd3 : WfD { X.2.1 with off := false } := ⟨hwd1.keep, hwd1.waits, hwd1.n0, hwd1.n1⟩
                              have hdn3 : ({ X.2.1 with off := false } : Dsk).n = n + 6 := hdn1.trans hdn
                              obtain ⟨c1, k1, hck, hor⟩ : ∃ c1 k1, changesE (scanGo (readD { X.2.1 with off := false }) 3 n ep n.toNat h) = (c1, k1) ∧ ((c1 = all1 ∧ k1 = nx1 - h) ∨ (c1 = all1 ++ cs ∧ k1 = nx1 + ((cs.length : Int) + 1) - h)) := by
                                rw [hz3.1, hz3.2]
                                rcases hor1 with h5 | h5
                                · exact ⟨_, _, h5, .inl ⟨rfl, rfl⟩⟩
                                · exact ⟨_, _, h5, .inr ⟨rfl, rfl⟩⟩
                              have hc1l : c1.length ≤ 10000 := by rcases hor with ⟨h5, _⟩ | ⟨h5, _⟩ <;> (rw [h5]; first | omega | (simp; omega))
                              replace hS := hS.front2
                              refine cw_region ?_
                              refine wl_op rfl rfl (ow_vr (vr_move (v := (ptr p)) rfl) ?_)
                              refine wl_op rfl rfl (ow_fn (vs := [(ptr p)]) en_12 rfl hS (disk_Power hd1) ?_)
                              clear hS; rintro v152 _ w ⟨rfl, Δ3, rfl, hd3⟩ hS; (try simp only [List.cons_append, List.nil_append] at hS)
                              refine wl_nil ?_
                              refine hK41 _ _ ?_
                              refine cw_seq fun K42 hK42 => ?_
                              have hSc := loop_Scan hd3 hwd3 3 n h ep rfl (by rw [hdn3]; simp [mayL]; omega) hb1
                              rw [hck] at hSc
                              refine cw_region ?_
                              refine wl_op rfl rfl (ow_vr (vr_move (v := (ptr p)) rfl) ?_)
                              refine wl_op rfl rfl (ow_vr (vr_move (v := .int .i64 n) rfl) ?_)
                              refine wl_op rfl rfl (ow_vr (vr_move (v := .int .i64 h) rfl) ?_)
                              refine wl_op rfl rfl (ow_vr (vr_move (v := .int .i64 ep) rfl) ?_)
                              refine wl_op rfl rfl (ow_fn (vs := [(ptr p), .int .i64 _, .int .i64 n, .int .i64 h, .int .i64 ep]) en_13 rfl hS (hSc) ?_)
                              clear hS; rintro v158 _ w ⟨vS, DS, rfl, rfl, hoS⟩ hS; (try simp only [List.cons_append, List.nil_append] at hS)
                              refine wl_op rfl rfl (ow_vr (vr_move (v := .tuple _) rfl) ?_)
                              refine wl_op rfl rfl (ow_vr (vr_extract (v := vS) rfl rfl) ?_)
                              refine wl_op rfl rfl (ow_vr (vr_extract (v := .int .i64 _) rfl rfl) ?_)
                              refine wl_op rfl rfl (ow_vr (vr_extract (v := .int .i64 _) rfl rfl) ?_)
                              refine wl_op rfl rfl (ow_vr (vr_assign (v := vS) rfl) ?_)
                              refine wl_op rfl rfl (ow_vr (vr_assign (v := .int .i64 _) rfl) ?_)
                              refine wl_op rfl rfl (ow_vr (vr_assign (v := .int .i64 _) rfl) ?_)
                              refine wl_nil ?_
                              refine hK42 _ _ ?_
                              refine cw_seq fun K43 hK43 => ?_
                              refine cw_seq fun K44 hK44 => ?_
                              refine cw_region ?_
                              refine wl_op rfl rfl (ow_vr (vr_move (v := .int .i64 _) rfl) ?_)
                              refine wl_op rfl rfl (ow_vr (vr_neq rfl rfl) ?_)
                              refine wl_nil ?_
                              refine hK44 _ _ ?_
                              refine cw_cond_f rfl rfl (rfl) ?_
                              refine cw_skip ?_
                              refine hK43 _ _ ?_
                              refine cw_seq fun K45 hK45 => ?_
                              have hJK45 : ∀ f w, (∃ (nx3 : Int) (Z : Chunk) (g : Nat → Value), f = (upd (upd (upd (upd (upd (upd (upd (upd (upd g 0 (.int .i64 n)) 1 (.int .i64 h)) 2 (v)) 7 (ptr p)) 8 (.int .i64 ep)) 10 (.int .i64 nx3)) 12 (ptr b64)) 13 (.int .i64 (k : Int))) 14 (ptr b14)) ∧ (h ≤ nx3 ∧ nx3 - h ≤ n ∧ nx3 ≤ 1000 + 41 * ((k : Int) + 1)) ∧ Sat E (Z :: DS :: Δ3 :: [(b14, .cells [.int .i64 kd, .int .i64 en, .int .i64 ee, .slice aL cs.length cL, .slice aK ks.length cK].toArray 40 (0, 0))] :: loopC q p X.2.2 :: Da1 :: bookC b64 (.slice none 0 0) (.slice none 0 0) (.slice none 0 0) (.slice none 0 0) vb vw (.slice none 0 0) (.slice none 0 0) :: K :: F) w) → K45 f w := by
                                clear hS; rintro f w ⟨nx3, Z, g, rfl, hj44, hS⟩
                                refine hK45 _ _ ?_
                                refine cw_seq fun K46 hK46 => ?_
                                obtain ⟨hn3a, hn3b, hn3c⟩ := hj44
                                replace hS := hS.tail1.tail1
                                have hC := fun q5 => loop_Cut q5 p ⟨3, n, h, nx3, ep⟩ (ep + 1)
                                rw [cut_to (by simp only; omega) (by omega)] at hC
                                refine cw_region ?_
                                refine wl_op rfl rfl (ow_vr (vr_move (v := (ptr p)) rfl) ?_)
                                refine wl_op rfl rfl (ow_vr (vr_move (v := .int .i64 n) rfl) ?_)
                                refine wl_op rfl rfl (ow_vr (vr_move (v := .int .i64 h) rfl) ?_)
                                refine wl_op rfl rfl (ow_vr (vr_move (v := .int .i64 nx3) rfl) ?_)
                                refine wl_op rfl rfl (ow_vr (vr_move (v := .int .i64 ep) rfl) ?_)
                                refine wl_op rfl rfl (ow_fn (vs := [(ptr p), .int .i64 _, .int .i64 n, .int .i64 h, .int .i64 nx3, .int .i64 ep]) en_6 rfl hS (loop_NewT hd3 hwd3 ⟨3, n, h, nx3, ep⟩ (by rw [hdn3]; simp [mayL]; omega)) ?_)
                                clear hS; rintro v197 _ w ⟨q5, rfl, rfl⟩ hS; (try simp only [List.cons_append, List.nil_append] at hS)
                                refine wl_op rfl rfl (ow_vr (vr_assign (v := .pointer _) rfl) ?_)
                                refine wl_nil ?_
                                refine hK46 _ _ ?_
                                refine cw_seq fun K47 hK47 => ?_
                                refine cw_seq fun K48 hK48 => ?_
                                refine cw_region ?_
                                refine wl_op rfl rfl (ow_vr (vr_move (v := .pointer _) rfl) ?_)
                                refine wl_op rfl rfl (ow_vr (vr_eqnil Tryz.underlying26 rfl) ?_)
                                refine wl_op rfl rfl (ow_vr (vr_move (v := .bool _) rfl) ?_)
                                refine wl_known 200 rfl (c := false) (rfl) ?_
                                refine wl_yes rfl rfl rfl rfl rfl (ow_vr (vr_move (v := .pointer _) rfl) ?_)
                                refine wl_yes rfl rfl rfl rfl rfl (ow_vr (vr_move (v := .int .i64 ep) rfl) ?_)
                                first | (refine wl_yes rfl rfl rfl rfl rfl (ow_vr (vr_addi rfl rfl (by unfold inI64; omega)) ?_)) | (refine wl_yes rfl rfl rfl rfl rfl (ow_vr (vr_add rfl rfl) ?_))
                                refine wl_yes rfl rfl rfl rfl rfl (ow_fn (vs := [.pointer _, .int .i64 _]) en_15 rfl hS (hC q5) ?_)
                                clear hS; rintro v204 _ w ⟨rfl, rfl⟩ hS; (try simp only [List.cons_append, List.nil_append] at hS)
                                refine wl_yes rfl rfl rfl rfl rfl (ow_vr (vr_neq rfl rfl) ?_)
                                refine wl_op rfl rfl (ow_vr (vr_pick (b := false) (v := .bool _) rfl rfl) ?_)
                                refine wl_nil ?_
                                refine hK48 _ _ ?_
                                refine cw_cond_f rfl rfl (rfl) ?_
                                refine cw_skip ?_
                                refine hK47 _ _ ?_
                                refine cw_seq fun K49 hK49 => ?_
                                refine cw_region ?_
                                refine wl_op rfl rfl (ow_vr (vr_move (v := .int .i64 nx3) rfl) ?_)
                                refine wl_op rfl rfl (ow_vr (vr_assign (v := .int .i64 nx3) rfl) ?_)
                                refine wl_op rfl rfl (ow_vr (vr_assign (v := .slice none 0 0) rfl) ?_)
                                refine wl_nil ?_
                                refine hK49 _ _ ?_
                                refine cw_region ?_
                                refine wl_op rfl rfl (ow_vr (vr_move (v := .int .i64 ep) rfl) ?_)
                                first | (refine wl_op rfl rfl (ow_vr (vr_addi rfl rfl (by unfold inI64; omega)) ?_)) | (refine wl_op rfl rfl (ow_vr (vr_add rfl rfl) ?_))
                                refine wl_op rfl rfl (ow_vr (vr_assign (v := .int .i64 _) rfl) ?_)
                                refine wl_nil ?_
                                replace hS := hS.lp6
                                refine hJK28 _ _ ⟨q5, nx3, nx3, ep + 1, ⟨3, n, nx3, nx3, ep + 1⟩, { X.2.1 with off := false }, Δ3, [], .slice none 0 0, [], vb, vw, xss, I, K, _, (reb (reb (reb (reb (reb (reb (reb (reb (reb (reb rfl rfl) rfl) rfl) rfl) rfl) rfl) rfl) rfl) rfl) rfl), ?_, hS⟩
                                first | exact ⟨hXL, hd1, (hfin h3b).1, (hfin h3b).2.1, (hfin h3b).2.2.1, hep, hep2, by omega, hoa1, by have := (hfin h3b).2.2.2; omega, hkp⟩ | exact ⟨rfl, hd3, ⟨[], haft nx3 (ep + 1) (by omega) (by omega) (by omega)⟩, hwd3, hdn3, by omega, by omega, by omega, Own.nil, by simp, hkp⟩ | exact ⟨hcY hmb, hd, ⟨[], hIc hmb⟩, hwd, hdn, by have := hj54.1 hmb; omega, (hj54.1 hmb).2, by omega, Own.nil, by simp, hkp⟩ | exact ⟨hcN (by simpa using hmb), hd, ⟨es, hI⟩, hwd, hdn, hep, hep2, by omega, hoa, by omega, hkp⟩ | exact ⟨rfl, hd6, ⟨es, hI6⟩, hwd6, hdn, hep, by omega, by omega, hoa, by omega, hkp'⟩ | exact ⟨rfl, hd7, ⟨es, hI.arm _ _⟩, hwd.arm _ (by omega), hdn, hep, hep2, by omega, hoa, by omega, hkp⟩ | exact ⟨rfl, hd, ⟨es, hI⟩, hwd, hdn, hep, hep2, by omega, hoa, by omega, hkp⟩
                              refine cw_seq fun K50 hK50 => ?_
                              have hS := Sat.nilc.2 hS
                              refine cw_draw_s (Sat E (DS :: Δ3 :: [(b14, .cells [.int .i64 kd, .int .i64 en, .int .i64 ee, .slice aL cs.length cL, .slice aK ks.length cK].toArray 40 (0, 0))] :: loopC q p X.2.2 :: Da1 :: bookC b64 (.slice none 0 0) (.slice none 0 0) (.slice none 0 0) (.slice none 0 0) vb vw (.slice none 0 0) (.slice none 0 0) :: K :: F)) hS (fun _ h => h.tail1) (fun _ _ h hg => Sat.below h hg) [(0, 0), (1, 0), (2, 0), (3, 1), (4, 0), (5, 0), (6, 0), (7, 0), (8, 0), (9, 0), (10, 0), (12, 0), (13, 1), (11, 2), (14, 2), (15, 2), (16, 0)] mixed (planFast_ok (by kernel_rfl)) (by rintro _ _ _ ⟨⟩) ?_
                              clear hS; intro w hS
                              refine pl_take rfl (yes_none rfl) (vr_move (v := .int .i64 _) rfl) ?_
                              refine pl_take rfl (yes_none rfl) (vr_move (v := .int .i64 nx1) rfl) ?_
                              first | (refine pl_take rfl (yes_none rfl) (vr_fieldAddr fo_40_3 rfl) ?_) | (refine pl_take rfl (yes_none rfl) (vr_fieldAddrV fo_40_3 rfl (by first | assumption | (refine Own.view ?_ (by assumption); exact fun _ => rfl) | exact OwnB.view (by assumption)) (by first | omega | (simp <;> omega))) ?_)
                              refine pl_load rfl (yes_none rfl) (lr_load1 Tryz.underlying28 rfl rfl (by first | exact Has.here | exact Has.there (Has.here) | exact Has.there (Has.there (Has.here)) | exact Has.there (Has.there (Has.there (Has.here))) | exact Has.there (Has.there (Has.there (Has.there (Has.here)))) | exact Has.there (Has.there (Has.there (Has.there (Has.there (Has.here))))) | exact Has.there (Has.there (Has.there (Has.there (Has.there (Has.there (Has.here)))))) | exact Has.there (Has.there (Has.there (Has.there (Has.there (Has.there (Has.there (Has.here)))))))) rfl) ?_
                              first | (refine pl_take rfl (yes_none rfl) (vr_len_sl Tryz.underlying28 rfl) ?_) | (refine pl_take rfl (yes_none rfl) (vr_len_v Tryz.underlying28 rfl (by first | assumption | (refine Own.view ?_ (by assumption); exact fun _ => rfl) | exact OwnB.view (by assumption))) ?_)
                              first | (refine pl_take rfl (yes_none rfl) (vr_addi rfl rfl (by unfold inI64; omega)) ?_) | (refine pl_take rfl (yes_none rfl) (vr_add rfl rfl) ?_)
                              first | (refine pl_take rfl (yes_none rfl) (vr_addi rfl rfl (by unfold inI64; omega)) ?_) | (refine pl_take rfl (yes_none rfl) (vr_add rfl rfl) ?_)
                              refine pl_take rfl (yes_none rfl) (vr_eql rfl rfl) ?_
                              refine pl_take rfl (yes_none rfl) (vr_move (v := .bool _) rfl) ?_
                              refine pl_split 172 rfl (fun hc => ?_) (fun hc => ?_)
                              · (try simp only [decide_eq_true_eq, decide_eq_false_iff_not, Bool.not_eq_true, Bool.not_eq_false, Bool.not_eq_true', Bool.not_eq_false', Bool.and_eq_true, Bool.or_eq_true, Bool.and_eq_false_iff, Bool.or_eq_false_iff, Int.not_lt, Int.not_le, gt_iff_lt, ge_iff_le, ne_eq, Decidable.not_not, beq_iff_eq] at hc)
                                have hbig := hc; clear hc
                                refine pl_take rfl (yes_some rfl rfl rfl rfl) (vr_move (v := vS) rfl) ?_
                                refine pl_take rfl (yes_some rfl rfl rfl rfl) (vr_move (v := va1) rfl) ?_
                                first | (refine pl_take rfl (yes_some rfl rfl rfl rfl) (vr_fieldAddr fo_40_3 rfl) ?_) | (refine pl_take rfl (yes_some rfl rfl rfl rfl) (vr_fieldAddrV fo_40_3 rfl (by first | assumption | (refine Own.view ?_ (by assumption); exact fun _ => rfl) | exact OwnB.view (by assumption)) (by first | omega | (simp <;> omega))) ?_)
                                refine pl_load rfl (yes_some rfl rfl rfl rfl) (lr_load1 Tryz.underlying28 rfl rfl (by first | exact Has.here | exact Has.there (Has.here) | exact Has.there (Has.there (Has.here)) | exact Has.there (Has.there (Has.there (Has.here))) | exact Has.there (Has.there (Has.there (Has.there (Has.here)))) | exact Has.there (Has.there (Has.there (Has.there (Has.there (Has.here))))) | exact Has.there (Has.there (Has.there (Has.there (Has.there (Has.there (Has.here)))))) | exact Has.there (Has.there (Has.there (Has.there (Has.there (Has.there (Has.there (Has.here)))))))) rfl) ?_
                                refine pl_act hS rfl (yes_some rfl rfl rfl rfl) ?_
                                clear hS; intro w hS
                                refine (ow_append (v := .slice none 0 0) (u := va1) (enc := encC) hS Tryz.underlying28 Tryz.underlying28 if_55 rfl (by decide) rfl rfl Own.nil (hoa1.view (by exact fun _ => rfl)) HasC.here (by repeat (first | exact List.mem_cons_self | assumption | refine List.mem_cons_of_mem _ ?_)) (by exact fun _ => rfl) (by exact fun _ => rfl) (by simp [maxLen]; omega) (by simp; omega) ?_)
                                clear hS; intro v175 D175 w ho175 hS
                                refine ⟨by first | exact hS | exact hS.tail1 | exact hS.tail1.tail1 | exact hS.tail1.tail1.tail1, ?_⟩
                                refine pl_act hS rfl (yes_some rfl rfl rfl rfl) ?_
                                clear hS; intro w hS
                                refine (ow_append (v := v175) (u := .slice aL cs.length cL) hS Tryz.underlying28 Tryz.underlying28 if_55 rfl (by decide) rfl rfl (by assumption) (by first | assumption | (refine Own.view ?_ (by assumption); exact fun _ => rfl) | exact OwnB.view (by assumption)) (by first | exact HasC.here | exact HasC.there (HasC.here) | exact HasC.there (HasC.there (HasC.here)) | exact HasC.there (HasC.there (HasC.there (HasC.here))) | exact HasC.there (HasC.there (HasC.there (HasC.there (HasC.here)))) | exact HasC.there (HasC.there (HasC.there (HasC.there (HasC.there (HasC.here))))) | exact HasC.there (HasC.there (HasC.there (HasC.there (HasC.there (HasC.there (HasC.here)))))) | exact HasC.there (HasC.there (HasC.there (HasC.there (HasC.there (HasC.there (HasC.there (HasC.here))))))) | exact HasC.there (HasC.there (HasC.there (HasC.there (HasC.there (HasC.there (HasC.there (HasC.there (HasC.here))))))))) (by repeat (first | exact List.mem_cons_self | assumption | refine List.mem_cons_of_mem _ ?_)) (by exact fun _ => rfl) (by exact fun _ => rfl) (by first | omega | (simp [maxLen] <;> omega) | (simp <;> omega)) (by first | omega | (simp [maxLen] <;> omega) | (simp <;> omega)) ?_)
                                clear hS; intro v178 D178 w ho178 hS
                                refine ⟨by first | exact hS | exact hS.tail1 | exact hS.tail1.tail1 | exact hS.tail1.tail1.tail1, ?_⟩
                                refine pl_act hS rfl (yes_some rfl rfl rfl rfl) ?_
                                clear hS; intro w hS
                                refine (ow_fng (vs := [vS, v178]) en_14 rfl hS (book_SameChanges c1 _ vS v178 DS D178 (hoS.view (by exact fun _ => rfl)) (ho178.view (by exact fun _ => rfl)) (by omega) (by simp; omega)) (by repeat (first | exact needs0 | (refine needsC ?_ ?_; · (repeat (first | exact List.mem_cons_self | assumption | refine List.mem_cons_of_mem _ ?_))))) ?_)
                                clear hS; rintro v179 _ w ⟨rfl, rfl⟩ hS; (try simp only [List.cons_append, List.nil_append] at hS)
                                refine ⟨by first | exact hS | exact hS.tail1 | exact hS.tail1.tail1 | exact hS.tail1.tail1.tail1, ?_⟩
                                refine pl_take rfl (yes_none rfl) (vr_pick (b := true) (v := .bool _) rfl rfl) ?_
                                refine pl_nil hS ?_
                                clear hS; intro w hS
                                refine hK50 _ _ ?_
                                refine cw_cond_t rfl rfl (by (rcases hor with ⟨h5, h6⟩ | ⟨h5, h6⟩ <;> first | (exfalso; omega) | (simp [h5]; done))) ?_
                                refine cw_region ?_
                                refine wl_op rfl rfl (ow_vr (vr_move (v := .int .i64 _) rfl) ?_)
                                refine wl_op rfl rfl (ow_vr (vr_move (v := vS) rfl) ?_)
                                refine wl_op rfl rfl (ow_vr (vr_assign (v := .int .i64 _) rfl) ?_)
                                refine wl_op rfl rfl (ow_vr (vr_assign (v := vS) rfl) ?_)
                                refine wl_nil ?_
                                refine hJK45 _ _ ⟨h + k1, D178, _, (reb (reb (reb (reb (reb (reb (reb (reb (reb rfl rfl) rfl) rfl) rfl) rfl) rfl) rfl) rfl) rfl), ?_, hS⟩
                                rcases hor with ⟨h5, h6⟩ | ⟨h5, h6⟩ <;> omega
                              · (try simp only [decide_eq_true_eq, decide_eq_false_iff_not, Bool.not_eq_true, Bool.not_eq_false, Bool.not_eq_true', Bool.not_eq_false', Bool.and_eq_true, Bool.or_eq_true, Bool.and_eq_false_iff, Bool.or_eq_false_iff, Int.not_lt, Int.not_le, gt_iff_lt, ge_iff_le, ne_eq, Decidable.not_not, beq_iff_eq] at hc)
                                have hbig := hc; clear hc
                                refine pl_noD rfl (yes_not rfl rfl rfl rfl rfl) ?_
                                refine pl_noD rfl (yes_not rfl rfl rfl rfl rfl) ?_
                                refine pl_noD rfl (yes_not rfl rfl rfl rfl rfl) ?_
                                refine pl_noD rfl (yes_not rfl rfl rfl rfl rfl) ?_
                                refine pl_noD rfl (yes_not rfl rfl rfl rfl rfl) ?_
                                refine pl_noD rfl (yes_not rfl rfl rfl rfl rfl) ?_
                                refine pl_noD rfl (yes_not rfl rfl rfl rfl rfl) ?_
                                refine pl_take rfl (yes_none rfl) (vr_pick (b := false) (v := .bool _) rfl rfl) ?_
                                refine pl_nil hS ?_
                                clear hS; intro w hS
                                refine hK50 _ _ ?_
                                refine cw_cond_f rfl rfl (rfl) ?_
                                refine cw_seq fun K51 hK51 => ?_
                                refine cw_region ?_
                                refine wl_op rfl rfl (ow_vr (vr_move (v := .int .i64 _) rfl) ?_)
                                refine wl_op rfl rfl (ow_vr (vr_move (v := .int .i64 nx1) rfl) ?_)
                                refine wl_op rfl rfl (ow_vr (vr_neq rfl rfl) ?_)
                                refine wl_op rfl rfl (ow_vr (vr_move (v := .bool _) rfl) ?_)
                                refine wl_known 186 rfl (c := false) (by (rcases hor with ⟨h5, h6⟩ | ⟨h5, h6⟩ <;> first | (exfalso; omega) | (simp; omega))) ?_
                                refine wl_yes rfl rfl rfl rfl rfl (ow_vr (vr_move (v := vS) rfl) ?_)
                                refine wl_yes rfl rfl rfl rfl rfl (ow_vr (vr_move (v := va1) rfl) ?_)
                                refine wl_yes rfl rfl rfl rfl rfl (ow_fng (vs := [vS, va1]) en_14 rfl hS (book_SameChanges c1 all1 vS va1 DS Da1 (hoS.view (by exact fun _ => rfl)) (hoa1.view (by exact fun _ => rfl)) (by omega) (by omega)) (by repeat (first | exact needs0 | (refine needsC ?_ ?_; · (repeat (first | exact List.mem_cons_self | assumption | refine List.mem_cons_of_mem _ ?_))))) ?_)
                                clear hS; rintro v189 _ w ⟨rfl, rfl⟩ hS; (try simp only [List.cons_append, List.nil_append] at hS)
                                refine wl_yes rfl rfl rfl rfl rfl (ow_vr (vr_not rfl) ?_)
                                refine wl_op rfl rfl (ow_vr (vr_pick (b := false) (v := .bool _) rfl rfl) ?_)
                                refine wl_nil ?_
                                refine hK51 _ _ ?_
                                refine cw_cond_f rfl rfl (by (rcases hor with ⟨h5, h6⟩ | ⟨h5, h6⟩ <;> first | (exfalso; omega) | (simp [h5]; done))) ?_
                                refine cw_skip ?_
                                refine hJK45 _ _ ⟨nx1, [], _, (reb (reb (reb (reb (reb (reb (reb (reb (reb rfl rfl) rfl) rfl) rfl) rfl) rfl) rfl) rfl) rfl), ?_, hS⟩
                                rcases hor with ⟨h5, h6⟩ | ⟨h5, h6⟩ <;> omega
                            · (try simp only [decide_eq_true_eq, decide_eq_false_iff_not, Bool.not_eq_true, Bool.not_eq_false, Bool.not_eq_true', Bool.not_eq_false', Bool.and_eq_true, Bool.or_eq_true, Bool.and_eq_false_iff, Bool.or_eq_false_iff, Int.not_lt, Int.not_le, gt_iff_lt, ge_iff_le, ne_eq, Decidable.not_not, beq_iff_eq] at hc)
                              have h3b := hc; clear hc
                              refine wl_noD rfl rfl rfl rfl rfl rfl ?_
                              refine wl_noD rfl rfl rfl rfl rfl rfl ?_
                              refine wl_noD rfl rfl rfl rfl rfl rfl ?_
                              refine wl_op rfl rfl (ow_vr (vr_pick (b := false) (v := .bool _) rfl rfl) ?_)
                              refine wl_nil ?_
                              refine hK40 _ _ ?_
                              refine cw_cond_f rfl rfl (rfl) ?_
                              refine cw_skip ?_
                              refine hJK28 _ _ ⟨q, h, nx1, ep, X.2.2, X.2.1, Δ1, all1, va1, Da1, vb, vw, xss, I, K, _, (reb (reb (reb (reb (reb (reb (reb (reb (reb (reb rfl rfl) rfl) rfl) rfl) rfl) rfl) rfl) rfl) rfl) rfl), ?_, hS⟩
                              first | exact ⟨hXL, hd1, (hfin h3b).1, (hfin h3b).2.1, (hfin h3b).2.2.1, hep, hep2, by omega, hoa1, by have := (hfin h3b).2.2.2; omega, hkp⟩ | exact ⟨rfl, hd3, ⟨[], haft nx3 (ep + 1) (by omega) (by omega) (by omega)⟩, hwd3, hdn3, by omega, by omega, by omega, Own.nil, by simp, hkp⟩ | exact ⟨hcY hmb, hd, ⟨[], hIc hmb⟩, hwd, hdn, by have := hj54.1 hmb; omega, (hj54.1 hmb).2, by omega, Own.nil, by simp, hkp⟩ | exact ⟨hcN (by simpa using hmb), hd, ⟨es, hI⟩, hwd, hdn, hep, hep2, by omega, hoa, by omega, hkp⟩ | exact ⟨rfl, hd6, ⟨es, hI6⟩, hwd6, hdn, hep, by omega, by omega, hoa, by omega, hkp'⟩ | exact ⟨rfl, hd7, ⟨es, hI.arm _ _⟩, hwd.arm _ (by omega), hdn, hep, hep2, by omega, hoa, by omega, hkp⟩ | exact ⟨rfl, hd, ⟨es, hI⟩, hwd, hdn, hep, hep2, by omega, hoa, by omega, hkp⟩
                          refine cw_seq fun K52 hK52 => ?_
                          refine cw_region ?_
                          refine wl_op rfl rfl (ow_vr (vr_move (v := .int .i64 X.1) rfl) ?_)
                          refine wl_op rfl rfl (ow_vr (vr_eql rfl rfl) ?_)
                          refine wl_op rfl rfl (ow_vr (vr_move (v := .bool _) rfl) ?_)
                          refine wl_split 140 rfl (fun hc => ?_) (fun hc => ?_)
                          · (try simp only [decide_eq_true_eq, decide_eq_false_iff_not, Bool.not_eq_true, Bool.not_eq_false, Bool.not_eq_true', Bool.not_eq_false', Bool.and_eq_true, Bool.or_eq_true, Bool.and_eq_false_iff, Bool.or_eq_false_iff, Int.not_lt, Int.not_le, gt_iff_lt, ge_iff_le, ne_eq, Decidable.not_not, beq_iff_eq] at hc)
                            have hg140 := hc; clear hc
                            refine wl_yes rfl rfl rfl rfl rfl (ow_vr (vr_move (v := .int .i64 ep) rfl) ?_)
                            refine wl_yes rfl rfl rfl rfl rfl (ow_vr (vr_geq rfl rfl) ?_)
                            refine wl_op rfl rfl (ow_vr (vr_pick (b := true) (v := .bool _) rfl rfl) ?_)
                            refine wl_nil ?_
                            refine hK52 _ _ ?_
                            refine cw_cond rfl rfl (fun hc => ?_) (fun hc => ?_)
                            · (try simp only [decide_eq_true_eq, decide_eq_false_iff_not, Bool.not_eq_true, Bool.not_eq_false, Bool.not_eq_true', Bool.not_eq_false', Bool.and_eq_true, Bool.or_eq_true, Bool.and_eq_false_iff, Bool.or_eq_false_iff, Int.not_lt, Int.not_le, gt_iff_lt, ge_iff_le, ne_eq, Decidable.not_not, beq_iff_eq] at hc)
                              have hend := hc; clear hc
                              refine cw_seq fun K53 hK53 => ?_
                              refine cw_region ?_
                              refine wl_op rfl rfl (ow_vr (vr_assign (v := .bool true) rfl) ?_)
                              refine wl_nil ?_
                              refine hK53 _ _ ?_
                              refine cw_ret ?_
                              refine thenF_ret (inB_ret (thenF_ret (inB_ret (thenF_ret (thenF_ret (inB_ret (thenF_ret (?_))))))))
                              refine ret_one (fn := Tryz.f3) (n := 331) (t := 6) (.inl rfl) rfl rfl ?_
                              exact ⟨[], ⟨rfl, rfl⟩, hS.tail1.tail1.tail1.tail1.tail1.tail1⟩
                            · (try simp only [decide_eq_true_eq, decide_eq_false_iff_not, Bool.not_eq_true, Bool.not_eq_false, Bool.not_eq_true', Bool.not_eq_false', Bool.and_eq_true, Bool.or_eq_true, Bool.and_eq_false_iff, Bool.or_eq_false_iff, Int.not_lt, Int.not_le, gt_iff_lt, ge_iff_le, ne_eq, Decidable.not_not, beq_iff_eq] at hc)
                              have hend := hc; clear hc
                              refine cw_skip ?_
                              refine hJK39 _ _ ⟨_, (reb (reb (reb (reb (reb (reb (reb (reb (reb (reb (reb (reb rfl rfl) rfl) rfl) rfl) rfl) rfl) rfl) rfl) rfl) rfl) rfl) rfl), ?_, hS⟩
                              omega
                          · (try simp only [decide_eq_true_eq, decide_eq_false_iff_not, Bool.not_eq_true, Bool.not_eq_false, Bool.not_eq_true', Bool.not_eq_false', Bool.and_eq_true, Bool.or_eq_true, Bool.and_eq_false_iff, Bool.or_eq_false_iff, Int.not_lt, Int.not_le, gt_iff_lt, ge_iff_le, ne_eq, Decidable.not_not, beq_iff_eq] at hc)
                            have hg140 := hc; clear hc
                            refine wl_noD rfl rfl rfl rfl rfl rfl ?_
                            refine wl_noD rfl rfl rfl rfl rfl rfl ?_
                            refine wl_op rfl rfl (ow_vr (vr_pick (b := false) (v := .bool _) rfl rfl) ?_)
                            refine wl_nil ?_
                            refine hK52 _ _ ?_
                            refine cw_cond_f rfl rfl (rfl) ?_
                            refine cw_skip ?_
                            refine hJK39 _ _ ⟨_, (reb (reb (reb (reb (reb (reb (reb (reb (reb (reb (reb (reb rfl rfl) rfl) rfl) rfl) rfl) rfl) rfl) rfl) rfl) rfl) rfl) rfl), ?_, hS⟩
                            omega
                        refine cw_seq fun K54 hK54 => ?_
                        refine cw_region ?_
                        refine wl_op rfl rfl (ow_vr (vr_move (v := .int .i64 X.1) rfl) ?_)
                        refine wl_op rfl rfl (ow_vr (vr_eql rfl rfl) ?_)
                        refine wl_nil ?_
                        refine hK54 _ _ ?_
                        refine cw_cond rfl rfl (fun hc => ?_) (fun hc => ?_)
                        · (try simp only [decide_eq_true_eq, decide_eq_false_iff_not, Bool.not_eq_true, Bool.not_eq_false, Bool.not_eq_true', Bool.not_eq_false', Bool.and_eq_true, Bool.or_eq_true, Bool.and_eq_false_iff, Bool.or_eq_false_iff, Int.not_lt, Int.not_le, gt_iff_lt, ge_iff_le, ne_eq, Decidable.not_not, beq_iff_eq] at hc)
                          have hz := hc; clear hc
                          refine cw_seq fun K55 hK55 => ?_
                          refine cw_region ?_
                          refine wl_op rfl rfl (ow_vr (vr_move (v := .int .i64 nx) rfl) ?_)
                          first | (refine wl_op rfl rfl (ow_vr (vr_fieldAddr fo_40_3 rfl) ?_)) | (refine wl_op rfl rfl (ow_vr (vr_fieldAddrV fo_40_3 rfl (by first | assumption | (refine Own.view ?_ (by assumption); exact fun _ => rfl) | exact OwnB.view (by assumption)) (by first | omega | (simp <;> omega))) ?_))
                          refine wl_op rfl rfl (ow_lr (S := Sat _ _) (lr_load1 Tryz.underlying28 rfl rfl (by first | exact Has.here | exact Has.there (Has.here) | exact Has.there (Has.there (Has.here)) | exact Has.there (Has.there (Has.there (Has.here))) | exact Has.there (Has.there (Has.there (Has.there (Has.here)))) | exact Has.there (Has.there (Has.there (Has.there (Has.there (Has.here))))) | exact Has.there (Has.there (Has.there (Has.there (Has.there (Has.there (Has.here)))))) | exact Has.there (Has.there (Has.there (Has.there (Has.there (Has.there (Has.there (Has.here)))))))) rfl) hS ?_)
                          first | (refine wl_op rfl rfl (ow_vr (vr_len_sl Tryz.underlying28 rfl) ?_)) | (refine wl_op rfl rfl (ow_vr (vr_len_v Tryz.underlying28 rfl (by first | assumption | (refine Own.view ?_ (by assumption); exact fun _ => rfl) | exact OwnB.view (by assumption))) ?_))
                          first | (refine wl_op rfl rfl (ow_vr (vr_addi rfl rfl (by unfold inI64; omega)) ?_)) | (refine wl_op rfl rfl (ow_vr (vr_add rfl rfl) ?_))
                          first | (refine wl_op rfl rfl (ow_vr (vr_addi rfl rfl (by unfold inI64; omega)) ?_)) | (refine wl_op rfl rfl (ow_vr (vr_add rfl rfl) ?_))
                          refine wl_op rfl rfl (ow_vr (vr_assign (v := .int .i64 _) rfl) ?_)
                          refine wl_nil ?_
                          refine hK55 _ _ ?_
                          have hS := Sat.nilc.2 hS
                          refine cw_draw_s (Sat E (loopC q p X.2.2 :: Δ1 :: D91 :: [(b14, .cells [.int .i64 kd, .int .i64 en, .int .i64 ee, .slice aL cs.length cL, .slice aK ks.length cK].toArray 40 (0, 0))] :: Da :: bookC b64 (.slice none 0 0) (.slice none 0 0) (.slice none 0 0) (.slice none 0 0) vb vw (.slice none 0 0) (.slice none 0 0) :: K :: F)) hS (fun _ h => h.tail1) (fun _ _ h hg => Sat.below h hg) [(0, 0), (2, 0), (3, 1), (1, 2), (4, 2), (5, 0)] mixed (planFast_ok (by kernel_rfl)) (by rintro _ _ _ ⟨⟩) ?_
                          clear hS; intro w hS
                          refine pl_take rfl (yes_none rfl) (vr_move (v := va) rfl) ?_
                          first | (refine pl_take rfl (yes_none rfl) (vr_fieldAddr fo_40_3 rfl) ?_) | (refine pl_take rfl (yes_none rfl) (vr_fieldAddrV fo_40_3 rfl (by first | assumption | (refine Own.view ?_ (by assumption); exact fun _ => rfl) | exact OwnB.view (by assumption)) (by first | omega | (simp <;> omega))) ?_)
                          refine pl_load rfl (yes_none rfl) (lr_load1 Tryz.underlying28 rfl rfl (by first | exact Has.here | exact Has.there (Has.here) | exact Has.there (Has.there (Has.here)) | exact Has.there (Has.there (Has.there (Has.here))) | exact Has.there (Has.there (Has.there (Has.there (Has.here)))) | exact Has.there (Has.there (Has.there (Has.there (Has.there (Has.here))))) | exact Has.there (Has.there (Has.there (Has.there (Has.there (Has.there (Has.here)))))) | exact Has.there (Has.there (Has.there (Has.there (Has.there (Has.there (Has.there (Has.here)))))))) rfl) ?_
                          refine pl_act hS rfl (yes_none rfl) ?_
                          clear hS; intro w hS
                          refine (ow_append (v := .slice none 0 0) (u := va) (enc := encC) hS Tryz.underlying28 Tryz.underlying28 if_55 rfl (by decide) rfl rfl Own.nil (hoa.view (by exact fun _ => rfl)) HasC.here (by repeat (first | exact List.mem_cons_self | assumption | refine List.mem_cons_of_mem _ ?_)) (by exact fun _ => rfl) (by exact fun _ => rfl) (by simp [maxLen]; omega) (by simp; omega) ?_)
                          clear hS; intro v134 D134 w ho134 hS
                          refine ⟨by first | exact hS | exact hS.tail1 | exact hS.tail1.tail1 | exact hS.tail1.tail1.tail1, ?_⟩
                          refine pl_act hS rfl (yes_none rfl) ?_
                          clear hS; intro w hS
                          refine (ow_append (v := v134) (u := .slice aL cs.length cL) hS Tryz.underlying28 Tryz.underlying28 if_55 rfl (by decide) rfl rfl (by assumption) (by first | assumption | (refine Own.view ?_ (by assumption); exact fun _ => rfl) | exact OwnB.view (by assumption)) (by first | exact HasC.here | exact HasC.there (HasC.here) | exact HasC.there (HasC.there (HasC.here)) | exact HasC.there (HasC.there (HasC.there (HasC.here))) | exact HasC.there (HasC.there (HasC.there (HasC.there (HasC.here)))) | exact HasC.there (HasC.there (HasC.there (HasC.there (HasC.there (HasC.here))))) | exact HasC.there (HasC.there (HasC.there (HasC.there (HasC.there (HasC.there (HasC.here)))))) | exact HasC.there (HasC.there (HasC.there (HasC.there (HasC.there (HasC.there (HasC.there (HasC.here))))))) | exact HasC.there (HasC.there (HasC.there (HasC.there (HasC.there (HasC.there (HasC.there (HasC.there (HasC.here))))))))) (by repeat (first | exact List.mem_cons_self | assumption | refine List.mem_cons_of_mem _ ?_)) (by exact fun _ => rfl) (by exact fun _ => rfl) (by first | omega | (simp [maxLen] <;> omega) | (simp <;> omega)) (by first | omega | (simp [maxLen] <;> omega) | (simp <;> omega)) ?_)
                          clear hS; intro v137 D137 w ho137 hS
                          refine ⟨by first | exact hS | exact hS.tail1 | exact hS.tail1.tail1 | exact hS.tail1.tail1.tail1, ?_⟩
                          refine pl_take rfl (yes_none rfl) (vr_assign (v := v137) rfl) ?_
                          refine pl_nil hS ?_
                          clear hS; intro w hS
                          replace hS := hS.lp4
                          refine hJK38 _ _ ⟨nx + ((cs.length : Int) + 1), all ++ cs, v137, D137, _, (reb (reb (reb (reb (reb (reb (reb (reb (reb (reb (reb (reb rfl rfl) rfl) rfl) rfl) rfl) rfl) rfl) rfl) rfl) rfl) rfl) rfl), ?_, hS⟩
                          first | exact ⟨by simpa using ho137, fun _ => ⟨rfl, rfl⟩, fun h => absurd hz h⟩ | exact ⟨hoa, fun h => absurd h hz, fun _ => ⟨rfl, rfl⟩⟩
                        · (try simp only [decide_eq_true_eq, decide_eq_false_iff_not, Bool.not_eq_true, Bool.not_eq_false, Bool.not_eq_true', Bool.not_eq_false', Bool.and_eq_true, Bool.or_eq_true, Bool.and_eq_false_iff, Bool.or_eq_false_iff, Int.not_lt, Int.not_le, gt_iff_lt, ge_iff_le, ne_eq, Decidable.not_not, beq_iff_eq] at hc)
                          have hz := hc; clear hc
                          refine cw_skip ?_
                          refine hJK38 _ _ ⟨nx, all, va, Da, _, (reb (reb (reb (reb (reb (reb (reb (reb (reb (reb (reb (reb rfl rfl) rfl) rfl) rfl) rfl) rfl) rfl) rfl) rfl) rfl) rfl) rfl), ?_, hS⟩
                          first | exact ⟨by simpa using ho137, fun _ => ⟨rfl, rfl⟩, fun h => absurd hz h⟩ | exact ⟨hoa, fun h => absurd h hz, fun _ => ⟨rfl, rfl⟩⟩
                      refine cw_block ?_
                      refine cw_seq fun K56 hK56 => ?_
                      refine cw_region ?_
                      first | (refine wl_op rfl rfl (ow_vr (vr_fieldAddr fo_40_3 rfl) ?_)) | (refine wl_op rfl rfl (ow_vr (vr_fieldAddrV fo_40_3 rfl (by first | assumption | (refine Own.view ?_ (by assumption); exact fun _ => rfl) | exact OwnB.view (by assumption)) (by first | omega | (simp <;> omega))) ?_))
                      refine wl_op rfl rfl (ow_lr (S := Sat _ _) (lr_load1 Tryz.underlying28 rfl rfl (by first | exact Has.here | exact Has.there (Has.here) | exact Has.there (Has.there (Has.here)) | exact Has.there (Has.there (Has.there (Has.here))) | exact Has.there (Has.there (Has.there (Has.there (Has.here)))) | exact Has.there (Has.there (Has.there (Has.there (Has.there (Has.here))))) | exact Has.there (Has.there (Has.there (Has.there (Has.there (Has.there (Has.here)))))) | exact Has.there (Has.there (Has.there (Has.there (Has.there (Has.there (Has.there (Has.here)))))))) rfl) hS ?_)
                      refine wl_op rfl rfl (ow_fng (vs := [.slice _ _ _]) en_9 rfl hS (law_fine cs (.slice aL cs.length cL) Δ hvL (by omega)) (by repeat (first | exact needs0 | (refine needsC ?_ ?_; · (repeat (first | exact List.mem_cons_self | assumption | refine List.mem_cons_of_mem _ ?_))))) ?_)
                      clear hS; rintro v98 _ w ⟨rfl, rfl⟩ hS; (try simp only [List.cons_append, List.nil_append] at hS)
                      refine wl_op rfl rfl (ow_vr (vr_not rfl) ?_)
                      refine wl_op rfl rfl (ow_vr (vr_assign (v := .bool _) rfl) ?_)
                      refine wl_nil ?_
                      refine hK56 _ _ ?_
                      refine cw_cond rfl rfl (fun hc => ?_) (fun hc => ?_)
                      · (try simp only [decide_eq_true_eq, decide_eq_false_iff_not, Bool.not_eq_true, Bool.not_eq_false, Bool.not_eq_true', Bool.not_eq_false', Bool.and_eq_true, Bool.or_eq_true, Bool.and_eq_false_iff, Bool.or_eq_false_iff, Int.not_lt, Int.not_le, gt_iff_lt, ge_iff_le, ne_eq, Decidable.not_not, beq_iff_eq] at hc)
                        have hc5 := hc; clear hc
                        refine cw_region ?_
                        refine wl_op rfl rfl (ow_vr (vr_assign (v := .int .i64 1) rfl) ?_)
                        refine wl_nil ?_
                        refine hJK35 _ _ ⟨_, _, (reb (reb (reb (reb (reb (reb (reb (reb (reb (reb (reb (reb (reb (reb rfl rfl) rfl) rfl) rfl) rfl) rfl) rfl) rfl) rfl) rfl) rfl) rfl) rfl) rfl), ?_, hS⟩
                        rcases hcase with ⟨f1, f2⟩ | ⟨f1, f2, f3⟩ | ⟨f1, f2, f3, f4, ⟨f5, f6, _⟩ | ⟨f5, f6, _⟩⟩ <;> first | (rw [f2]; done) | (rw [f3]; done) | exact f5.symm | (exfalso; first | omega | (rw [f1] at hc5; cases hc5; done) | (rw [f6] at hc7; cases hc7; done))
                      · (try simp only [decide_eq_true_eq, decide_eq_false_iff_not, Bool.not_eq_true, Bool.not_eq_false, Bool.not_eq_true', Bool.not_eq_false', Bool.and_eq_true, Bool.or_eq_true, Bool.and_eq_false_iff, Bool.or_eq_false_iff, Int.not_lt, Int.not_le, gt_iff_lt, ge_iff_le, ne_eq, Decidable.not_not, beq_iff_eq] at hc)
                        have hc5 := hc; clear hc
                        refine cw_seq fun K57 hK57 => ?_
                        refine cw_region ?_
                        refine wl_op rfl rfl (ow_vr (vr_move (v := .int .i64 n) rfl) ?_)
                        refine wl_op rfl rfl (ow_vr (vr_move (v := .int .i64 nx) rfl) ?_)
                        refine wl_op rfl rfl (ow_vr (vr_move (v := .int .i64 h) rfl) ?_)
                        first | (refine wl_op rfl rfl (ow_vr (vr_subi rfl rfl (by unfold inI64; omega)) ?_)) | (refine wl_op rfl rfl (ow_vr (vr_sub rfl rfl) ?_))
                        first | (refine wl_op rfl rfl (ow_vr (vr_subi rfl rfl (by unfold inI64; omega)) ?_)) | (refine wl_op rfl rfl (ow_vr (vr_sub rfl rfl) ?_))
                        first | (refine wl_op rfl rfl (ow_vr (vr_fieldAddr fo_40_3 rfl) ?_)) | (refine wl_op rfl rfl (ow_vr (vr_fieldAddrV fo_40_3 rfl (by first | assumption | (refine Own.view ?_ (by assumption); exact fun _ => rfl) | exact OwnB.view (by assumption)) (by first | omega | (simp <;> omega))) ?_))
                        refine wl_op rfl rfl (ow_lr (S := Sat _ _) (lr_load1 Tryz.underlying28 rfl rfl (by first | exact Has.here | exact Has.there (Has.here) | exact Has.there (Has.there (Has.here)) | exact Has.there (Has.there (Has.there (Has.here))) | exact Has.there (Has.there (Has.there (Has.there (Has.here)))) | exact Has.there (Has.there (Has.there (Has.there (Has.there (Has.here))))) | exact Has.there (Has.there (Has.there (Has.there (Has.there (Has.there (Has.here)))))) | exact Has.there (Has.there (Has.there (Has.there (Has.there (Has.there (Has.there (Has.here)))))))) rfl) hS ?_)
                        first | (refine wl_op rfl rfl (ow_vr (vr_len_sl Tryz.underlying28 rfl) ?_)) | (refine wl_op rfl rfl (ow_vr (vr_len_v Tryz.underlying28 rfl (by first | assumption | (refine Own.view ?_ (by assumption); exact fun _ => rfl) | exact OwnB.view (by assumption))) ?_))
                        first | (refine wl_op rfl rfl (ow_vr (vr_addi rfl rfl (by unfold inI64; omega)) ?_)) | (refine wl_op rfl rfl (ow_vr (vr_add rfl rfl) ?_))
                        refine wl_op rfl rfl (ow_vr (vr_lss rfl rfl) ?_)
                        refine wl_op rfl rfl (ow_vr (vr_assign (v := .bool _) rfl) ?_)
                        refine wl_nil ?_
                        refine hK57 _ _ ?_
                        refine cw_cond rfl rfl (fun hc => ?_) (fun hc => ?_)
                        · (try simp only [decide_eq_true_eq, decide_eq_false_iff_not, Bool.not_eq_true, Bool.not_eq_false, Bool.not_eq_true', Bool.not_eq_false', Bool.and_eq_true, Bool.or_eq_true, Bool.and_eq_false_iff, Bool.or_eq_false_iff, Int.not_lt, Int.not_le, gt_iff_lt, ge_iff_le, ne_eq, Decidable.not_not, beq_iff_eq] at hc)
                          have hc6 := hc; clear hc
                          refine cw_region ?_
                          refine wl_op rfl rfl (ow_vr (vr_assign (v := .int .i64 5) rfl) ?_)
                          refine wl_nil ?_
                          refine hJK35 _ _ ⟨_, _, (reb (reb (reb (reb (reb (reb (reb (reb (reb (reb (reb (reb (reb (reb rfl rfl) rfl) rfl) rfl) rfl) rfl) rfl) rfl) rfl) rfl) rfl) rfl) rfl) rfl), ?_, hS⟩
                          rcases hcase with ⟨f1, f2⟩ | ⟨f1, f2, f3⟩ | ⟨f1, f2, f3, f4, ⟨f5, f6, _⟩ | ⟨f5, f6, _⟩⟩ <;> first | (rw [f2]; done) | (rw [f3]; done) | exact f5.symm | (exfalso; first | omega | (rw [f1] at hc5; cases hc5; done) | (rw [f6] at hc7; cases hc7; done))
                        · (try simp only [decide_eq_true_eq, decide_eq_false_iff_not, Bool.not_eq_true, Bool.not_eq_false, Bool.not_eq_true', Bool.not_eq_false', Bool.and_eq_true, Bool.or_eq_true, Bool.and_eq_false_iff, Bool.or_eq_false_iff, Int.not_lt, Int.not_le, gt_iff_lt, ge_iff_le, ne_eq, Decidable.not_not, beq_iff_eq] at hc)
                          have hc6 := hc; clear hc
                          refine cw_seq fun K58 hK58 => ?_
                          replace hS := hS.front1
                          refine cw_region ?_
                          refine wl_op rfl rfl (ow_vr (vr_move (v := (ptr p)) rfl) ?_)
                          refine wl_op rfl rfl (ow_fn (vs := [(ptr p)]) en_10 rfl hS (disk_On hd1) ?_)
                          clear hS; rintro v113 _ w ⟨rfl, rfl⟩ hS; (try simp only [List.cons_append, List.nil_append] at hS)
                          refine wl_op rfl rfl (ow_vr (vr_not rfl) ?_)
                          refine wl_op rfl rfl (ow_vr (vr_assign (v := .bool _) rfl) ?_)
                          refine wl_nil ?_
                          replace hS := hS.front1
                          refine hK58 _ _ ?_
                          refine cw_cond rfl rfl (fun hc => ?_) (fun hc => ?_)
                          · (try simp only [decide_eq_true_eq, decide_eq_false_iff_not, Bool.not_eq_true, Bool.not_eq_false, Bool.not_eq_true', Bool.not_eq_false', Bool.and_eq_true, Bool.or_eq_true, Bool.and_eq_false_iff, Bool.or_eq_false_iff, Int.not_lt, Int.not_le, gt_iff_lt, ge_iff_le, ne_eq, Decidable.not_not, beq_iff_eq] at hc)
                            have hc7 := hc; clear hc
                            refine cw_region ?_
                            refine wl_op rfl rfl (ow_vr (vr_assign (v := .int .i64 3) rfl) ?_)
                            refine wl_nil ?_
                            refine hJK35 _ _ ⟨_, _, (reb (reb (reb (reb (reb (reb (reb (reb (reb (reb (reb (reb (reb (reb rfl rfl) rfl) rfl) rfl) rfl) rfl) rfl) rfl) rfl) rfl) rfl) rfl) rfl) rfl), ?_, hS⟩
                            rcases hcase with ⟨f1, f2⟩ | ⟨f1, f2, f3⟩ | ⟨f1, f2, f3, f4, ⟨f5, f6, _⟩ | ⟨f5, f6, _⟩⟩ <;> first | (rw [f2]; done) | (rw [f3]; done) | exact f5.symm | (exfalso; first | omega | (rw [f1] at hc5; cases hc5; done) | (rw [f6] at hc7; cases hc7; done))
                          · (try simp only [decide_eq_true_eq, decide_eq_false_iff_not, Bool.not_eq_true, Bool.not_eq_false, Bool.not_eq_true', Bool.not_eq_false', Bool.and_eq_true, Bool.or_eq_true, Bool.and_eq_false_iff, Bool.or_eq_false_iff, Int.not_lt, Int.not_le, gt_iff_lt, ge_iff_le, ne_eq, Decidable.not_not, beq_iff_eq] at hc)
                            have hc7 := hc; clear hc
                            refine cw_skip ?_
                            refine hJK35 _ _ ⟨_, _, (reb (reb (reb (reb (reb (reb (reb (reb (reb (reb (reb (reb (reb (reb rfl rfl) rfl) rfl) rfl) rfl) rfl) rfl) rfl) rfl) rfl) rfl) rfl) rfl) rfl), ?_, hS⟩
                            rcases hcase with ⟨f1, f2⟩ | ⟨f1, f2, f3⟩ | ⟨f1, f2, f3, f4, ⟨f5, f6, _⟩ | ⟨f5, f6, _⟩⟩ <;> first | (rw [f2]; done) | (rw [f3]; done) | exact f5.symm | (exfalso; first | omega | (rw [f1] at hc5; cases hc5; done) | (rw [f6] at hc7; cases hc7; done))
                    · (try simp only [decide_eq_true_eq, decide_eq_false_iff_not, Bool.not_eq_true, Bool.not_eq_false, Bool.not_eq_true', Bool.not_eq_false', Bool.and_eq_true, Bool.or_eq_true, Bool.and_eq_false_iff, Bool.or_eq_false_iff, Int.not_lt, Int.not_le, gt_iff_lt, ge_iff_le, ne_eq, Decidable.not_not, beq_iff_eq] at hc)
                      have hk1 := hc; clear hc
                      refine cw_seq fun K59 hK59 => ?_
                      refine cw_region ?_
                      refine wl_op rfl rfl (ow_vr (vr_eql rfl rfl) ?_)
                      refine wl_op rfl rfl (ow_vr (vr_assign (v := .bool _) rfl) ?_)
                      refine wl_nil ?_
                      refine hK59 _ _ ?_
                      refine cw_cond rfl rfl (fun hc => ?_) (fun hc => ?_)
                      · (try simp only [decide_eq_true_eq, decide_eq_false_iff_not, Bool.not_eq_true, Bool.not_eq_false, Bool.not_eq_true', Bool.not_eq_false', Bool.and_eq_true, Bool.or_eq_true, Bool.and_eq_false_iff, Bool.or_eq_false_iff, Int.not_lt, Int.not_le, gt_iff_lt, ge_iff_le, ne_eq, Decidable.not_not, beq_iff_eq] at hc)
                        have hk2 := hc; clear hc
                        refine cw_seq fun K60 hK60 => ?_
                        refine cw_region ?_
                        refine wl_op rfl rfl (ow_vr (vr_move (v := .int .i64 ep) rfl) ?_)
                        first | (refine wl_op rfl rfl (ow_vr (vr_addi rfl rfl (by unfold inI64; omega)) ?_)) | (refine wl_op rfl rfl (ow_vr (vr_add rfl rfl) ?_))
                        refine wl_op rfl rfl (ow_vr (vr_assign (v := .int .i64 _) rfl) ?_)
                        refine wl_nil ?_
                        refine hK60 _ _ ?_
                        refine cw_seq fun K61 hK61 => ?_
                        have hJK61 : ∀ f w, (∃ (wv : Int) (g : Nat → Value), f = (upd (upd (upd (upd (upd (upd (upd (upd (upd (upd (upd (upd g 0 (.int .i64 n)) 1 (.int .i64 h)) 2 (v)) 7 (ptr p)) 8 (.int .i64 ep)) 9 (ptr q)) 10 (.int .i64 nx)) 11 (va)) 12 (ptr b64)) 13 (.int .i64 (k : Int))) 14 (ptr b14)) 21 (.int .i64 wv)) ∧ (True) ∧ Sat E ([(b14, .cells [.int .i64 kd, .int .i64 en, .int .i64 ee, .slice aL cs.length cL, .slice aK ks.length cK].toArray 40 (0, 0))] :: loopC q p ⟨3, n, h, nx, ep⟩ :: Δd :: Da :: bookC b64 (.slice none 0 0) (.slice none 0 0) (.slice none 0 0) (.slice none 0 0) vb vw (.slice none 0 0) (.slice none 0 0) :: K :: F) w) → K61 f w := by
                          clear hS; rintro f w ⟨wv, g, rfl, hj53, hS⟩
                          refine hK61 _ _ ?_
                          refine cw_seq fun K62 hK62 => ?_
                          have hJK62 : ∀ f w, (∃ (mb : Bool) (g : Nat → Value), f = (upd (upd (upd (upd (upd (upd (upd (upd (upd (upd (upd (upd (upd g 0 (.int .i64 n)) 1 (.int .i64 h)) 2 (v)) 7 (ptr p)) 8 (.int .i64 ep)) 9 (ptr q)) 10 (.int .i64 nx)) 11 (va)) 12 (ptr b64)) 13 (.int .i64 (k : Int))) 14 (ptr b14)) 21 (.int .i64 wv)) 22 (.bool mb)) ∧ (mb = true ↔ (ep < wv ∧ wv < 1000000000)) ∧ Sat E ([(b14, .cells [.int .i64 kd, .int .i64 en, .int .i64 ee, .slice aL cs.length cL, .slice aK ks.length cK].toArray 40 (0, 0))] :: loopC q p ⟨3, n, h, nx, ep⟩ :: Δd :: Da :: bookC b64 (.slice none 0 0) (.slice none 0 0) (.slice none 0 0) (.slice none 0 0) vb vw (.slice none 0 0) (.slice none 0 0) :: K :: F) w) → K62 f w := by
                            clear hS; rintro f w ⟨mb, g, rfl, hj54, hS⟩
                            obtain ⟨cu, hcu⟩ : ∃ cu, cutL ⟨3, n, h, nx, ep⟩ wv = cu := ⟨_, rfl⟩
                            have hCu := loop_Cut q p ⟨3, n, h, nx, ep⟩ wv
                            rw [hcu] at hCu
                            have hcY1 : mb = true → cu = (0, ⟨3, n, nx, nx, wv⟩) := fun hm => by rw [← hcu, cut_to (hj54.1 hm).1 (hj54.1 hm).2]
                            have hcN1 : mb = false → cu = (1, ⟨3, n, h, nx, ep⟩) := fun hm => by
                              rw [← hcu, cutL, if_pos]
                              have : ¬ (ep < wv ∧ wv < 1000000000) := fun h5 => by rw [hj54.2 h5] at hm; cases hm
                              simp only; omega
                            have hcY : mb = true → cu.2 = ⟨3, n, nx, nx, wv⟩ := fun hm => by rw [hcY1 hm]
                            have hcN : mb = false → cu.2 = ⟨3, n, h, nx, ep⟩ := fun hm => by rw [hcN1 hm]
                            have hIc : mb = true → LogI d ⟨3, n, nx, nx, wv⟩ [] [] := fun hm => hI.cut (hj54.1 hm).1
                            have hne : (!(decide (cu.1 = 0) == mb)) = false := by
                              cases hm : mb with
                              | true => rw [hcY1 hm]; rfl
                              | false => rw [hcN1 hm]; rfl
                            replace hS := hS.front1
                            refine hK62 _ _ ?_
                            refine cw_seq fun K63 hK63 => ?_
                            refine cw_seq fun K64 hK64 => ?_
                            refine cw_region ?_
                            refine wl_op rfl rfl (ow_vr (vr_move (v := (ptr q)) rfl) ?_)
                            refine wl_op rfl rfl (ow_vr (vr_move (v := .int .i64 wv) rfl) ?_)
                            refine wl_op rfl rfl (ow_fn (vs := [(ptr q), .int .i64 wv]) en_15 rfl hS (hCu) ?_)
                            clear hS; rintro v228 _ w ⟨rfl, rfl⟩ hS; (try simp only [List.cons_append, List.nil_append] at hS)
                            refine wl_op rfl rfl (ow_vr (vr_eql rfl rfl) ?_)
                            refine wl_op rfl rfl (ow_vr (vr_move (v := .bool mb) rfl) ?_)
                            refine wl_op rfl rfl (ow_vr (vr_neqb Tryz.underlying4 rfl rfl) ?_)
                            refine wl_nil ?_
                            replace hS := hS.front1
                            refine hK64 _ _ ?_
                            refine cw_cond_f rfl rfl (hne) ?_
                            refine cw_skip ?_
                            refine hK63 _ _ ?_
                            refine cw_seq fun K65 hK65 => ?_
                            refine cw_region ?_
                            refine wl_op rfl rfl (ow_vr (vr_move (v := .bool mb) rfl) ?_)
                            refine wl_nil ?_
                            refine hK65 _ _ ?_
                            refine cw_cond rfl rfl (fun hc => ?_) (fun hc => ?_)
                            · (try simp only [decide_eq_true_eq, decide_eq_false_iff_not, Bool.not_eq_true, Bool.not_eq_false, Bool.not_eq_true', Bool.not_eq_false', Bool.and_eq_true, Bool.or_eq_true, Bool.and_eq_false_iff, Bool.or_eq_false_iff, Int.not_lt, Int.not_le, gt_iff_lt, ge_iff_le, ne_eq, Decidable.not_not, beq_iff_eq] at hc)
                              have hmb := hc; clear hc
                              refine cw_region ?_
                              refine wl_op rfl rfl (ow_vr (vr_move (v := .int .i64 nx) rfl) ?_)
                              refine wl_op rfl rfl (ow_vr (vr_move (v := .int .i64 wv) rfl) ?_)
                              refine wl_op rfl rfl (ow_vr (vr_assign (v := .int .i64 nx) rfl) ?_)
                              refine wl_op rfl rfl (ow_vr (vr_assign (v := .slice none 0 0) rfl) ?_)
                              refine wl_op rfl rfl (ow_vr (vr_assign (v := .int .i64 wv) rfl) ?_)
                              refine wl_nil ?_
                              replace hS := hS.lp7
                              refine hJK28 _ _ ⟨q, nx, nx, wv, cu.2, d, Δd, [], .slice none 0 0, [], vb, vw, xss, I, K, _, (reb (reb (reb (reb (reb (reb (reb (reb (reb (reb rfl rfl) rfl) rfl) rfl) rfl) rfl) rfl) rfl) rfl) rfl), ?_, hS⟩
                              first | exact ⟨hXL, hd1, (hfin h3b).1, (hfin h3b).2.1, (hfin h3b).2.2.1, hep, hep2, by omega, hoa1, by have := (hfin h3b).2.2.2; omega, hkp⟩ | exact ⟨rfl, hd3, ⟨[], haft nx3 (ep + 1) (by omega) (by omega) (by omega)⟩, hwd3, hdn3, by omega, by omega, by omega, Own.nil, by simp, hkp⟩ | exact ⟨hcY hmb, hd, ⟨[], hIc hmb⟩, hwd, hdn, by have := hj54.1 hmb; omega, (hj54.1 hmb).2, by omega, Own.nil, by simp, hkp⟩ | exact ⟨hcN (by simpa using hmb), hd, ⟨es, hI⟩, hwd, hdn, hep, hep2, by omega, hoa, by omega, hkp⟩ | exact ⟨rfl, hd6, ⟨es, hI6⟩, hwd6, hdn, hep, by omega, by omega, hoa, by omega, hkp'⟩ | exact ⟨rfl, hd7, ⟨es, hI.arm _ _⟩, hwd.arm _ (by omega), hdn, hep, hep2, by omega, hoa, by omega, hkp⟩ | exact ⟨rfl, hd, ⟨es, hI⟩, hwd, hdn, hep, hep2, by omega, hoa, by omega, hkp⟩
                            · (try simp only [decide_eq_true_eq, decide_eq_false_iff_not, Bool.not_eq_true, Bool.not_eq_false, Bool.not_eq_true', Bool.not_eq_false', Bool.and_eq_true, Bool.or_eq_true, Bool.and_eq_false_iff, Bool.or_eq_false_iff, Int.not_lt, Int.not_le, gt_iff_lt, ge_iff_le, ne_eq, Decidable.not_not, beq_iff_eq] at hc)
                              have hmb := hc; clear hc
                              refine cw_skip ?_
                              refine hJK28 _ _ ⟨q, h, nx, ep, cu.2, d, Δd, all, va, Da, vb, vw, xss, I, K, _, (reb (reb (reb (reb (reb (reb (reb (reb (reb (reb rfl rfl) rfl) rfl) rfl) rfl) rfl) rfl) rfl) rfl) rfl), ?_, hS⟩
                              first | exact ⟨hXL, hd1, (hfin h3b).1, (hfin h3b).2.1, (hfin h3b).2.2.1, hep, hep2, by omega, hoa1, by have := (hfin h3b).2.2.2; omega, hkp⟩ | exact ⟨rfl, hd3, ⟨[], haft nx3 (ep + 1) (by omega) (by omega) (by omega)⟩, hwd3, hdn3, by omega, by omega, by omega, Own.nil, by simp, hkp⟩ | exact ⟨hcY hmb, hd, ⟨[], hIc hmb⟩, hwd, hdn, by have := hj54.1 hmb; omega, (hj54.1 hmb).2, by omega, Own.nil, by simp, hkp⟩ | exact ⟨hcN (by simpa using hmb), hd, ⟨es, hI⟩, hwd, hdn, hep, hep2, by omega, hoa, by omega, hkp⟩ | exact ⟨rfl, hd6, ⟨es, hI6⟩, hwd6, hdn, hep, by omega, by omega, hoa, by omega, hkp'⟩ | exact ⟨rfl, hd7, ⟨es, hI.arm _ _⟩, hwd.arm _ (by omega), hdn, hep, hep2, by omega, hoa, by omega, hkp⟩ | exact ⟨rfl, hd, ⟨es, hI⟩, hwd, hdn, hep, hep2, by omega, hoa, by omega, hkp⟩
                          refine cw_region ?_
                          refine wl_op rfl rfl (ow_vr (vr_move (v := .int .i64 wv) rfl) ?_)
                          refine wl_op rfl rfl (ow_vr (vr_move (v := .int .i64 ep) rfl) ?_)
                          refine wl_op rfl rfl (ow_vr (vr_gtr rfl rfl) ?_)
                          refine wl_op rfl rfl (ow_vr (vr_move (v := .bool _) rfl) ?_)
                          refine wl_split 222 rfl (fun hc => ?_) (fun hc => ?_)
                          · (try simp only [decide_eq_true_eq, decide_eq_false_iff_not, Bool.not_eq_true, Bool.not_eq_false, Bool.not_eq_true', Bool.not_eq_false', Bool.and_eq_true, Bool.or_eq_true, Bool.and_eq_false_iff, Bool.or_eq_false_iff, Int.not_lt, Int.not_le, gt_iff_lt, ge_iff_le, ne_eq, Decidable.not_not, beq_iff_eq] at hc)
                            have hg222 := hc; clear hc
                            refine wl_yes rfl rfl rfl rfl rfl (ow_vr (vr_move (v := .int .i64 wv) rfl) ?_)
                            refine wl_yes rfl rfl rfl rfl rfl (ow_vr (vr_lss rfl rfl) ?_)
                            refine wl_op rfl rfl (ow_vr (vr_pick (b := true) (v := .bool _) rfl rfl) ?_)
                            refine wl_op rfl rfl (ow_vr (vr_assign (v := .bool _) rfl) ?_)
                            refine wl_nil ?_
                            refine hJK62 _ _ ⟨_, _, (reb (reb (reb (reb (reb (reb (reb (reb (reb (reb (reb (reb (reb rfl rfl) rfl) rfl) rfl) rfl) rfl) rfl) rfl) rfl) rfl) rfl) rfl) rfl), ?_, hS⟩
                            first | (simp; omega) | (simp_all; done) | omega
                          · (try simp only [decide_eq_true_eq, decide_eq_false_iff_not, Bool.not_eq_true, Bool.not_eq_false, Bool.not_eq_true', Bool.not_eq_false', Bool.and_eq_true, Bool.or_eq_true, Bool.and_eq_false_iff, Bool.or_eq_false_iff, Int.not_lt, Int.not_le, gt_iff_lt, ge_iff_le, ne_eq, Decidable.not_not, beq_iff_eq] at hc)
                            have hg222 := hc; clear hc
                            refine wl_noD rfl rfl rfl rfl rfl rfl ?_
                            refine wl_noD rfl rfl rfl rfl rfl rfl ?_
                            refine wl_op rfl rfl (ow_vr (vr_pick (b := false) (v := .bool _) rfl rfl) ?_)
                            refine wl_op rfl rfl (ow_vr (vr_assign (v := .bool _) rfl) ?_)
                            refine wl_nil ?_
                            refine hJK62 _ _ ⟨_, _, (reb (reb (reb (reb (reb (reb (reb (reb (reb (reb (reb (reb (reb rfl rfl) rfl) rfl) rfl) rfl) rfl) rfl) rfl) rfl) rfl) rfl) rfl) rfl), ?_, hS⟩
                            first | (simp; omega) | (simp_all; done) | omega
                        refine cw_seq fun K66 hK66 => ?_
                        refine cw_region ?_
                        first | (refine wl_op rfl rfl (ow_vr (vr_fieldAddr fo_40_2 rfl) ?_)) | (refine wl_op rfl rfl (ow_vr (vr_fieldAddrV fo_40_2 rfl (by first | assumption | (refine Own.view ?_ (by assumption); exact fun _ => rfl) | exact OwnB.view (by assumption)) (by first | omega | (simp <;> omega))) ?_))
                        refine wl_op rfl rfl (ow_lr (S := Sat _ _) (lr_load1 Tryz.underlying3 rfl rfl (by first | exact Has.here | exact Has.there (Has.here) | exact Has.there (Has.there (Has.here)) | exact Has.there (Has.there (Has.there (Has.here))) | exact Has.there (Has.there (Has.there (Has.there (Has.here)))) | exact Has.there (Has.there (Has.there (Has.there (Has.there (Has.here))))) | exact Has.there (Has.there (Has.there (Has.there (Has.there (Has.there (Has.here)))))) | exact Has.there (Has.there (Has.there (Has.there (Has.there (Has.there (Has.there (Has.here)))))))) rfl) hS ?_)
                        refine wl_op rfl rfl (ow_vr (vr_gtr rfl rfl) ?_)
                        refine wl_nil ?_
                        refine hK66 _ _ ?_
                        refine cw_cond rfl rfl (fun hc => ?_) (fun hc => ?_)
                        · (try simp only [decide_eq_true_eq, decide_eq_false_iff_not, Bool.not_eq_true, Bool.not_eq_false, Bool.not_eq_true', Bool.not_eq_false', Bool.and_eq_true, Bool.or_eq_true, Bool.and_eq_false_iff, Bool.or_eq_false_iff, Int.not_lt, Int.not_le, gt_iff_lt, ge_iff_le, ne_eq, Decidable.not_not, beq_iff_eq] at hc)
                          have hc17 := hc; clear hc
                          refine cw_region ?_
                          first | (refine wl_op rfl rfl (ow_vr (vr_fieldAddr fo_40_2 rfl) ?_)) | (refine wl_op rfl rfl (ow_vr (vr_fieldAddrV fo_40_2 rfl (by first | assumption | (refine Own.view ?_ (by assumption); exact fun _ => rfl) | exact OwnB.view (by assumption)) (by first | omega | (simp <;> omega))) ?_))
                          refine wl_op rfl rfl (ow_lr (S := Sat _ _) (lr_load1 Tryz.underlying3 rfl rfl (by first | exact Has.here | exact Has.there (Has.here) | exact Has.there (Has.there (Has.here)) | exact Has.there (Has.there (Has.there (Has.here))) | exact Has.there (Has.there (Has.there (Has.there (Has.here)))) | exact Has.there (Has.there (Has.there (Has.there (Has.there (Has.here))))) | exact Has.there (Has.there (Has.there (Has.there (Has.there (Has.there (Has.here)))))) | exact Has.there (Has.there (Has.there (Has.there (Has.there (Has.there (Has.there (Has.here)))))))) rfl) hS ?_)
                          refine wl_op rfl rfl (ow_vr (vr_assign (v := .int .i64 _) rfl) ?_)
                          refine wl_nil ?_
                          refine hJK61 _ _ ⟨_, _, (reb (reb (reb (reb (reb (reb (reb (reb (reb (reb (reb (reb rfl rfl) rfl) rfl) rfl) rfl) rfl) rfl) rfl) rfl) rfl) rfl) rfl), ?_, hS⟩
                          trivial
                        · (try simp only [decide_eq_true_eq, decide_eq_false_iff_not, Bool.not_eq_true, Bool.not_eq_false, Bool.not_eq_true', Bool.not_eq_false', Bool.and_eq_true, Bool.or_eq_true, Bool.and_eq_false_iff, Bool.or_eq_false_iff, Int.not_lt, Int.not_le, gt_iff_lt, ge_iff_le, ne_eq, Decidable.not_not, beq_iff_eq] at hc)
                          have hc17 := hc; clear hc
                          refine cw_skip ?_
                          refine hJK61 _ _ ⟨_, _, (reb (reb (reb (reb (reb (reb (reb (reb (reb (reb (reb (reb rfl rfl) rfl) rfl) rfl) rfl) rfl) rfl) rfl) rfl) rfl) rfl) rfl), ?_, hS⟩
                          trivial
                      · (try simp only [decide_eq_true_eq, decide_eq_false_iff_not, Bool.not_eq_true, Bool.not_eq_false, Bool.not_eq_true', Bool.not_eq_false', Bool.and_eq_true, Bool.or_eq_true, Bool.and_eq_false_iff, Bool.or_eq_false_iff, Int.not_lt, Int.not_le, gt_iff_lt, ge_iff_le, ne_eq, Decidable.not_not, beq_iff_eq] at hc)
                        have hk2 := hc; clear hc
                        refine cw_seq fun K67 hK67 => ?_
                        refine cw_region ?_
                        refine wl_op rfl rfl (ow_vr (vr_eql rfl rfl) ?_)
                        refine wl_op rfl rfl (ow_vr (vr_assign (v := .bool _) rfl) ?_)
                        refine wl_nil ?_
                        refine hK67 _ _ ?_
                        refine cw_cond rfl rfl (fun hc => ?_) (fun hc => ?_)
                        · (try simp only [decide_eq_true_eq, decide_eq_false_iff_not, Bool.not_eq_true, Bool.not_eq_false, Bool.not_eq_true', Bool.not_eq_false', Bool.and_eq_true, Bool.or_eq_true, Bool.and_eq_false_iff, Bool.or_eq_false_iff, Int.not_lt, Int.not_le, gt_iff_lt, ge_iff_le, ne_eq, Decidable.not_not, beq_iff_eq] at hc)
                          have hk3 := hc; clear hc
                          refine cw_seq fun K68 hK68 => ?_
                          refine cw_seq fun K69 hK69 => ?_
                          refine cw_region ?_
                          refine wl_op rfl rfl (ow_vr (vr_move (v := .int .i64 ep) rfl) ?_)
                          refine wl_op rfl rfl (ow_vr (vr_geq rfl rfl) ?_)
                          refine wl_nil ?_
                          refine hK69 _ _ ?_
                          refine cw_cond rfl rfl (fun hc => ?_) (fun hc => ?_)
                          · (try simp only [decide_eq_true_eq, decide_eq_false_iff_not, Bool.not_eq_true, Bool.not_eq_false, Bool.not_eq_true', Bool.not_eq_false', Bool.and_eq_true, Bool.or_eq_true, Bool.and_eq_false_iff, Bool.or_eq_false_iff, Int.not_lt, Int.not_le, gt_iff_lt, ge_iff_le, ne_eq, Decidable.not_not, beq_iff_eq] at hc)
                            have hc21 := hc; clear hc
                            refine cw_seq fun K70 hK70 => ?_
                            refine cw_region ?_
                            refine wl_op rfl rfl (ow_vr (vr_assign (v := .bool true) rfl) ?_)
                            refine wl_nil ?_
                            refine hK70 _ _ ?_
                            refine cw_ret ?_
                            refine thenF_ret (inB_ret (thenF_ret (inB_ret (thenF_ret (thenF_ret (inB_ret (thenF_ret (?_))))))))
                            refine ret_one (fn := Tryz.f3) (n := 331) (t := 6) (.inl rfl) rfl rfl ?_
                            exact ⟨[], ⟨rfl, rfl⟩, hS.tail1.tail1.tail1.tail1.tail1.tail1⟩
                          · (try simp only [decide_eq_true_eq, decide_eq_false_iff_not, Bool.not_eq_true, Bool.not_eq_false, Bool.not_eq_true', Bool.not_eq_false', Bool.and_eq_true, Bool.or_eq_true, Bool.and_eq_false_iff, Bool.or_eq_false_iff, Int.not_lt, Int.not_le, gt_iff_lt, ge_iff_le, ne_eq, Decidable.not_not, beq_iff_eq] at hc)
                            have hc21 := hc; clear hc
                            refine cw_skip ?_
                            refine hK68 _ _ ?_
                            refine cw_seq fun K71 hK71 => ?_
                            have hI6 := hI.crash ks
                            have hwd6 := hwd.crash ks
                            replace hS := hS.front2
                            refine cw_region ?_
                            refine wl_op rfl rfl (ow_vr (vr_move (v := (ptr p)) rfl) ?_)
                            first | (refine wl_op rfl rfl (ow_vr (vr_fieldAddr fo_40_4 rfl) ?_)) | (refine wl_op rfl rfl (ow_vr (vr_fieldAddrV fo_40_4 rfl (by first | assumption | (refine Own.view ?_ (by assumption); exact fun _ => rfl) | exact OwnB.view (by assumption)) (by first | omega | (simp <;> omega))) ?_))
                            refine wl_op rfl rfl (ow_lr (S := Sat _ _) (lr_load1 Tryz.underlying38 rfl rfl (by first | exact Has.here | exact Has.there (Has.here) | exact Has.there (Has.there (Has.here)) | exact Has.there (Has.there (Has.there (Has.here))) | exact Has.there (Has.there (Has.there (Has.there (Has.here)))) | exact Has.there (Has.there (Has.there (Has.there (Has.there (Has.here))))) | exact Has.there (Has.there (Has.there (Has.there (Has.there (Has.there (Has.here)))))) | exact Has.there (Has.there (Has.there (Has.there (Has.there (Has.there (Has.there (Has.here)))))))) rfl) hS ?_)
                            refine wl_op rfl rfl (ow_fnm (vs := [(ptr p), .slice _ _ _]) en_16 rfl hS (disk_CrashM hd (.slice aK ks.length cK) ks Δ hvK (by omega) (by rw [hI.waits]; simp)) (by repeat (first | exact needs0 | (refine needsC ?_ ?_; · (repeat (first | exact List.mem_cons_self | assumption | refine List.mem_cons_of_mem _ ?_))))) ?_)
                            clear hS; rintro v242 _ w ⟨rfl, Δ5, rfl, hd5⟩ hS; (try simp only [List.cons_append, List.nil_append] at hS)
                            refine wl_nil ?_
                            refine hK71 _ _ ?_
                            refine cw_seq fun K72 hK72 => ?_
                            refine cw_region ?_
                            refine wl_op rfl rfl (ow_vr (vr_move (v := (ptr p)) rfl) ?_)
                            refine wl_op rfl rfl (ow_fn (vs := [(ptr p)]) en_12 rfl hS (disk_Power hd5) ?_)
                            clear hS; rintro v244 _ w ⟨rfl, Δ6, rfl, hd6⟩ hS; (try simp only [List.cons_append, List.nil_append] at hS)
                            refine wl_nil ?_
                            refine hK72 _ _ ?_
                            refine cw_seq fun K73 hK73 => ?_
                            refine cw_region ?_
                            refine wl_op rfl rfl (ow_vr (vr_move (v := (ptr p)) rfl) ?_)
                            refine wl_op rfl rfl (ow_vr (vr_move (v := .int .i64 n) rfl) ?_)
                            refine wl_op rfl rfl (ow_vr (vr_move (v := .int .i64 h) rfl) ?_)
                            refine wl_op rfl rfl (ow_vr (vr_move (v := .int .i64 ep) rfl) ?_)
                            refine wl_op rfl rfl (ow_fn (vs := [(ptr p), .int .i64 _, .int .i64 n, .int .i64 h, .int .i64 ep]) en_13 rfl hS (loop_ScanI hd6 hwd6 hI6 (by simp only; omega) (by simp only; omega) (by simp only; omega)) ?_)
                            clear hS; rintro v250 _ w ⟨vT, DT, rfl, rfl, hoT⟩ hS; (try simp only [List.cons_append, List.nil_append] at hS)
                            refine wl_op rfl rfl (ow_vr (vr_move (v := .tuple _) rfl) ?_)
                            refine wl_op rfl rfl (ow_vr (vr_extract (v := vT) rfl rfl) ?_)
                            refine wl_op rfl rfl (ow_vr (vr_extract (v := .int .i64 _) rfl rfl) ?_)
                            refine wl_op rfl rfl (ow_vr (vr_extract (v := .int .i64 _) rfl rfl) ?_)
                            refine wl_op rfl rfl (ow_vr (vr_assign (v := vT) rfl) ?_)
                            refine wl_op rfl rfl (ow_vr (vr_assign (v := .int .i64 _) rfl) ?_)
                            refine wl_op rfl rfl (ow_vr (vr_assign (v := .int .i64 _) rfl) ?_)
                            refine wl_nil ?_
                            refine hK73 _ _ ?_
                            refine cw_seq fun K74 hK74 => ?_
                            replace hS := hS.lp8
                            refine cw_region ?_
                            refine wl_op rfl rfl (ow_vr (vr_move (v := (ptr b64)) rfl) ?_)
                            refine wl_op rfl rfl (ow_vr (vr_move (v := vT) rfl) ?_)
                            refine wl_op rfl rfl (ow_fn (vs := [(ptr b64), vT]) en_17 rfl hS (book_addChanges hkp all vT DT hoT (by omega)) ?_)
                            clear hS; rintro v256 _ w ⟨vb', vw', I', K', rfl, hkp', hvT, _, hI'⟩ hS; (try simp only [List.cons_append, List.nil_append] at hS)
                            refine wl_nil ?_
                            refine hK74 _ _ ?_
                            refine cw_seq fun K75 hK75 => ?_
                            refine cw_seq fun K76 hK76 => ?_
                            refine cw_region ?_
                            refine wl_op rfl rfl (ow_vr (vr_move (v := .int .i64 _) rfl) ?_)
                            refine wl_op rfl rfl (ow_vr (vr_neq rfl rfl) ?_)
                            refine wl_op rfl rfl (ow_vr (vr_move (v := .bool _) rfl) ?_)
                            refine wl_known 259 rfl (c := false) (rfl) ?_
                            refine wl_yes rfl rfl rfl rfl rfl (ow_vr (vr_move (v := .int .i64 _) rfl) ?_)
                            refine wl_yes rfl rfl rfl rfl rfl (ow_vr (vr_move (v := .int .i64 nx) rfl) ?_)
                            refine wl_yes rfl rfl rfl rfl rfl (ow_vr (vr_neq rfl rfl) ?_)
                            refine wl_op rfl rfl (ow_vr (vr_pick (b := false) (v := .bool _) rfl rfl) ?_)
                            refine wl_op rfl rfl (ow_vr (vr_move (v := .bool _) rfl) ?_)
                            refine wl_known 264 rfl (c := false) (by simp) ?_
                            refine wl_yes rfl rfl rfl rfl rfl (ow_vr (vr_move (v := vT) rfl) ?_)
                            refine wl_yes rfl rfl rfl rfl rfl (ow_vr (vr_move (v := va) rfl) ?_)
                            refine wl_yes rfl rfl rfl rfl rfl (ow_fng (vs := [vT, va]) en_14 rfl hS (book_SameChanges all all vT va K' Da (hvT.mono hI') (hoa.view (by exact fun _ => rfl)) (by omega) (by omega)) (by repeat (first | exact needs0 | (refine needsC ?_ ?_; · (repeat (first | exact List.mem_cons_self | assumption | refine List.mem_cons_of_mem _ ?_))))) ?_)
                            clear hS; rintro v267 _ w ⟨rfl, rfl⟩ hS; (try simp only [List.cons_append, List.nil_append] at hS)
                            refine wl_yes rfl rfl rfl rfl rfl (ow_vr (vr_not rfl) ?_)
                            refine wl_op rfl rfl (ow_vr (vr_pick (b := false) (v := .bool _) rfl rfl) ?_)
                            refine wl_nil ?_
                            refine hK76 _ _ ?_
                            refine cw_cond_f rfl rfl (by simp) ?_
                            refine cw_skip ?_
                            refine hK75 _ _ ?_
                            replace hS := hS.front2
                            refine cw_region ?_
                            refine wl_op rfl rfl (ow_vr (vr_move (v := (ptr p)) rfl) ?_)
                            refine wl_op rfl rfl (ow_vr (vr_move (v := .int .i64 n) rfl) ?_)
                            refine wl_op rfl rfl (ow_vr (vr_move (v := .int .i64 h) rfl) ?_)
                            refine wl_op rfl rfl (ow_vr (vr_move (v := .int .i64 nx) rfl) ?_)
                            refine wl_op rfl rfl (ow_vr (vr_move (v := .int .i64 ep) rfl) ?_)
                            refine wl_op rfl rfl (ow_fn (vs := [(ptr p), .int .i64 _, .int .i64 n, .int .i64 h, .int .i64 nx, .int .i64 ep]) en_6 rfl hS (loop_NewT hd6 hwd6 ⟨3, n, h, nx, ep⟩ (by show mayL d.n 3 n h nx ep = true; rw [hdn]; simp [mayL]; omega)) ?_)
                            clear hS; rintro v275 _ w ⟨q6, rfl, rfl⟩ hS; (try simp only [List.cons_append, List.nil_append] at hS)
                            refine wl_op rfl rfl (ow_vr (vr_assign (v := .pointer _) rfl) ?_)
                            refine wl_nil ?_
                            replace hS := hS.lp9
                            refine hJK28 _ _ ⟨q6, h, nx, ep, ⟨3, n, h, nx, ep⟩, { (crashD d ks).2 with off := false }, Δ6, all, va, Da, vb', vw', addB xss all, I', K', _, (reb (reb (reb (reb (reb (reb (reb (reb (reb (reb rfl rfl) rfl) rfl) rfl) rfl) rfl) rfl) rfl) rfl) rfl), ?_, hS⟩
                            first | exact ⟨hXL, hd1, (hfin h3b).1, (hfin h3b).2.1, (hfin h3b).2.2.1, hep, hep2, by omega, hoa1, by have := (hfin h3b).2.2.2; omega, hkp⟩ | exact ⟨rfl, hd3, ⟨[], haft nx3 (ep + 1) (by omega) (by omega) (by omega)⟩, hwd3, hdn3, by omega, by omega, by omega, Own.nil, by simp, hkp⟩ | exact ⟨hcY hmb, hd, ⟨[], hIc hmb⟩, hwd, hdn, by have := hj54.1 hmb; omega, (hj54.1 hmb).2, by omega, Own.nil, by simp, hkp⟩ | exact ⟨hcN (by simpa using hmb), hd, ⟨es, hI⟩, hwd, hdn, hep, hep2, by omega, hoa, by omega, hkp⟩ | exact ⟨rfl, hd6, ⟨es, hI6⟩, hwd6, hdn, hep, by omega, by omega, hoa, by omega, hkp'⟩ | exact ⟨rfl, hd7, ⟨es, hI.arm _ _⟩, hwd.arm _ (by omega), hdn, hep, hep2, by omega, hoa, by omega, hkp⟩ | exact ⟨rfl, hd, ⟨es, hI⟩, hwd, hdn, hep, hep2, by omega, hoa, by omega, hkp⟩
                        · (try simp only [decide_eq_true_eq, decide_eq_false_iff_not, Bool.not_eq_true, Bool.not_eq_false, Bool.not_eq_true', Bool.not_eq_false', Bool.and_eq_true, Bool.or_eq_true, Bool.and_eq_false_iff, Bool.or_eq_false_iff, Int.not_lt, Int.not_le, gt_iff_lt, ge_iff_le, ne_eq, Decidable.not_not, beq_iff_eq] at hc)
                          have hk3 := hc; clear hc
                          refine cw_seq fun K77 hK77 => ?_
                          refine cw_region ?_
                          refine wl_op rfl rfl (ow_vr (vr_eql rfl rfl) ?_)
                          refine wl_op rfl rfl (ow_vr (vr_assign (v := .bool _) rfl) ?_)
                          refine wl_nil ?_
                          refine hK77 _ _ ?_
                          refine cw_cond rfl rfl (fun hc => ?_) (fun hc => ?_)
                          · (try simp only [decide_eq_true_eq, decide_eq_false_iff_not, Bool.not_eq_true, Bool.not_eq_false, Bool.not_eq_true', Bool.not_eq_false', Bool.and_eq_true, Bool.or_eq_true, Bool.and_eq_false_iff, Bool.or_eq_false_iff, Int.not_lt, Int.not_le, gt_iff_lt, ge_iff_le, ne_eq, Decidable.not_not, beq_iff_eq] at hc)
                            have hk4 := hc; clear hc
                            replace hS := hS.front2
                            refine cw_region ?_
                            refine wl_op rfl rfl (ow_vr (vr_move (v := (ptr p)) rfl) ?_)
                            first | (refine wl_op rfl rfl (ow_vr (vr_fieldAddr fo_40_1 rfl) ?_)) | (refine wl_op rfl rfl (ow_vr (vr_fieldAddrV fo_40_1 rfl (by first | assumption | (refine Own.view ?_ (by assumption); exact fun _ => rfl) | exact OwnB.view (by assumption)) (by first | omega | (simp <;> omega))) ?_))
                            refine wl_op rfl rfl (ow_lr (S := Sat _ _) (lr_load1 Tryz.underlying3 rfl rfl (by first | exact Has.here | exact Has.there (Has.here) | exact Has.there (Has.there (Has.here)) | exact Has.there (Has.there (Has.there (Has.here))) | exact Has.there (Has.there (Has.there (Has.there (Has.here)))) | exact Has.there (Has.there (Has.there (Has.there (Has.there (Has.here))))) | exact Has.there (Has.there (Has.there (Has.there (Has.there (Has.there (Has.here)))))) | exact Has.there (Has.there (Has.there (Has.there (Has.there (Has.there (Has.there (Has.here)))))))) rfl) hS ?_)
                            first | (refine wl_op rfl rfl (ow_vr (vr_fieldAddr fo_40_4 rfl) ?_)) | (refine wl_op rfl rfl (ow_vr (vr_fieldAddrV fo_40_4 rfl (by first | assumption | (refine Own.view ?_ (by assumption); exact fun _ => rfl) | exact OwnB.view (by assumption)) (by first | omega | (simp <;> omega))) ?_))
                            refine wl_op rfl rfl (ow_lr (S := Sat _ _) (lr_load1 Tryz.underlying38 rfl rfl (by first | exact Has.here | exact Has.there (Has.here) | exact Has.there (Has.there (Has.here)) | exact Has.there (Has.there (Has.there (Has.here))) | exact Has.there (Has.there (Has.there (Has.there (Has.here)))) | exact Has.there (Has.there (Has.there (Has.there (Has.there (Has.here))))) | exact Has.there (Has.there (Has.there (Has.there (Has.there (Has.there (Has.here)))))) | exact Has.there (Has.there (Has.there (Has.there (Has.there (Has.there (Has.there (Has.here)))))))) rfl) hS ?_)
                            refine wl_op rfl rfl (ow_fnm (vs := [(ptr p), .int .i64 _, .slice _ _ _]) en_18 rfl hS (disk_Arm hd en (.slice aK ks.length cK) ks Δ hvK (by omega)) (by repeat (first | exact needs0 | (refine needsC ?_ ?_; · (repeat (first | exact List.mem_cons_self | assumption | refine List.mem_cons_of_mem _ ?_))))) ?_)
                            clear hS; rintro v283 _ w ⟨Δ7, rfl, hd7⟩ hS; (try simp only [List.cons_append, List.nil_append] at hS)
                            refine wl_nil ?_
                            replace hS := hS.front2.front2
                            refine hJK28 _ _ ⟨q, h, nx, ep, ⟨3, n, h, nx, ep⟩, armD d en ks, Δ7, all, va, Da, vb, vw, xss, I, K, _, (reb (reb (reb (reb (reb (reb (reb (reb (reb (reb rfl rfl) rfl) rfl) rfl) rfl) rfl) rfl) rfl) rfl) rfl), ?_, hS⟩
                            first | exact ⟨hXL, hd1, (hfin h3b).1, (hfin h3b).2.1, (hfin h3b).2.2.1, hep, hep2, by omega, hoa1, by have := (hfin h3b).2.2.2; omega, hkp⟩ | exact ⟨rfl, hd3, ⟨[], haft nx3 (ep + 1) (by omega) (by omega) (by omega)⟩, hwd3, hdn3, by omega, by omega, by omega, Own.nil, by simp, hkp⟩ | exact ⟨hcY hmb, hd, ⟨[], hIc hmb⟩, hwd, hdn, by have := hj54.1 hmb; omega, (hj54.1 hmb).2, by omega, Own.nil, by simp, hkp⟩ | exact ⟨hcN (by simpa using hmb), hd, ⟨es, hI⟩, hwd, hdn, hep, hep2, by omega, hoa, by omega, hkp⟩ | exact ⟨rfl, hd6, ⟨es, hI6⟩, hwd6, hdn, hep, by omega, by omega, hoa, by omega, hkp'⟩ | exact ⟨rfl, hd7, ⟨es, hI.arm _ _⟩, hwd.arm _ (by omega), hdn, hep, hep2, by omega, hoa, by omega, hkp⟩ | exact ⟨rfl, hd, ⟨es, hI⟩, hwd, hdn, hep, hep2, by omega, hoa, by omega, hkp⟩
                          · (try simp only [decide_eq_true_eq, decide_eq_false_iff_not, Bool.not_eq_true, Bool.not_eq_false, Bool.not_eq_true', Bool.not_eq_false', Bool.and_eq_true, Bool.or_eq_true, Bool.and_eq_false_iff, Bool.or_eq_false_iff, Int.not_lt, Int.not_le, gt_iff_lt, ge_iff_le, ne_eq, Decidable.not_not, beq_iff_eq] at hc)
                            have hk4 := hc; clear hc
                            refine cw_skip ?_
                            refine hJK28 _ _ ⟨q, h, nx, ep, ⟨3, n, h, nx, ep⟩, d, Δd, all, va, Da, vb, vw, xss, I, K, _, (reb (reb (reb (reb (reb (reb (reb (reb (reb (reb rfl rfl) rfl) rfl) rfl) rfl) rfl) rfl) rfl) rfl) rfl), ?_, hS⟩
                            first | exact ⟨hXL, hd1, (hfin h3b).1, (hfin h3b).2.1, (hfin h3b).2.2.1, hep, hep2, by omega, hoa1, by have := (hfin h3b).2.2.2; omega, hkp⟩ | exact ⟨rfl, hd3, ⟨[], haft nx3 (ep + 1) (by omega) (by omega) (by omega)⟩, hwd3, hdn3, by omega, by omega, by omega, Own.nil, by simp, hkp⟩ | exact ⟨hcY hmb, hd, ⟨[], hIc hmb⟩, hwd, hdn, by have := hj54.1 hmb; omega, (hj54.1 hmb).2, by omega, Own.nil, by simp, hkp⟩ | exact ⟨hcN (by simpa using hmb), hd, ⟨es, hI⟩, hwd, hdn, hep, hep2, by omega, hoa, by omega, hkp⟩ | exact ⟨rfl, hd6, ⟨es, hI6⟩, hwd6, hdn, hep, by omega, by omega, hoa, by omega, hkp'⟩ | exact ⟨rfl, hd7, ⟨es, hI.arm _ _⟩, hwd.arm _ (by omega), hdn, hep, hep2, by omega, hoa, by omega, hkp⟩ | exact ⟨rfl, hd, ⟨es, hI⟩, hwd, hdn, hep, hep2, by omega, hoa, by omega, hkp⟩
              · (try simp only [decide_eq_true_eq, decide_eq_false_iff_not, Bool.not_eq_true, Bool.not_eq_false, Bool.not_eq_true', Bool.not_eq_false', Bool.and_eq_true, Bool.or_eq_true, Bool.and_eq_false_iff, Bool.or_eq_false_iff, Int.not_lt, Int.not_le, gt_iff_lt, ge_iff_le, ne_eq, Decidable.not_not, beq_iff_eq] at hc)
                have hc2 := hc; clear hc
                refine cw_exit ?_
                refine hK18 _ _ ?_
                refine cw_seq fun K78 hK78 => ?_
                replace hS := hS.tail1.tail1.tail1
                refine cw_region ?_
                refine wl_op rfl rfl (ow_vr (vr_assign (v := .pointer none) rfl) ?_)
                refine wl_nil ?_
                refine hK78 _ _ ?_
                refine cw_seq fun K79 hK79 => ?_
                refine cw_region ?_
                refine wl_op rfl rfl (ow_vr (vr_move (v := .pointer _) rfl) ?_)
                refine wl_op rfl rfl (ow_fn (vs := [.pointer _, .slice _ _ _]) en_8 rfl hS (loop_Append0 _) ?_)
                clear hS; rintro v309 _ w ⟨rfl, rfl⟩ hS; (try simp only [List.cons_append, List.nil_append] at hS)
                refine wl_op rfl rfl (ow_vr (vr_eql rfl rfl) ?_)
                refine wl_op rfl rfl (ow_vr (vr_move (v := .bool _) rfl) ?_)
                refine wl_known 311 rfl (c := true) (rfl) ?_
                refine wl_yes rfl rfl rfl rfl rfl (ow_vr (vr_move (v := .pointer _) rfl) ?_)
                refine wl_yes rfl rfl rfl rfl rfl (ow_fn (vs := [.pointer _, .int .i64 _]) en_15 rfl hS (loop_Cut0 5) ?_)
                clear hS; rintro v313 _ w ⟨rfl, rfl⟩ hS; (try simp only [List.cons_append, List.nil_append] at hS)
                refine wl_yes rfl rfl rfl rfl rfl (ow_vr (vr_eql rfl rfl) ?_)
                refine wl_op rfl rfl (ow_vr (vr_pick (b := true) (v := .bool _) rfl rfl) ?_)
                refine wl_op rfl rfl (ow_vr (vr_move (v := .bool _) rfl) ?_)
                refine wl_known 316 rfl (c := true) (rfl) ?_
                refine wl_yes rfl rfl rfl rfl rfl (ow_vr (vr_move (v := .pointer _) rfl) ?_)
                refine wl_yes rfl rfl rfl rfl rfl (ow_fn (vs := [.pointer _]) en_21 rfl hS (loop_Room0) ?_)
                clear hS; rintro v318 _ w ⟨rfl, rfl⟩ hS; (try simp only [List.cons_append, List.nil_append] at hS)
                refine wl_yes rfl rfl rfl rfl rfl (ow_vr (vr_move (v := .pointer _) rfl) ?_)
                refine wl_yes rfl rfl rfl rfl rfl (ow_fn (vs := [.pointer _]) en_19 rfl hS (loop_Head0) ?_)
                clear hS; rintro v320 _ w ⟨rfl, rfl⟩ hS; (try simp only [List.cons_append, List.nil_append] at hS)
                first | (refine wl_yes rfl rfl rfl rfl rfl (ow_vr (vr_addi rfl rfl (by unfold inI64; omega)) ?_)) | (refine wl_yes rfl rfl rfl rfl rfl (ow_vr (vr_add rfl rfl) ?_))
                refine wl_yes rfl rfl rfl rfl rfl (ow_vr (vr_move (v := .pointer _) rfl) ?_)
                refine wl_yes rfl rfl rfl rfl rfl (ow_fn (vs := [.pointer _]) en_20 rfl hS (loop_Next0) ?_)
                clear hS; rintro v323 _ w ⟨rfl, rfl⟩ hS; (try simp only [List.cons_append, List.nil_append] at hS)
                first | (refine wl_yes rfl rfl rfl rfl rfl (ow_vr (vr_addi rfl rfl (by unfold inI64; omega)) ?_)) | (refine wl_yes rfl rfl rfl rfl rfl (ow_vr (vr_add rfl rfl) ?_))
                refine wl_yes rfl rfl rfl rfl rfl (ow_vr (vr_eql rfl rfl) ?_)
                refine wl_op rfl rfl (ow_vr (vr_pick (b := true) (v := .bool _) rfl rfl) ?_)
                refine wl_op rfl rfl (ow_vr (vr_move (v := .bool _) rfl) ?_)
                refine wl_known 327 rfl (c := true) (rfl) ?_
                refine wl_yes rfl rfl rfl rfl rfl (ow_vr (vr_move (v := (ptr b64)) rfl) ?_)
                replace hS := (Sat.nilc.2 (Sat.nilc.2 (Sat.nilc.2 hS))).perm (show List.Perm _ (bookC b64 (.slice none 0 0) (.slice none 0 0) (.slice none 0 0) (.slice none 0 0) vb vw (.slice none 0 0) (.slice none 0 0) :: [] :: [] :: K :: [] :: F).flatten from (by classical exact List.perm_iff_count.2 fun x => by simp only [List.cons_append, List.nil_append, List.flatten_cons, List.flatten_nil, List.flatten_append, List.count_append, List.append_nil, List.count_cons, List.count_nil] <;> omega))
                refine wl_yes rfl rfl rfl rfl rfl (ow_fn (vs := [(ptr b64)]) en_22 rfl hS (book_Apart Kept.none Kept.none hkp Kept.none) ?_)
                clear hS; rintro v329 _ w rfl hS; (try simp only [List.cons_append, List.nil_append] at hS)
                refine wl_op rfl rfl (ow_vr (vr_pick (b := true) (v := .bool _) rfl rfl) ?_)
                refine wl_op rfl rfl (ow_vr (vr_assign (v := .bool _) rfl) ?_)
                refine wl_nil ?_
                refine hK79 _ _ ?_
                refine cw_ret ?_
                refine ret_one (fn := Tryz.f3) (n := 331) (t := 6) (.inl rfl) rfl rfl ?_
                exact ⟨[], ⟨rfl, rfl⟩, (show Sat E F w from hS.sub (by rw [List.flatten_append]; exact List.sublist_append_right _ _))⟩
end Go.Proofs.YtjcagoighpmdkaaGreatDoor
