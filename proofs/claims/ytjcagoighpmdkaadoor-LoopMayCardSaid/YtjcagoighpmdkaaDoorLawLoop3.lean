/- LoopMay. -/
import Derived.Test.YtjcagoighpmdkaaDoorLawLoop2
namespace Go.Proofs.YtjcagoighpmdkaaDoor
open Go Go.RowKit
set_option linter.unusedVariables false
set_option linter.unusedSimpArgs false
theorem scan_new (m from_ k epoch : Int) : ∀ (t : Nat) (lsn : Int), scanGo (readD (newD m)) from_ k epoch t lsn = []
  | 0, lsn => rfl
  | t + 1, lsn => by
    have hz : ∀ x, readD (newD m) x = zeros32 := fun x => rfl
    rw [scanGo, hz, zeros_no, if_neg (by simp)]
theorem loop_ScanN {p : Nat} {Δ : Chunk} {m : Int} (hd : DiskAt p (newD m) Δ) (hwd : WfD (newD m)) (from_ k head epoch : Int) (hx : head ≤ 9223372036854775807) :
    Fn Tryd.prog 10 [ptr p, .int .i64 from_, .int .i64 k, .int .i64 head, .int .i64 epoch] [Δ] (fun u Δs => ∃ v D, u = .tuple #[v, .int .i64 (if mayL m from_ k head head epoch then head else 0), .int .i64 (if mayL m from_ k head head epoch then 0 else 1)] ∧ Δs = [D, Δ] ∧ Own 39 2 encC v [] D) := by
  cases hm : mayL m from_ k head head epoch with
  | true =>
    have h := loop_Scan hd hwd from_ k head epoch rfl hm (fun x => by show zeros32.length ≤ 1000; decide)
    rw [scan_new] at h
    refine h.mono ?_
    rintro u Δs ⟨v, D, rfl, rfl, ho⟩
    exact ⟨v, D, by simp [changesE, changesGo], rfl, ho⟩
  | false =>
    have h := loop_Scan0 hd hwd from_ k head epoch hx hm
    intro E F w hS
    refine (h E F w hS).mono ?_
    rintro u w' ⟨Δs, ⟨rfl, rfl⟩, hS'⟩
    exact ⟨[[], Δ], ⟨.slice none 0 0, [], rfl, rfl, Own.nil⟩, hS'.perm (by simp)⟩
attribute [local irreducible] actF WL CW OW PL SW VR LR yes Returns Fn
theorem loop_may (n from_ k head next epoch : Int) {G : Chunk} (hG : Glob G) (hxh : inI64 head) (hxn : inI64 next) :
    FnG Tryd.prog 3 [.int .i64 n, .int .i64 from_, .int .i64 k, .int .i64 head, .int .i64 next, .int .i64 epoch] [G] (fun u Δs => u = .bool true ∧ Δs = []) := by
  refine FnG.mk fun E F w hS hF => ?_
  have hFg : G ∈ F := hF _ (by simp)
  unfold inI64 at hxh hxn
  refine returns_enter Tryd.func3 rfl Tryd.ntmps3 rfl ?_
  refine cw_seq fun K1 hK1 => ?_
  refine cw_region ?_
  refine wl_op rfl rfl (ow_vr (vr_assign (v := .bool false) rfl) ?_)
  refine wl_nil ?_
  refine hK1 _ _ ?_
  refine cw_seq fun K2 hK2 => ?_
  refine cw_seq fun K3 hK3 => ?_
  refine cw_region ?_
  refine wl_op rfl rfl (ow_vr (vr_move (v := .int .i64 _) rfl) ?_)
  refine wl_op rfl rfl (ow_vr (vr_gtr rfl rfl) ?_)
  refine wl_op rfl rfl (ow_vr (vr_move (v := .bool _) rfl) ?_)
  refine wl_split 21 rfl (fun hc => ?_) (fun hc => ?_)
  · (try simp only [decide_eq_true_eq, decide_eq_false_iff_not, Bool.not_eq_true, Bool.not_eq_false, Bool.not_eq_true', Bool.not_eq_false', Bool.and_eq_true, Bool.or_eq_true, Bool.and_eq_false_iff, Bool.or_eq_false_iff, Int.not_lt, Int.not_le, gt_iff_lt, ge_iff_le, ne_eq, Decidable.not_not, beq_iff_eq] at hc)
    have hg21 := hc; clear hc
    refine wl_noD rfl rfl rfl rfl rfl rfl ?_
    refine wl_noD rfl rfl rfl rfl rfl rfl ?_
    refine wl_op rfl rfl (ow_vr (vr_pick (b := true) (v := .bool _) rfl rfl) ?_)
    refine wl_nil ?_
    refine hK3 _ _ ?_
    refine cw_cond_t rfl rfl (rfl) ?_
    refine cw_seq fun K4 hK4 => ?_
    refine cw_region ?_
    refine wl_op rfl rfl (ow_fng (vs := []) en_7 rfl hS (alive7 hG) (by repeat (first | exact needs0 | (refine needsC ?_ ?_; · (repeat (first | exact List.mem_cons_self | assumption | refine List.mem_cons_of_mem _ ?_))))) ?_)
    clear hS; rintro v25 _ w ⟨rfl, rfl⟩ hS; (try simp only [List.cons_append, List.nil_append] at hS)
    refine wl_op rfl rfl (ow_vr (vr_assign (v := .bool _) rfl) ?_)
    refine wl_nil ?_
    refine hK4 _ _ ?_
    refine cw_ret ?_
    refine thenF_ret (?_)
    refine ret_one (fn := Tryd.f3) (n := 131) (t := 12) (.inl rfl) rfl rfl ?_
    exact ⟨[], ⟨rfl, rfl⟩, hS⟩
  · (try simp only [decide_eq_true_eq, decide_eq_false_iff_not, Bool.not_eq_true, Bool.not_eq_false, Bool.not_eq_true', Bool.not_eq_false', Bool.and_eq_true, Bool.or_eq_true, Bool.and_eq_false_iff, Bool.or_eq_false_iff, Int.not_lt, Int.not_le, gt_iff_lt, ge_iff_le, ne_eq, Decidable.not_not, beq_iff_eq] at hc)
    have hg21 := hc; clear hc
    refine wl_yes rfl rfl rfl rfl rfl (ow_fng (vs := []) en_7 rfl hS (alive7 hG) (by repeat (first | exact needs0 | (refine needsC ?_ ?_; · (repeat (first | exact List.mem_cons_self | assumption | refine List.mem_cons_of_mem _ ?_))))) ?_)
    clear hS; rintro v22 _ w ⟨rfl, rfl⟩ hS; (try simp only [List.cons_append, List.nil_append] at hS)
    refine wl_yes rfl rfl rfl rfl rfl (ow_vr (vr_not rfl) ?_)
    refine wl_op rfl rfl (ow_vr (vr_pick (b := false) (v := .bool _) rfl rfl) ?_)
    refine wl_nil ?_
    refine hK3 _ _ ?_
    refine cw_cond rfl rfl (fun hc => ?_) (fun hc => ?_)
    · (try simp only [decide_eq_true_eq, decide_eq_false_iff_not, Bool.not_eq_true, Bool.not_eq_false, Bool.not_eq_true', Bool.not_eq_false', Bool.and_eq_true, Bool.or_eq_true, Bool.and_eq_false_iff, Bool.or_eq_false_iff, Int.not_lt, Int.not_le, gt_iff_lt, ge_iff_le, ne_eq, Decidable.not_not, beq_iff_eq] at hc)
      have hc0 := hc; clear hc
      refine cw_seq fun K5 hK5 => ?_
      refine cw_region ?_
      refine wl_op rfl rfl (ow_fng (vs := []) en_7 rfl hS (alive7 hG) (by repeat (first | exact needs0 | (refine needsC ?_ ?_; · (repeat (first | exact List.mem_cons_self | assumption | refine List.mem_cons_of_mem _ ?_))))) ?_)
      clear hS; rintro v25 _ w ⟨rfl, rfl⟩ hS; (try simp only [List.cons_append, List.nil_append] at hS)
      refine wl_op rfl rfl (ow_vr (vr_assign (v := .bool _) rfl) ?_)
      refine wl_nil ?_
      refine hK5 _ _ ?_
      refine cw_ret ?_
      refine thenF_ret (?_)
      refine ret_one (fn := Tryd.f3) (n := 131) (t := 12) (.inl rfl) rfl rfl ?_
      exact ⟨[], ⟨rfl, rfl⟩, hS⟩
    · (try simp only [decide_eq_true_eq, decide_eq_false_iff_not, Bool.not_eq_true, Bool.not_eq_false, Bool.not_eq_true', Bool.not_eq_false', Bool.and_eq_true, Bool.or_eq_true, Bool.and_eq_false_iff, Bool.or_eq_false_iff, Int.not_lt, Int.not_le, gt_iff_lt, ge_iff_le, ne_eq, Decidable.not_not, beq_iff_eq] at hc)
      have hc0 := hc; clear hc
      refine cw_skip ?_
      refine hK2 _ _ ?_
      refine cw_seq fun K6 hK6 => ?_
      obtain ⟨m, hm⟩ : ∃ m : Int, (if n < 0 then 0 else n) = m := ⟨_, rfl⟩
      have hm0 : 0 ≤ m ∧ m ≤ 100 := by rw [← hm]; split <;> omega
      have hnew := disk_New n
      rw [hm, if_neg (by omega)] at hnew
      have hc := Calm.new (n := m) (by omega) (by omega)
      refine cw_region ?_
      refine wl_op rfl rfl (ow_vr (vr_move (v := .int .i64 _) rfl) ?_)
      refine wl_op rfl rfl (ow_fn (vs := [.int .i64 _]) en_8 rfl hS (hnew) ?_)
      clear hS; rintro v27 _ w ⟨p, Δ0, rfl, rfl, hd0⟩ hS; (try simp only [List.cons_append, List.nil_append] at hS)
      refine wl_op rfl rfl (ow_vr (vr_assign (v := .pointer _) rfl) ?_)
      refine wl_nil ?_
      refine hK6 _ _ ?_
      refine cw_seq fun K7 hK7 => ?_
      replace hd0 : DiskAt p (newD m) Δ0 := hd0
      refine cw_region ?_
      refine wl_op rfl rfl (ow_vr (vr_move (v := .int .i64 _) rfl) ?_)
      refine wl_op rfl rfl (ow_vr (vr_as (v' := .int .i64 m) (vr_max2 rfl rfl) (congrArg (Value.int .i64) (by rw [← hm]))) ?_)
      refine wl_op rfl rfl (ow_vr (vr_as (v' := .int .i64 m) (vr_min2 rfl rfl) (congrArg (Value.int .i64) (by rw [if_neg (by omega)]))) ?_)
      refine wl_op rfl rfl (ow_vr (vr_assign (v := .int .i64 _) rfl) ?_)
      refine wl_nil ?_
      refine hK7 _ _ ?_
      refine cw_seq fun K8 hK8 => ?_
      have hJK8 : ∀ f w, (∃ (pb : Bool) (g : Nat → Value), f = (upd (upd (upd (upd (upd (upd (upd (upd g 0 (.int .i64 m)) 1 (.int .i64 from_)) 2 (.int .i64 k)) 3 (.int .i64 head)) 4 (.int .i64 next)) 5 (.int .i64 epoch)) 13 (ptr p)) 14 (.bool pb)) ∧ (pb = true ↔ (0 ≤ from_ ∧ 1 ≤ k ∧ from_ ≤ m ∧ k ≤ m - from_ ∧ 0 ≤ head ∧ 0 ≤ epoch ∧ epoch < 1000000000)) ∧ Sat E (Δ0 :: F) w) → K8 f w := by
        clear hS; rintro f w ⟨pb, g, rfl, hj6, hS⟩
        clear hnew
        refine hK8 _ _ ?_
        refine cw_seq fun K9 hK9 => ?_
        have hJK9 : ∀ f w, (∃ (mb : Bool) (g : Nat → Value), f = (upd (upd (upd (upd (upd (upd (upd (upd (upd g 0 (.int .i64 m)) 1 (.int .i64 from_)) 2 (.int .i64 k)) 3 (.int .i64 head)) 4 (.int .i64 next)) 5 (.int .i64 epoch)) 13 (ptr p)) 14 (.bool pb)) 15 (.bool mb)) ∧ (mb = true ↔ (pb = true ∧ head ≤ next ∧ next - head ≤ k ∧ next < 1000000000)) ∧ Sat E (Δ0 :: F) w) → K9 f w := by
          clear hS; rintro f w ⟨mb, g, rfl, hj7, hS⟩
          have hmb : mayL m from_ k head next epoch = mb := by rw [Bool.eq_iff_iff, hj7, hj6, mayL, decide_eq_true_eq]; constructor <;> (intro h; omega)
          have hpb : mayL m from_ k head head epoch = (pb && decide (head < 1000000000)) := by
            rw [Bool.eq_iff_iff, Bool.and_eq_true, hj6, mayL, decide_eq_true_eq, decide_eq_true_eq]; constructor <;> (intro h; omega)
          refine hK9 _ _ ?_
          refine cw_seq fun K10 hK10 => ?_
          refine cw_seq fun K11 hK11 => ?_
          refine cw_region ?_
          refine wl_op rfl rfl (ow_vr (vr_move (v := (ptr p)) rfl) ?_)
          refine wl_op rfl rfl (ow_vr (vr_move (v := .int .i64 from_) rfl) ?_)
          refine wl_op rfl rfl (ow_vr (vr_move (v := .int .i64 k) rfl) ?_)
          refine wl_op rfl rfl (ow_vr (vr_move (v := .int .i64 head) rfl) ?_)
          refine wl_op rfl rfl (ow_vr (vr_move (v := .int .i64 next) rfl) ?_)
          refine wl_op rfl rfl (ow_vr (vr_move (v := .int .i64 epoch) rfl) ?_)
          refine wl_op rfl rfl (ow_fn (vs := [(ptr p), .int .i64 from_, .int .i64 k, .int .i64 head, .int .i64 next, .int .i64 epoch]) en_9 rfl hS (loop_New hd0 hc.wf ⟨from_, k, head, next, epoch⟩ hxn.2) ?_)
          clear hS; rintro v84 _ w ⟨a, Dq, rfl, ha, rfl, _⟩ hS; (try simp only [List.cons_append, List.nil_append] at hS)
          refine wl_op rfl rfl (ow_vr (vr_nenil Tryd.underlying25 rfl) ?_)
          refine wl_op rfl rfl (ow_vr (vr_move (v := .bool mb) rfl) ?_)
          refine wl_op rfl rfl (ow_vr (vr_neqb Tryd.underlying4 rfl rfl) ?_)
          refine wl_op rfl rfl (ow_vr (vr_move (v := .bool _) rfl) ?_)
          refine wl_known 88 rfl (c := false) (by simp only [ha, newD, hmb]; simp) ?_
          refine wl_yes rfl rfl rfl rfl rfl (ow_fn (vs := [.pointer _, .int .i64 _, .int .i64 _, .int .i64 _, .int .i64 _, .int .i64 _]) en_9 rfl hS (loop_New0 ⟨0, 4, 0, 0, 1⟩) ?_)
          clear hS; rintro v89 _ w ⟨rfl, rfl⟩ hS; (try simp only [List.cons_append, List.nil_append] at hS)
          refine wl_yes rfl rfl rfl rfl rfl (ow_vr (vr_nenil Tryd.underlying25 rfl) ?_)
          refine wl_op rfl rfl (ow_vr (vr_pick (b := false) (v := .bool _) rfl rfl) ?_)
          refine wl_nil ?_
          refine hK11 _ _ ?_
          refine cw_cond_f rfl rfl (rfl) ?_
          refine cw_skip ?_
          refine hK10 _ _ ?_
          refine cw_seq fun K12 hK12 => ?_
          replace hS := hS.front1
          refine cw_region ?_
          refine wl_op rfl rfl (ow_vr (vr_move (v := (ptr p)) rfl) ?_)
          refine wl_op rfl rfl (ow_vr (vr_move (v := .int .i64 from_) rfl) ?_)
          refine wl_op rfl rfl (ow_vr (vr_move (v := .int .i64 k) rfl) ?_)
          refine wl_op rfl rfl (ow_vr (vr_move (v := .int .i64 head) rfl) ?_)
          refine wl_op rfl rfl (ow_vr (vr_move (v := .int .i64 epoch) rfl) ?_)
          refine wl_op rfl rfl (ow_fn (vs := [(ptr p), .int .i64 from_, .int .i64 k, .int .i64 head, .int .i64 epoch]) en_10 rfl hS (loop_ScanN hd0 hc.wf from_ k head epoch hxh.2) ?_)
          clear hS; rintro v98 _ w ⟨vS, DS, rfl, rfl, hoS⟩ hS; (try simp only [List.cons_append, List.nil_append] at hS)
          refine wl_op rfl rfl (ow_vr (vr_move (v := .tuple _) rfl) ?_)
          refine wl_op rfl rfl (ow_vr (vr_extract (v := vS) rfl rfl) ?_)
          refine wl_op rfl rfl (ow_vr (vr_extract (v := .int .i64 _) rfl rfl) ?_)
          refine wl_op rfl rfl (ow_vr (vr_extract (v := .int .i64 _) rfl rfl) ?_)
          refine wl_op rfl rfl (ow_vr (vr_assign (v := vS) rfl) ?_)
          refine wl_op rfl rfl (ow_vr (vr_assign (v := .int .i64 _) rfl) ?_)
          refine wl_op rfl rfl (ow_vr (vr_assign (v := .int .i64 _) rfl) ?_)
          refine wl_nil ?_
          refine hK12 _ _ ?_
          refine cw_seq fun K13 hK13 => ?_
          refine cw_seq fun K14 hK14 => ?_
          refine cw_region ?_
          refine wl_op rfl rfl (ow_vr (vr_move (v := .bool pb) rfl) ?_)
          refine wl_op rfl rfl (ow_vr (vr_not rfl) ?_)
          refine wl_op rfl rfl (ow_vr (vr_move (v := .bool _) rfl) ?_)
          refine wl_split 104 rfl (fun hc => ?_) (fun hc => ?_)
          · (try simp only [decide_eq_true_eq, decide_eq_false_iff_not, Bool.not_eq_true, Bool.not_eq_false, Bool.not_eq_true', Bool.not_eq_false', Bool.and_eq_true, Bool.or_eq_true, Bool.and_eq_false_iff, Bool.or_eq_false_iff, Int.not_lt, Int.not_le, gt_iff_lt, ge_iff_le, ne_eq, Decidable.not_not, beq_iff_eq] at hc)
            have hg104 := hc; clear hc
            refine wl_noD rfl rfl rfl rfl rfl rfl ?_
            refine wl_noD rfl rfl rfl rfl rfl rfl ?_
            refine wl_op rfl rfl (ow_vr (vr_pick (b := true) (v := .bool _) rfl rfl) ?_)
            refine wl_nil ?_
            refine hK14 _ _ ?_
            refine cw_cond_t rfl rfl (rfl) ?_
            refine cw_seq fun K15 hK15 => ?_
            have hmm : mayL m from_ k head head epoch = false := by rw [hpb]; simp_all
            refine cw_region ?_
            refine wl_op rfl rfl (ow_vr (vr_move (v := .int .i64 _) rfl) ?_)
            refine wl_op rfl rfl (ow_vr (vr_eql rfl rfl) ?_)
            refine wl_op rfl rfl (ow_vr (vr_move (v := .bool _) rfl) ?_)
            refine wl_known 110 rfl (c := true) (by rw [hmm]; simp) ?_
            refine wl_yes rfl rfl rfl rfl rfl (ow_vr (vr_move (v := vS) rfl) ?_)
            refine wl_yes rfl rfl rfl rfl rfl (ow_vr (vr_len_v (v := vS) Tryd.underlying27 rfl (hoS.view (by exact fun _ => rfl))) ?_)
            refine wl_yes rfl rfl rfl rfl rfl (ow_vr (vr_eql rfl rfl) ?_)
            refine wl_op rfl rfl (ow_vr (vr_pick (b := true) (v := .bool _) rfl rfl) ?_)
            refine wl_op rfl rfl (ow_vr (vr_move (v := .bool _) rfl) ?_)
            refine wl_known 115 rfl (c := true) (by simp) ?_
            refine wl_yes rfl rfl rfl rfl rfl (ow_vr (vr_move (v := .int .i64 _) rfl) ?_)
            refine wl_yes rfl rfl rfl rfl rfl (ow_vr (vr_eql rfl rfl) ?_)
            refine wl_op rfl rfl (ow_vr (vr_pick (b := true) (v := .bool _) rfl rfl) ?_)
            refine wl_op rfl rfl (ow_vr (vr_assign (v := .bool _) rfl) ?_)
            refine wl_nil ?_
            refine hK15 _ _ ?_
            refine cw_ret ?_
            refine thenF_ret (?_)
            refine ret_one (fn := Tryd.f3) (n := 131) (t := 12) (.inl rfl) rfl rfl ?_
            exact ⟨[], ⟨congrArg Value.bool (by rw [hmm]; simp), rfl⟩, hS.tail1.tail1.tail1⟩
          · (try simp only [decide_eq_true_eq, decide_eq_false_iff_not, Bool.not_eq_true, Bool.not_eq_false, Bool.not_eq_true', Bool.not_eq_false', Bool.and_eq_true, Bool.or_eq_true, Bool.and_eq_false_iff, Bool.or_eq_false_iff, Int.not_lt, Int.not_le, gt_iff_lt, ge_iff_le, ne_eq, Decidable.not_not, beq_iff_eq] at hc)
            have hg104 := hc; clear hc
            refine wl_yes rfl rfl rfl rfl rfl (ow_vr (vr_move (v := .int .i64 head) rfl) ?_)
            refine wl_yes rfl rfl rfl rfl rfl (ow_vr (vr_geq rfl rfl) ?_)
            refine wl_op rfl rfl (ow_vr (vr_pick (b := false) (v := .bool _) rfl rfl) ?_)
            refine wl_nil ?_
            refine hK14 _ _ ?_
            refine cw_cond rfl rfl (fun hc => ?_) (fun hc => ?_)
            · (try simp only [decide_eq_true_eq, decide_eq_false_iff_not, Bool.not_eq_true, Bool.not_eq_false, Bool.not_eq_true', Bool.not_eq_false', Bool.and_eq_true, Bool.or_eq_true, Bool.and_eq_false_iff, Bool.or_eq_false_iff, Int.not_lt, Int.not_le, gt_iff_lt, ge_iff_le, ne_eq, Decidable.not_not, beq_iff_eq] at hc)
              have hc2 := hc; clear hc
              refine cw_seq fun K16 hK16 => ?_
              have hmm : mayL m from_ k head head epoch = false := by rw [hpb]; simp_all
              refine cw_region ?_
              refine wl_op rfl rfl (ow_vr (vr_move (v := .int .i64 _) rfl) ?_)
              refine wl_op rfl rfl (ow_vr (vr_eql rfl rfl) ?_)
              refine wl_op rfl rfl (ow_vr (vr_move (v := .bool _) rfl) ?_)
              refine wl_known 110 rfl (c := true) (by rw [hmm]; simp) ?_
              refine wl_yes rfl rfl rfl rfl rfl (ow_vr (vr_move (v := vS) rfl) ?_)
              refine wl_yes rfl rfl rfl rfl rfl (ow_vr (vr_len_v (v := vS) Tryd.underlying27 rfl (hoS.view (by exact fun _ => rfl))) ?_)
              refine wl_yes rfl rfl rfl rfl rfl (ow_vr (vr_eql rfl rfl) ?_)
              refine wl_op rfl rfl (ow_vr (vr_pick (b := true) (v := .bool _) rfl rfl) ?_)
              refine wl_op rfl rfl (ow_vr (vr_move (v := .bool _) rfl) ?_)
              refine wl_known 115 rfl (c := true) (by simp) ?_
              refine wl_yes rfl rfl rfl rfl rfl (ow_vr (vr_move (v := .int .i64 _) rfl) ?_)
              refine wl_yes rfl rfl rfl rfl rfl (ow_vr (vr_eql rfl rfl) ?_)
              refine wl_op rfl rfl (ow_vr (vr_pick (b := true) (v := .bool _) rfl rfl) ?_)
              refine wl_op rfl rfl (ow_vr (vr_assign (v := .bool _) rfl) ?_)
              refine wl_nil ?_
              refine hK16 _ _ ?_
              refine cw_ret ?_
              refine thenF_ret (?_)
              refine ret_one (fn := Tryd.f3) (n := 131) (t := 12) (.inl rfl) rfl rfl ?_
              exact ⟨[], ⟨congrArg Value.bool (by rw [hmm]; simp), rfl⟩, hS.tail1.tail1.tail1⟩
            · (try simp only [decide_eq_true_eq, decide_eq_false_iff_not, Bool.not_eq_true, Bool.not_eq_false, Bool.not_eq_true', Bool.not_eq_false', Bool.and_eq_true, Bool.or_eq_true, Bool.and_eq_false_iff, Bool.or_eq_false_iff, Int.not_lt, Int.not_le, gt_iff_lt, ge_iff_le, ne_eq, Decidable.not_not, beq_iff_eq] at hc)
              have hc2 := hc; clear hc
              refine cw_skip ?_
              refine hK13 _ _ ?_
              refine cw_seq fun K17 hK17 => ?_
              have hmm : mayL m from_ k head head epoch = true := by rw [hpb]; simp_all
              refine cw_region ?_
              refine wl_op rfl rfl (ow_vr (vr_move (v := .int .i64 _) rfl) ?_)
              refine wl_op rfl rfl (ow_vr (vr_eql rfl rfl) ?_)
              refine wl_op rfl rfl (ow_vr (vr_move (v := .bool _) rfl) ?_)
              refine wl_known 121 rfl (c := true) (by rw [hmm]; simp) ?_
              refine wl_yes rfl rfl rfl rfl rfl (ow_vr (vr_move (v := vS) rfl) ?_)
              refine wl_yes rfl rfl rfl rfl rfl (ow_vr (vr_len_v (v := vS) Tryd.underlying27 rfl (hoS.view (by exact fun _ => rfl))) ?_)
              refine wl_yes rfl rfl rfl rfl rfl (ow_vr (vr_eql rfl rfl) ?_)
              refine wl_op rfl rfl (ow_vr (vr_pick (b := true) (v := .bool _) rfl rfl) ?_)
              refine wl_op rfl rfl (ow_vr (vr_move (v := .bool _) rfl) ?_)
              refine wl_known 126 rfl (c := true) (by simp) ?_
              refine wl_yes rfl rfl rfl rfl rfl (ow_vr (vr_move (v := .int .i64 _) rfl) ?_)
              refine wl_yes rfl rfl rfl rfl rfl (ow_vr (vr_move (v := .int .i64 head) rfl) ?_)
              refine wl_yes rfl rfl rfl rfl rfl (ow_vr (vr_eql rfl rfl) ?_)
              refine wl_op rfl rfl (ow_vr (vr_pick (b := true) (v := .bool _) rfl rfl) ?_)
              refine wl_op rfl rfl (ow_vr (vr_assign (v := .bool _) rfl) ?_)
              refine wl_nil ?_
              refine hK17 _ _ ?_
              refine cw_ret ?_
              refine ret_one (fn := Tryd.f3) (n := 131) (t := 12) (.inl rfl) rfl rfl ?_
              exact ⟨[], ⟨congrArg Value.bool (by rw [hmm]; simp), rfl⟩, hS.tail1.tail1.tail1⟩
        refine cw_region ?_
        refine wl_op rfl rfl (ow_vr (vr_move (v := .bool pb) rfl) ?_)
        refine wl_op rfl rfl (ow_vr (vr_move (v := .bool pb) rfl) ?_)
        refine wl_split 62 rfl (fun hc => ?_) (fun hc => ?_)
        · (try simp only [decide_eq_true_eq, decide_eq_false_iff_not, Bool.not_eq_true, Bool.not_eq_false, Bool.not_eq_true', Bool.not_eq_false', Bool.and_eq_true, Bool.or_eq_true, Bool.and_eq_false_iff, Bool.or_eq_false_iff, Int.not_lt, Int.not_le, gt_iff_lt, ge_iff_le, ne_eq, Decidable.not_not, beq_iff_eq] at hc)
          have hg62 := hc; clear hc
          refine wl_yes rfl rfl rfl rfl rfl (ow_vr (vr_move (v := .int .i64 next) rfl) ?_)
          refine wl_yes rfl rfl rfl rfl rfl (ow_vr (vr_move (v := .int .i64 head) rfl) ?_)
          refine wl_yes rfl rfl rfl rfl rfl (ow_vr (vr_geq rfl rfl) ?_)
          refine wl_op rfl rfl (ow_vr (vr_pick (b := true) (v := .bool _) rfl rfl) ?_)
          refine wl_op rfl rfl (ow_vr (vr_move (v := .bool _) rfl) ?_)
          refine wl_split 67 rfl (fun hc => ?_) (fun hc => ?_)
          · (try simp only [decide_eq_true_eq, decide_eq_false_iff_not, Bool.not_eq_true, Bool.not_eq_false, Bool.not_eq_true', Bool.not_eq_false', Bool.and_eq_true, Bool.or_eq_true, Bool.and_eq_false_iff, Bool.or_eq_false_iff, Int.not_lt, Int.not_le, gt_iff_lt, ge_iff_le, ne_eq, Decidable.not_not, beq_iff_eq] at hc)
            have hg67 := hc; clear hc
            refine wl_yes rfl rfl rfl rfl rfl (ow_vr (vr_move (v := .int .i64 next) rfl) ?_)
            refine wl_yes rfl rfl rfl rfl rfl (ow_vr (vr_move (v := .int .i64 head) rfl) ?_)
            refine wl_yes rfl rfl rfl rfl rfl (ow_vr (vr_subi rfl rfl (by have := hj6.1 hg62; unfold inI64; omega)) ?_)
            refine wl_yes rfl rfl rfl rfl rfl (ow_vr (vr_move (v := .int .i64 k) rfl) ?_)
            refine wl_yes rfl rfl rfl rfl rfl (ow_vr (vr_leq rfl rfl) ?_)
            refine wl_op rfl rfl (ow_vr (vr_pick (b := true) (v := .bool _) rfl rfl) ?_)
            refine wl_op rfl rfl (ow_vr (vr_move (v := .bool _) rfl) ?_)
            refine wl_split 74 rfl (fun hc => ?_) (fun hc => ?_)
            · (try simp only [decide_eq_true_eq, decide_eq_false_iff_not, Bool.not_eq_true, Bool.not_eq_false, Bool.not_eq_true', Bool.not_eq_false', Bool.and_eq_true, Bool.or_eq_true, Bool.and_eq_false_iff, Bool.or_eq_false_iff, Int.not_lt, Int.not_le, gt_iff_lt, ge_iff_le, ne_eq, Decidable.not_not, beq_iff_eq] at hc)
              have hg74 := hc; clear hc
              refine wl_yes rfl rfl rfl rfl rfl (ow_vr (vr_move (v := .int .i64 next) rfl) ?_)
              refine wl_yes rfl rfl rfl rfl rfl (ow_vr (vr_lss rfl rfl) ?_)
              refine wl_op rfl rfl (ow_vr (vr_pick (b := true) (v := .bool _) rfl rfl) ?_)
              refine wl_op rfl rfl (ow_vr (vr_assign (v := .bool _) rfl) ?_)
              refine wl_nil ?_
              refine hJK9 _ _ ⟨_, _, (reb (reb (reb (reb (reb (reb (reb (reb (reb rfl rfl) rfl) rfl) rfl) rfl) rfl) rfl) rfl) rfl), ?_, hS⟩
              simp_all; try omega
            · (try simp only [decide_eq_true_eq, decide_eq_false_iff_not, Bool.not_eq_true, Bool.not_eq_false, Bool.not_eq_true', Bool.not_eq_false', Bool.and_eq_true, Bool.or_eq_true, Bool.and_eq_false_iff, Bool.or_eq_false_iff, Int.not_lt, Int.not_le, gt_iff_lt, ge_iff_le, ne_eq, Decidable.not_not, beq_iff_eq] at hc)
              have hg74 := hc; clear hc
              refine wl_noD rfl rfl rfl rfl rfl rfl ?_
              refine wl_noD rfl rfl rfl rfl rfl rfl ?_
              refine wl_op rfl rfl (ow_vr (vr_pick (b := false) (v := .bool _) rfl rfl) ?_)
              refine wl_op rfl rfl (ow_vr (vr_assign (v := .bool _) rfl) ?_)
              refine wl_nil ?_
              refine hJK9 _ _ ⟨_, _, (reb (reb (reb (reb (reb (reb (reb (reb (reb rfl rfl) rfl) rfl) rfl) rfl) rfl) rfl) rfl) rfl), ?_, hS⟩
              simp_all; try omega
          · (try simp only [decide_eq_true_eq, decide_eq_false_iff_not, Bool.not_eq_true, Bool.not_eq_false, Bool.not_eq_true', Bool.not_eq_false', Bool.and_eq_true, Bool.or_eq_true, Bool.and_eq_false_iff, Bool.or_eq_false_iff, Int.not_lt, Int.not_le, gt_iff_lt, ge_iff_le, ne_eq, Decidable.not_not, beq_iff_eq] at hc)
            have hg67 := hc; clear hc
            refine wl_noD rfl rfl rfl rfl rfl rfl ?_
            refine wl_noD rfl rfl rfl rfl rfl rfl ?_
            refine wl_noD rfl rfl rfl rfl rfl rfl ?_
            refine wl_noD rfl rfl rfl rfl rfl rfl ?_
            refine wl_noD rfl rfl rfl rfl rfl rfl ?_
            refine wl_op rfl rfl (ow_vr (vr_pick (b := false) (v := .bool _) rfl rfl) ?_)
            refine wl_op rfl rfl (ow_vr (vr_move (v := .bool _) rfl) ?_)
            refine wl_noD rfl rfl rfl rfl rfl rfl ?_
            refine wl_noD rfl rfl rfl rfl rfl rfl ?_
            refine wl_op rfl rfl (ow_vr (vr_pick (b := false) (v := .bool _) rfl rfl) ?_)
            refine wl_op rfl rfl (ow_vr (vr_assign (v := .bool _) rfl) ?_)
            refine wl_nil ?_
            refine hJK9 _ _ ⟨_, _, (reb (reb (reb (reb (reb (reb (reb (reb (reb rfl rfl) rfl) rfl) rfl) rfl) rfl) rfl) rfl) rfl), ?_, hS⟩
            simp_all; try omega
        · (try simp only [decide_eq_true_eq, decide_eq_false_iff_not, Bool.not_eq_true, Bool.not_eq_false, Bool.not_eq_true', Bool.not_eq_false', Bool.and_eq_true, Bool.or_eq_true, Bool.and_eq_false_iff, Bool.or_eq_false_iff, Int.not_lt, Int.not_le, gt_iff_lt, ge_iff_le, ne_eq, Decidable.not_not, beq_iff_eq] at hc)
          have hg62 := hc; clear hc
          refine wl_noD rfl rfl rfl rfl rfl rfl ?_
          refine wl_noD rfl rfl rfl rfl rfl rfl ?_
          refine wl_noD rfl rfl rfl rfl rfl rfl ?_
          refine wl_op rfl rfl (ow_vr (vr_pick (b := false) (v := .bool _) rfl rfl) ?_)
          refine wl_op rfl rfl (ow_vr (vr_move (v := .bool _) rfl) ?_)
          refine wl_noD rfl rfl rfl rfl rfl rfl ?_
          refine wl_noD rfl rfl rfl rfl rfl rfl ?_
          refine wl_noD rfl rfl rfl rfl rfl rfl ?_
          refine wl_noD rfl rfl rfl rfl rfl rfl ?_
          refine wl_noD rfl rfl rfl rfl rfl rfl ?_
          refine wl_op rfl rfl (ow_vr (vr_pick (b := false) (v := .bool _) rfl rfl) ?_)
          refine wl_op rfl rfl (ow_vr (vr_move (v := .bool _) rfl) ?_)
          refine wl_noD rfl rfl rfl rfl rfl rfl ?_
          refine wl_noD rfl rfl rfl rfl rfl rfl ?_
          refine wl_op rfl rfl (ow_vr (vr_pick (b := false) (v := .bool _) rfl rfl) ?_)
          refine wl_op rfl rfl (ow_vr (vr_assign (v := .bool _) rfl) ?_)
          refine wl_nil ?_
          refine hJK9 _ _ ⟨_, _, (reb (reb (reb (reb (reb (reb (reb (reb (reb rfl rfl) rfl) rfl) rfl) rfl) rfl) rfl) rfl) rfl), ?_, hS⟩
          simp_all; try omega
      refine cw_region ?_
      refine wl_op rfl rfl (ow_vr (vr_move (v := .int .i64 _) rfl) ?_)
      refine wl_op rfl rfl (ow_vr (vr_geq rfl rfl) ?_)
      refine wl_op rfl rfl (ow_vr (vr_move (v := .bool _) rfl) ?_)
      refine wl_split 33 rfl (fun hc => ?_) (fun hc => ?_)
      · (try simp only [decide_eq_true_eq, decide_eq_false_iff_not, Bool.not_eq_true, Bool.not_eq_false, Bool.not_eq_true', Bool.not_eq_false', Bool.and_eq_true, Bool.or_eq_true, Bool.and_eq_false_iff, Bool.or_eq_false_iff, Int.not_lt, Int.not_le, gt_iff_lt, ge_iff_le, ne_eq, Decidable.not_not, beq_iff_eq] at hc)
        have hg33 := hc; clear hc
        refine wl_yes rfl rfl rfl rfl rfl (ow_vr (vr_move (v := .int .i64 _) rfl) ?_)
        refine wl_yes rfl rfl rfl rfl rfl (ow_vr (vr_geq rfl rfl) ?_)
        refine wl_op rfl rfl (ow_vr (vr_pick (b := true) (v := .bool _) rfl rfl) ?_)
        refine wl_op rfl rfl (ow_vr (vr_move (v := .bool _) rfl) ?_)
        refine wl_split 37 rfl (fun hc => ?_) (fun hc => ?_)
        · (try simp only [decide_eq_true_eq, decide_eq_false_iff_not, Bool.not_eq_true, Bool.not_eq_false, Bool.not_eq_true', Bool.not_eq_false', Bool.and_eq_true, Bool.or_eq_true, Bool.and_eq_false_iff, Bool.or_eq_false_iff, Int.not_lt, Int.not_le, gt_iff_lt, ge_iff_le, ne_eq, Decidable.not_not, beq_iff_eq] at hc)
          have hg37 := hc; clear hc
          refine wl_yes rfl rfl rfl rfl rfl (ow_vr (vr_move (v := .int .i64 _) rfl) ?_)
          refine wl_yes rfl rfl rfl rfl rfl (ow_vr (vr_move (v := .int .i64 _) rfl) ?_)
          refine wl_yes rfl rfl rfl rfl rfl (ow_vr (vr_leq rfl rfl) ?_)
          refine wl_op rfl rfl (ow_vr (vr_pick (b := true) (v := .bool _) rfl rfl) ?_)
          refine wl_op rfl rfl (ow_vr (vr_move (v := .bool _) rfl) ?_)
          refine wl_split 42 rfl (fun hc => ?_) (fun hc => ?_)
          · (try simp only [decide_eq_true_eq, decide_eq_false_iff_not, Bool.not_eq_true, Bool.not_eq_false, Bool.not_eq_true', Bool.not_eq_false', Bool.and_eq_true, Bool.or_eq_true, Bool.and_eq_false_iff, Bool.or_eq_false_iff, Int.not_lt, Int.not_le, gt_iff_lt, ge_iff_le, ne_eq, Decidable.not_not, beq_iff_eq] at hc)
            have hg42 := hc; clear hc
            refine wl_yes rfl rfl rfl rfl rfl (ow_vr (vr_move (v := .int .i64 _) rfl) ?_)
            refine wl_yes rfl rfl rfl rfl rfl (ow_vr (vr_move (v := .int .i64 _) rfl) ?_)
            refine wl_yes rfl rfl rfl rfl rfl (ow_vr (vr_move (v := .int .i64 _) rfl) ?_)
            first | (refine wl_yes rfl rfl rfl rfl rfl (ow_vr (vr_subi rfl rfl (by unfold inI64; omega)) ?_)) | (refine wl_yes rfl rfl rfl rfl rfl (ow_vr (vr_sub rfl rfl) ?_))
            refine wl_yes rfl rfl rfl rfl rfl (ow_vr (vr_leq rfl rfl) ?_)
            refine wl_op rfl rfl (ow_vr (vr_pick (b := true) (v := .bool _) rfl rfl) ?_)
            refine wl_op rfl rfl (ow_vr (vr_move (v := .bool _) rfl) ?_)
            refine wl_split 49 rfl (fun hc => ?_) (fun hc => ?_)
            · (try simp only [decide_eq_true_eq, decide_eq_false_iff_not, Bool.not_eq_true, Bool.not_eq_false, Bool.not_eq_true', Bool.not_eq_false', Bool.and_eq_true, Bool.or_eq_true, Bool.and_eq_false_iff, Bool.or_eq_false_iff, Int.not_lt, Int.not_le, gt_iff_lt, ge_iff_le, ne_eq, Decidable.not_not, beq_iff_eq] at hc)
              have hg49 := hc; clear hc
              refine wl_yes rfl rfl rfl rfl rfl (ow_vr (vr_move (v := .int .i64 _) rfl) ?_)
              refine wl_yes rfl rfl rfl rfl rfl (ow_vr (vr_geq rfl rfl) ?_)
              refine wl_op rfl rfl (ow_vr (vr_pick (b := true) (v := .bool _) rfl rfl) ?_)
              refine wl_op rfl rfl (ow_vr (vr_move (v := .bool _) rfl) ?_)
              refine wl_split 53 rfl (fun hc => ?_) (fun hc => ?_)
              · (try simp only [decide_eq_true_eq, decide_eq_false_iff_not, Bool.not_eq_true, Bool.not_eq_false, Bool.not_eq_true', Bool.not_eq_false', Bool.and_eq_true, Bool.or_eq_true, Bool.and_eq_false_iff, Bool.or_eq_false_iff, Int.not_lt, Int.not_le, gt_iff_lt, ge_iff_le, ne_eq, Decidable.not_not, beq_iff_eq] at hc)
                have hg53 := hc; clear hc
                refine wl_yes rfl rfl rfl rfl rfl (ow_vr (vr_move (v := .int .i64 _) rfl) ?_)
                refine wl_yes rfl rfl rfl rfl rfl (ow_vr (vr_geq rfl rfl) ?_)
                refine wl_op rfl rfl (ow_vr (vr_pick (b := true) (v := .bool _) rfl rfl) ?_)
                refine wl_op rfl rfl (ow_vr (vr_move (v := .bool _) rfl) ?_)
                refine wl_split 57 rfl (fun hc => ?_) (fun hc => ?_)
                · (try simp only [decide_eq_true_eq, decide_eq_false_iff_not, Bool.not_eq_true, Bool.not_eq_false, Bool.not_eq_true', Bool.not_eq_false', Bool.and_eq_true, Bool.or_eq_true, Bool.and_eq_false_iff, Bool.or_eq_false_iff, Int.not_lt, Int.not_le, gt_iff_lt, ge_iff_le, ne_eq, Decidable.not_not, beq_iff_eq] at hc)
                  have hg57 := hc; clear hc
                  refine wl_yes rfl rfl rfl rfl rfl (ow_vr (vr_move (v := .int .i64 _) rfl) ?_)
                  refine wl_yes rfl rfl rfl rfl rfl (ow_vr (vr_lss rfl rfl) ?_)
                  refine wl_op rfl rfl (ow_vr (vr_pick (b := true) (v := .bool _) rfl rfl) ?_)
                  refine wl_op rfl rfl (ow_vr (vr_assign (v := .bool _) rfl) ?_)
                  refine wl_nil ?_
                  refine hJK8 _ _ ⟨_, _, (reb (reb (reb (reb (reb (reb (reb (reb rfl rfl) rfl) rfl) rfl) rfl) rfl) rfl) rfl), ?_, hS⟩
                  simp; omega
                · (try simp only [decide_eq_true_eq, decide_eq_false_iff_not, Bool.not_eq_true, Bool.not_eq_false, Bool.not_eq_true', Bool.not_eq_false', Bool.and_eq_true, Bool.or_eq_true, Bool.and_eq_false_iff, Bool.or_eq_false_iff, Int.not_lt, Int.not_le, gt_iff_lt, ge_iff_le, ne_eq, Decidable.not_not, beq_iff_eq] at hc)
                  have hg57 := hc; clear hc
                  refine wl_noD rfl rfl rfl rfl rfl rfl ?_
                  refine wl_noD rfl rfl rfl rfl rfl rfl ?_
                  refine wl_op rfl rfl (ow_vr (vr_pick (b := false) (v := .bool _) rfl rfl) ?_)
                  refine wl_op rfl rfl (ow_vr (vr_assign (v := .bool _) rfl) ?_)
                  refine wl_nil ?_
                  refine hJK8 _ _ ⟨_, _, (reb (reb (reb (reb (reb (reb (reb (reb rfl rfl) rfl) rfl) rfl) rfl) rfl) rfl) rfl), ?_, hS⟩
                  simp; omega
              · (try simp only [decide_eq_true_eq, decide_eq_false_iff_not, Bool.not_eq_true, Bool.not_eq_false, Bool.not_eq_true', Bool.not_eq_false', Bool.and_eq_true, Bool.or_eq_true, Bool.and_eq_false_iff, Bool.or_eq_false_iff, Int.not_lt, Int.not_le, gt_iff_lt, ge_iff_le, ne_eq, Decidable.not_not, beq_iff_eq] at hc)
                have hg53 := hc; clear hc
                refine wl_noD rfl rfl rfl rfl rfl rfl ?_
                refine wl_noD rfl rfl rfl rfl rfl rfl ?_
                refine wl_op rfl rfl (ow_vr (vr_pick (b := false) (v := .bool _) rfl rfl) ?_)
                refine wl_op rfl rfl (ow_vr (vr_move (v := .bool _) rfl) ?_)
                refine wl_noD rfl rfl rfl rfl rfl rfl ?_
                refine wl_noD rfl rfl rfl rfl rfl rfl ?_
                refine wl_op rfl rfl (ow_vr (vr_pick (b := false) (v := .bool _) rfl rfl) ?_)
                refine wl_op rfl rfl (ow_vr (vr_assign (v := .bool _) rfl) ?_)
                refine wl_nil ?_
                refine hJK8 _ _ ⟨_, _, (reb (reb (reb (reb (reb (reb (reb (reb rfl rfl) rfl) rfl) rfl) rfl) rfl) rfl) rfl), ?_, hS⟩
                simp; omega
            · (try simp only [decide_eq_true_eq, decide_eq_false_iff_not, Bool.not_eq_true, Bool.not_eq_false, Bool.not_eq_true', Bool.not_eq_false', Bool.and_eq_true, Bool.or_eq_true, Bool.and_eq_false_iff, Bool.or_eq_false_iff, Int.not_lt, Int.not_le, gt_iff_lt, ge_iff_le, ne_eq, Decidable.not_not, beq_iff_eq] at hc)
              have hg49 := hc; clear hc
              refine wl_noD rfl rfl rfl rfl rfl rfl ?_
              refine wl_noD rfl rfl rfl rfl rfl rfl ?_
              refine wl_op rfl rfl (ow_vr (vr_pick (b := false) (v := .bool _) rfl rfl) ?_)
              refine wl_op rfl rfl (ow_vr (vr_move (v := .bool _) rfl) ?_)
              refine wl_noD rfl rfl rfl rfl rfl rfl ?_
              refine wl_noD rfl rfl rfl rfl rfl rfl ?_
              refine wl_op rfl rfl (ow_vr (vr_pick (b := false) (v := .bool _) rfl rfl) ?_)
              refine wl_op rfl rfl (ow_vr (vr_move (v := .bool _) rfl) ?_)
              refine wl_noD rfl rfl rfl rfl rfl rfl ?_
              refine wl_noD rfl rfl rfl rfl rfl rfl ?_
              refine wl_op rfl rfl (ow_vr (vr_pick (b := false) (v := .bool _) rfl rfl) ?_)
              refine wl_op rfl rfl (ow_vr (vr_assign (v := .bool _) rfl) ?_)
              refine wl_nil ?_
              refine hJK8 _ _ ⟨_, _, (reb (reb (reb (reb (reb (reb (reb (reb rfl rfl) rfl) rfl) rfl) rfl) rfl) rfl) rfl), ?_, hS⟩
              simp; omega
          · (try simp only [decide_eq_true_eq, decide_eq_false_iff_not, Bool.not_eq_true, Bool.not_eq_false, Bool.not_eq_true', Bool.not_eq_false', Bool.and_eq_true, Bool.or_eq_true, Bool.and_eq_false_iff, Bool.or_eq_false_iff, Int.not_lt, Int.not_le, gt_iff_lt, ge_iff_le, ne_eq, Decidable.not_not, beq_iff_eq] at hc)
            have hg42 := hc; clear hc
            refine wl_noD rfl rfl rfl rfl rfl rfl ?_
            refine wl_noD rfl rfl rfl rfl rfl rfl ?_
            refine wl_noD rfl rfl rfl rfl rfl rfl ?_
            refine wl_noD rfl rfl rfl rfl rfl rfl ?_
            refine wl_noD rfl rfl rfl rfl rfl rfl ?_
            refine wl_op rfl rfl (ow_vr (vr_pick (b := false) (v := .bool _) rfl rfl) ?_)
            refine wl_op rfl rfl (ow_vr (vr_move (v := .bool _) rfl) ?_)
            refine wl_noD rfl rfl rfl rfl rfl rfl ?_
            refine wl_noD rfl rfl rfl rfl rfl rfl ?_
            refine wl_op rfl rfl (ow_vr (vr_pick (b := false) (v := .bool _) rfl rfl) ?_)
            refine wl_op rfl rfl (ow_vr (vr_move (v := .bool _) rfl) ?_)
            refine wl_noD rfl rfl rfl rfl rfl rfl ?_
            refine wl_noD rfl rfl rfl rfl rfl rfl ?_
            refine wl_op rfl rfl (ow_vr (vr_pick (b := false) (v := .bool _) rfl rfl) ?_)
            refine wl_op rfl rfl (ow_vr (vr_move (v := .bool _) rfl) ?_)
            refine wl_noD rfl rfl rfl rfl rfl rfl ?_
            refine wl_noD rfl rfl rfl rfl rfl rfl ?_
            refine wl_op rfl rfl (ow_vr (vr_pick (b := false) (v := .bool _) rfl rfl) ?_)
            refine wl_op rfl rfl (ow_vr (vr_assign (v := .bool _) rfl) ?_)
            refine wl_nil ?_
            refine hJK8 _ _ ⟨_, _, (reb (reb (reb (reb (reb (reb (reb (reb rfl rfl) rfl) rfl) rfl) rfl) rfl) rfl) rfl), ?_, hS⟩
            simp; omega
        · (try simp only [decide_eq_true_eq, decide_eq_false_iff_not, Bool.not_eq_true, Bool.not_eq_false, Bool.not_eq_true', Bool.not_eq_false', Bool.and_eq_true, Bool.or_eq_true, Bool.and_eq_false_iff, Bool.or_eq_false_iff, Int.not_lt, Int.not_le, gt_iff_lt, ge_iff_le, ne_eq, Decidable.not_not, beq_iff_eq] at hc)
          have hg37 := hc; clear hc
          refine wl_noD rfl rfl rfl rfl rfl rfl ?_
          refine wl_noD rfl rfl rfl rfl rfl rfl ?_
          refine wl_noD rfl rfl rfl rfl rfl rfl ?_
          refine wl_op rfl rfl (ow_vr (vr_pick (b := false) (v := .bool _) rfl rfl) ?_)
          refine wl_op rfl rfl (ow_vr (vr_move (v := .bool _) rfl) ?_)
          refine wl_noD rfl rfl rfl rfl rfl rfl ?_
          refine wl_noD rfl rfl rfl rfl rfl rfl ?_
          refine wl_noD rfl rfl rfl rfl rfl rfl ?_
          refine wl_noD rfl rfl rfl rfl rfl rfl ?_
          refine wl_noD rfl rfl rfl rfl rfl rfl ?_
          refine wl_op rfl rfl (ow_vr (vr_pick (b := false) (v := .bool _) rfl rfl) ?_)
          refine wl_op rfl rfl (ow_vr (vr_move (v := .bool _) rfl) ?_)
          refine wl_noD rfl rfl rfl rfl rfl rfl ?_
          refine wl_noD rfl rfl rfl rfl rfl rfl ?_
          refine wl_op rfl rfl (ow_vr (vr_pick (b := false) (v := .bool _) rfl rfl) ?_)
          refine wl_op rfl rfl (ow_vr (vr_move (v := .bool _) rfl) ?_)
          refine wl_noD rfl rfl rfl rfl rfl rfl ?_
          refine wl_noD rfl rfl rfl rfl rfl rfl ?_
          refine wl_op rfl rfl (ow_vr (vr_pick (b := false) (v := .bool _) rfl rfl) ?_)
          refine wl_op rfl rfl (ow_vr (vr_move (v := .bool _) rfl) ?_)
          refine wl_noD rfl rfl rfl rfl rfl rfl ?_
          refine wl_noD rfl rfl rfl rfl rfl rfl ?_
          refine wl_op rfl rfl (ow_vr (vr_pick (b := false) (v := .bool _) rfl rfl) ?_)
          refine wl_op rfl rfl (ow_vr (vr_assign (v := .bool _) rfl) ?_)
          refine wl_nil ?_
          refine hJK8 _ _ ⟨_, _, (reb (reb (reb (reb (reb (reb (reb (reb rfl rfl) rfl) rfl) rfl) rfl) rfl) rfl) rfl), ?_, hS⟩
          simp; omega
      · (try simp only [decide_eq_true_eq, decide_eq_false_iff_not, Bool.not_eq_true, Bool.not_eq_false, Bool.not_eq_true', Bool.not_eq_false', Bool.and_eq_true, Bool.or_eq_true, Bool.and_eq_false_iff, Bool.or_eq_false_iff, Int.not_lt, Int.not_le, gt_iff_lt, ge_iff_le, ne_eq, Decidable.not_not, beq_iff_eq] at hc)
        have hg33 := hc; clear hc
        refine wl_noD rfl rfl rfl rfl rfl rfl ?_
        refine wl_noD rfl rfl rfl rfl rfl rfl ?_
        refine wl_op rfl rfl (ow_vr (vr_pick (b := false) (v := .bool _) rfl rfl) ?_)
        refine wl_op rfl rfl (ow_vr (vr_move (v := .bool _) rfl) ?_)
        refine wl_noD rfl rfl rfl rfl rfl rfl ?_
        refine wl_noD rfl rfl rfl rfl rfl rfl ?_
        refine wl_noD rfl rfl rfl rfl rfl rfl ?_
        refine wl_op rfl rfl (ow_vr (vr_pick (b := false) (v := .bool _) rfl rfl) ?_)
        refine wl_op rfl rfl (ow_vr (vr_move (v := .bool _) rfl) ?_)
        refine wl_noD rfl rfl rfl rfl rfl rfl ?_
        refine wl_noD rfl rfl rfl rfl rfl rfl ?_
        refine wl_noD rfl rfl rfl rfl rfl rfl ?_
        refine wl_noD rfl rfl rfl rfl rfl rfl ?_
        refine wl_noD rfl rfl rfl rfl rfl rfl ?_
        refine wl_op rfl rfl (ow_vr (vr_pick (b := false) (v := .bool _) rfl rfl) ?_)
        refine wl_op rfl rfl (ow_vr (vr_move (v := .bool _) rfl) ?_)
        refine wl_noD rfl rfl rfl rfl rfl rfl ?_
        refine wl_noD rfl rfl rfl rfl rfl rfl ?_
        refine wl_op rfl rfl (ow_vr (vr_pick (b := false) (v := .bool _) rfl rfl) ?_)
        refine wl_op rfl rfl (ow_vr (vr_move (v := .bool _) rfl) ?_)
        refine wl_noD rfl rfl rfl rfl rfl rfl ?_
        refine wl_noD rfl rfl rfl rfl rfl rfl ?_
        refine wl_op rfl rfl (ow_vr (vr_pick (b := false) (v := .bool _) rfl rfl) ?_)
        refine wl_op rfl rfl (ow_vr (vr_move (v := .bool _) rfl) ?_)
        refine wl_noD rfl rfl rfl rfl rfl rfl ?_
        refine wl_noD rfl rfl rfl rfl rfl rfl ?_
        refine wl_op rfl rfl (ow_vr (vr_pick (b := false) (v := .bool _) rfl rfl) ?_)
        refine wl_op rfl rfl (ow_vr (vr_assign (v := .bool _) rfl) ?_)
        refine wl_nil ?_
        refine hJK8 _ _ ⟨_, _, (reb (reb (reb (reb (reb (reb (reb (reb rfl rfl) rfl) rfl) rfl) rfl) rfl) rfl) rfl), ?_, hS⟩
        simp; omega
end Go.Proofs.YtjcagoighpmdkaaDoor
