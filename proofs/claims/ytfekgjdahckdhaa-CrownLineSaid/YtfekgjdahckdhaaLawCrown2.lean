/- CrownLine, CrownTorn. -/
import Derived.Test.YtfekgjdahckdhaaLawCrown
namespace Go.Proofs.Ytfekgjdahckdhaa
open Go Go.RowKit
set_option linter.unusedVariables false
set_option linter.unusedSimpArgs false
attribute [local irreducible] actF WL CW OW PL SW VR LR yes Returns Fn
/-- No crown, or one ahead of q. -/
def older (b : List UInt8) (q : Int) : Prop := b.length ≤ 1000 ∧ (getOk b = false ∨ (getS b).seq < q)
def nth (s : Sup) (k : Nat) : Sup := ⟨s.seq + (k : Int), s.head, s.epoch, s.half, s.log⟩
theorem nth_right {s : Sup} (h : rightS s = true) {k : Nat} (hk : k < 60) (hq : s.seq ≤ 1000000) : rightS (nth s k) = true := by
  have := right_spec h
  exact right_mk (by simp only [nth]; omega)
theorem and_one {a : Int} (h0 : 0 ≤ a) (h1 : a < 9223372036854775808) : andI a 1 = a % 2 := by
  obtain ⟨n, rfl⟩ : ∃ n : Nat, a = (n : Int) := ⟨a.toNat, by omega⟩
  rw [show (1 : Int) = ((1 : Nat) : Int) from rfl, andI_nat (by omega) (by omega), Nat.and_one_is_mod]; omega
/-- A crown is written where it belongs: it is the newer one of the two. -/
theorem line_step {s : Sup} (h : rightS s = true) {k : Nat} (hk : k < 60) (hq : s.seq ≤ 1000000) {p0 p1 : List UInt8} (h0 : older p0 (s.seq + (k : Int))) (h1 : older p1 (s.seq + (k : Int))) :
    ∃ j : Nat, andI (s.seq + (k : Int)) 1 = (j : Int) ∧ j < 2 ∧ ∃ q0 q1 : List UInt8, [str p0, str p1].set j (str (crownB (nth s k))) = [str q0, str q1] ∧ older q0 (s.seq + (k : Int) + 1) ∧ older q1 (s.seq + (k : Int) + 1) ∧ newS q0 q1 = (nth s k, (j : Int), true) := by
  have hr := nth_right h hk hq
  have hs := right_spec h
  have ok := getOk_crown hr
  have gs := getS_crown hr
  have hl := crown_length hr
  have old : ∀ p, older p (s.seq + (k : Int)) → older p (s.seq + (k : Int) + 1) := fun p hp => ⟨hp.1, hp.2.imp id (by omega)⟩
  have new : older (crownB (nth s k)) (s.seq + (k : Int) + 1) := ⟨by omega, .inr (by rw [gs]; simp only [nth]; omega)⟩
  refine ⟨(andI (s.seq + (k : Int)) 1).toNat, by rw [and_one (by omega) (by omega)]; omega, by rw [and_one (by omega) (by omega)]; omega, ?_⟩
  rw [and_one (by omega) (by omega)]
  rcases Int.emod_two_eq (s.seq + (k : Int)) with e | e
  · rw [e]
    refine ⟨crownB (nth s k), p1, rfl, new, old _ h1, ?_⟩
    rw [newS_a, gs]
    · rfl
    · rw [ok, gs]
      rcases h1.2 with h | h
      · rw [h]; rfl
      · cases getOk p1 <;> simp [nth]; omega
  · rw [e]
    refine ⟨p0, crownB (nth s k), rfl, old _ h0, new, ?_⟩
    rw [newS_b _ ok, gs]
    · rfl
    · rw [ok, gs]
      rcases h0.2 with h | h
      · rw [h]; rfl
      · cases getOk p0 <;> simp [nth]; omega
theorem crown_line (s : Sup) (n : Int) (hq0 : inI64 s.seq) : FnV Try.prog 13 [supV s, .int .i64 n] (.bool true) := by
  cases hr : rightS s with
  | false =>
    have hright : FnV Try.prog 49 [supV s] (.bool false) := by have := crown_Right s; rwa [hr] at this
    refine FnV.mk fun E F w hS => ?_
    refine returns_enter Try.func13 rfl Try.ntmps13 rfl ?_
    refine cw_seq fun K1 hK1 => ?_
    refine cw_region ?_
    refine wl_op rfl rfl (ow_box (cs := [_, _, _, _, _]) hS rfl rfl ?_)
    clear hS; intro b2 w hS
    refine wl_op rfl rfl (ow_vr (vr_assign (v := .bool false) rfl) ?_)
    refine wl_nil ?_
    refine hK1 _ _ ?_
    refine cw_seq fun K2 hK2 => ?_
    refine cw_seq fun K3 hK3 => ?_
    refine cw_region ?_
    refine wl_op rfl rfl (ow_lr (S := Sat _ _) (lr_loadA (vs := [.int .i64 _, .int .i64 _, .int .i64 _, .int .i64 _, .int .i64 _]) Try.underlying55 rfl sz_55 rfl (by first | exact Has.here | exact Has.there (Has.here) | exact Has.there (Has.there (Has.here)) | exact Has.there (Has.there (Has.there (Has.here))) | exact Has.there (Has.there (Has.there (Has.there (Has.here)))) | exact Has.there (Has.there (Has.there (Has.there (Has.there (Has.here))))) | exact Has.there (Has.there (Has.there (Has.there (Has.there (Has.there (Has.here)))))) | exact Has.there (Has.there (Has.there (Has.there (Has.there (Has.there (Has.there (Has.here)))))))) rfl rfl) hS ?_)
    refine wl_op rfl rfl (ow_fn (vs := [.agg _]) en_49 rfl hS (hright) ?_)
    clear hS; rintro _ _ w ⟨rfl, rfl⟩ hS; (try simp only [List.cons_append, List.nil_append] at hS)
    refine wl_op rfl rfl (ow_vr (vr_not rfl) ?_)
    refine wl_op rfl rfl (ow_vr (vr_move (v := .bool _) rfl) ?_)
    refine wl_known 16 rfl (c := true) (rfl) ?_
    refine wl_noD rfl rfl rfl rfl rfl rfl ?_
    refine wl_noD rfl rfl rfl rfl rfl rfl ?_
    refine wl_op rfl rfl (ow_vr (vr_pick (b := true) (v := .bool _) rfl rfl) ?_)
    refine wl_op rfl rfl (ow_vr (vr_move (v := .bool _) rfl) ?_)
    refine wl_noD rfl rfl rfl rfl rfl rfl ?_
    refine wl_noD rfl rfl rfl rfl rfl rfl ?_
    refine wl_op rfl rfl (ow_vr (vr_pick (b := true) (v := .bool _) rfl rfl) ?_)
    refine wl_op rfl rfl (ow_vr (vr_move (v := .bool _) rfl) ?_)
    refine wl_noD rfl rfl rfl rfl rfl rfl ?_
    refine wl_noD rfl rfl rfl rfl rfl rfl ?_
    refine wl_noD rfl rfl rfl rfl rfl rfl ?_
    refine wl_op rfl rfl (ow_vr (vr_pick (b := true) (v := .bool _) rfl rfl) ?_)
    refine wl_op rfl rfl (ow_vr (vr_move (v := .bool _) rfl) ?_)
    refine wl_noD rfl rfl rfl rfl rfl rfl ?_
    refine wl_noD rfl rfl rfl rfl rfl rfl ?_
    refine wl_op rfl rfl (ow_vr (vr_pick (b := true) (v := .bool _) rfl rfl) ?_)
    refine wl_nil ?_
    refine hK3 _ _ ?_
    refine cw_cond_t rfl rfl (rfl) ?_
    refine cw_seq fun K4 hK4 => ?_
    refine cw_region ?_
    refine wl_op rfl rfl (ow_fn (vs := []) en_46 rfl hS (alive5) ?_)
    clear hS; rintro _ _ w ⟨rfl, rfl⟩ hS; (try simp only [List.cons_append, List.nil_append] at hS)
    refine wl_op rfl rfl (ow_vr (vr_assign (v := .bool _) rfl) ?_)
    refine wl_nil ?_
    refine hK4 _ _ ?_
    refine cw_ret ?_
    refine thenF_ret (?_)
    refine ret_one (fn := Try.f13) (n := 78) (t := 4) (.inl rfl) rfl rfl ?_
    exact ⟨rfl, hS.tail1⟩
  | true =>
    have hright : FnV Try.prog 49 [supV s] (.bool true) := by have := crown_Right s; rwa [hr] at this
    have hs := right_spec hr
    refine FnV.mk fun E F w hS => ?_
    refine returns_enter Try.func13 rfl Try.ntmps13 rfl ?_
    refine cw_seq fun K1 hK1 => ?_
    refine cw_region ?_
    refine wl_op rfl rfl (ow_box (cs := [_, _, _, _, _]) hS rfl rfl ?_)
    clear hS; intro b2 w hS
    refine wl_op rfl rfl (ow_vr (vr_assign (v := .bool false) rfl) ?_)
    refine wl_nil ?_
    refine hK1 _ _ ?_
    refine cw_seq fun K2 hK2 => ?_
    refine cw_seq fun K3 hK3 => ?_
    refine cw_region ?_
    refine wl_op rfl rfl (ow_lr (S := Sat _ _) (lr_loadA (vs := [.int .i64 _, .int .i64 _, .int .i64 _, .int .i64 _, .int .i64 _]) Try.underlying55 rfl sz_55 rfl (by first | exact Has.here | exact Has.there (Has.here) | exact Has.there (Has.there (Has.here)) | exact Has.there (Has.there (Has.there (Has.here))) | exact Has.there (Has.there (Has.there (Has.there (Has.here)))) | exact Has.there (Has.there (Has.there (Has.there (Has.there (Has.here))))) | exact Has.there (Has.there (Has.there (Has.there (Has.there (Has.there (Has.here)))))) | exact Has.there (Has.there (Has.there (Has.there (Has.there (Has.there (Has.there (Has.here)))))))) rfl rfl) hS ?_)
    refine wl_op rfl rfl (ow_fn (vs := [.agg _]) en_49 rfl hS (hright) ?_)
    clear hS; rintro _ _ w ⟨rfl, rfl⟩ hS; (try simp only [List.cons_append, List.nil_append] at hS)
    refine wl_op rfl rfl (ow_vr (vr_not rfl) ?_)
    refine wl_op rfl rfl (ow_vr (vr_move (v := .bool _) rfl) ?_)
    refine wl_known 16 rfl (c := false) (rfl) ?_
    refine wl_yes rfl rfl rfl rfl rfl (ow_vr (vr_move (v := .int .i64 _) rfl) ?_)
    refine wl_yes rfl rfl rfl rfl rfl (ow_vr (vr_lss rfl rfl) ?_)
    refine wl_op rfl rfl (ow_vr (vr_pick (b := false) (v := .bool _) rfl rfl) ?_)
    refine wl_op rfl rfl (ow_vr (vr_move (v := .bool _) rfl) ?_)
    refine wl_split 20 rfl (fun hc => ?_) (fun hc => ?_)
    · (try simp only [decide_eq_true_eq, decide_eq_false_iff_not, Bool.not_eq_true, Bool.not_eq_false, Bool.not_eq_true', Bool.not_eq_false', Bool.and_eq_true, Bool.or_eq_true, Bool.and_eq_false_iff, Bool.or_eq_false_iff, Int.not_lt, Int.not_le, gt_iff_lt, ge_iff_le, ne_eq, Decidable.not_not, beq_iff_eq] at hc)
      have hg20 := hc; clear hc
      refine wl_noD rfl rfl rfl rfl rfl rfl ?_
      refine wl_noD rfl rfl rfl rfl rfl rfl ?_
      refine wl_op rfl rfl (ow_vr (vr_pick (b := true) (v := .bool _) rfl rfl) ?_)
      refine wl_op rfl rfl (ow_vr (vr_move (v := .bool _) rfl) ?_)
      refine wl_noD rfl rfl rfl rfl rfl rfl ?_
      refine wl_noD rfl rfl rfl rfl rfl rfl ?_
      refine wl_noD rfl rfl rfl rfl rfl rfl ?_
      refine wl_op rfl rfl (ow_vr (vr_pick (b := true) (v := .bool _) rfl rfl) ?_)
      refine wl_op rfl rfl (ow_vr (vr_move (v := .bool _) rfl) ?_)
      refine wl_noD rfl rfl rfl rfl rfl rfl ?_
      refine wl_noD rfl rfl rfl rfl rfl rfl ?_
      refine wl_op rfl rfl (ow_vr (vr_pick (b := true) (v := .bool _) rfl rfl) ?_)
      refine wl_nil ?_
      refine hK3 _ _ ?_
      refine cw_cond_t rfl rfl (rfl) ?_
      refine cw_seq fun K4 hK4 => ?_
      refine cw_region ?_
      refine wl_op rfl rfl (ow_fn (vs := []) en_46 rfl hS (alive5) ?_)
      clear hS; rintro _ _ w ⟨rfl, rfl⟩ hS; (try simp only [List.cons_append, List.nil_append] at hS)
      refine wl_op rfl rfl (ow_vr (vr_assign (v := .bool _) rfl) ?_)
      refine wl_nil ?_
      refine hK4 _ _ ?_
      refine cw_ret ?_
      refine thenF_ret (?_)
      refine ret_one (fn := Try.f13) (n := 78) (t := 4) (.inl rfl) rfl rfl ?_
      exact ⟨rfl, hS.tail1⟩
    · (try simp only [decide_eq_true_eq, decide_eq_false_iff_not, Bool.not_eq_true, Bool.not_eq_false, Bool.not_eq_true', Bool.not_eq_false', Bool.and_eq_true, Bool.or_eq_true, Bool.and_eq_false_iff, Bool.or_eq_false_iff, Int.not_lt, Int.not_le, gt_iff_lt, ge_iff_le, ne_eq, Decidable.not_not, beq_iff_eq] at hc)
      have hg20 := hc; clear hc
      refine wl_yes rfl rfl rfl rfl rfl (ow_vr (vr_move (v := .int .i64 _) rfl) ?_)
      refine wl_yes rfl rfl rfl rfl rfl (ow_vr (vr_gtr rfl rfl) ?_)
      refine wl_op rfl rfl (ow_vr (vr_pick (b := false) (v := .bool _) rfl rfl) ?_)
      refine wl_op rfl rfl (ow_vr (vr_move (v := .bool _) rfl) ?_)
      refine wl_split 24 rfl (fun hc => ?_) (fun hc => ?_)
      · (try simp only [decide_eq_true_eq, decide_eq_false_iff_not, Bool.not_eq_true, Bool.not_eq_false, Bool.not_eq_true', Bool.not_eq_false', Bool.and_eq_true, Bool.or_eq_true, Bool.and_eq_false_iff, Bool.or_eq_false_iff, Int.not_lt, Int.not_le, gt_iff_lt, ge_iff_le, ne_eq, Decidable.not_not, beq_iff_eq] at hc)
        have hg24 := hc; clear hc
        refine wl_noD rfl rfl rfl rfl rfl rfl ?_
        refine wl_noD rfl rfl rfl rfl rfl rfl ?_
        refine wl_noD rfl rfl rfl rfl rfl rfl ?_
        refine wl_op rfl rfl (ow_vr (vr_pick (b := true) (v := .bool _) rfl rfl) ?_)
        refine wl_op rfl rfl (ow_vr (vr_move (v := .bool _) rfl) ?_)
        refine wl_noD rfl rfl rfl rfl rfl rfl ?_
        refine wl_noD rfl rfl rfl rfl rfl rfl ?_
        refine wl_op rfl rfl (ow_vr (vr_pick (b := true) (v := .bool _) rfl rfl) ?_)
        refine wl_nil ?_
        refine hK3 _ _ ?_
        refine cw_cond_t rfl rfl (rfl) ?_
        refine cw_seq fun K5 hK5 => ?_
        refine cw_region ?_
        refine wl_op rfl rfl (ow_fn (vs := []) en_46 rfl hS (alive5) ?_)
        clear hS; rintro _ _ w ⟨rfl, rfl⟩ hS; (try simp only [List.cons_append, List.nil_append] at hS)
        refine wl_op rfl rfl (ow_vr (vr_assign (v := .bool _) rfl) ?_)
        refine wl_nil ?_
        refine hK5 _ _ ?_
        refine cw_ret ?_
        refine thenF_ret (?_)
        refine ret_one (fn := Try.f13) (n := 78) (t := 4) (.inl rfl) rfl rfl ?_
        exact ⟨rfl, hS.tail1⟩
      · (try simp only [decide_eq_true_eq, decide_eq_false_iff_not, Bool.not_eq_true, Bool.not_eq_false, Bool.not_eq_true', Bool.not_eq_false', Bool.and_eq_true, Bool.or_eq_true, Bool.and_eq_false_iff, Bool.or_eq_false_iff, Int.not_lt, Int.not_le, gt_iff_lt, ge_iff_le, ne_eq, Decidable.not_not, beq_iff_eq] at hc)
        have hg24 := hc; clear hc
        first | (refine wl_yes rfl rfl rfl rfl rfl (ow_vr (vr_fieldAddr fo_55_0 rfl) ?_)) | (refine wl_yes rfl rfl rfl rfl rfl (ow_vr (vr_fieldAddrV fo_55_0 rfl (by first | assumption | (refine Own.view ?_ (by assumption); exact fun _ => rfl) | exact OwnB.view (by assumption)) (by first | omega | (simp <;> omega))) ?_))
        refine wl_yes rfl rfl rfl rfl rfl (ow_lr (S := Sat _ _) (lr_load1 Try.underlying3 rfl rfl (by first | exact Has.here | exact Has.there (Has.here) | exact Has.there (Has.there (Has.here)) | exact Has.there (Has.there (Has.there (Has.here))) | exact Has.there (Has.there (Has.there (Has.there (Has.here)))) | exact Has.there (Has.there (Has.there (Has.there (Has.there (Has.here))))) | exact Has.there (Has.there (Has.there (Has.there (Has.there (Has.there (Has.here)))))) | exact Has.there (Has.there (Has.there (Has.there (Has.there (Has.there (Has.there (Has.here)))))))) rfl) hS ?_)
        refine wl_yes rfl rfl rfl rfl rfl (ow_vr (vr_gtr rfl rfl) ?_)
        refine wl_op rfl rfl (ow_vr (vr_pick (b := false) (v := .bool _) rfl rfl) ?_)
        refine wl_op rfl rfl (ow_vr (vr_move (v := .bool _) rfl) ?_)
        refine wl_split 29 rfl (fun hc => ?_) (fun hc => ?_)
        · (try simp only [decide_eq_true_eq, decide_eq_false_iff_not, Bool.not_eq_true, Bool.not_eq_false, Bool.not_eq_true', Bool.not_eq_false', Bool.and_eq_true, Bool.or_eq_true, Bool.and_eq_false_iff, Bool.or_eq_false_iff, Int.not_lt, Int.not_le, gt_iff_lt, ge_iff_le, ne_eq, Decidable.not_not, beq_iff_eq] at hc)
          have hg29 := hc; clear hc
          refine wl_noD rfl rfl rfl rfl rfl rfl ?_
          refine wl_noD rfl rfl rfl rfl rfl rfl ?_
          refine wl_op rfl rfl (ow_vr (vr_pick (b := true) (v := .bool _) rfl rfl) ?_)
          refine wl_nil ?_
          refine hK3 _ _ ?_
          refine cw_cond_t rfl rfl (rfl) ?_
          refine cw_seq fun K6 hK6 => ?_
          refine cw_region ?_
          refine wl_op rfl rfl (ow_fn (vs := []) en_46 rfl hS (alive5) ?_)
          clear hS; rintro _ _ w ⟨rfl, rfl⟩ hS; (try simp only [List.cons_append, List.nil_append] at hS)
          refine wl_op rfl rfl (ow_vr (vr_assign (v := .bool _) rfl) ?_)
          refine wl_nil ?_
          refine hK6 _ _ ?_
          refine cw_ret ?_
          refine thenF_ret (?_)
          refine ret_one (fn := Try.f13) (n := 78) (t := 4) (.inl rfl) rfl rfl ?_
          exact ⟨rfl, hS.tail1⟩
        · (try simp only [decide_eq_true_eq, decide_eq_false_iff_not, Bool.not_eq_true, Bool.not_eq_false, Bool.not_eq_true', Bool.not_eq_false', Bool.and_eq_true, Bool.or_eq_true, Bool.and_eq_false_iff, Bool.or_eq_false_iff, Int.not_lt, Int.not_le, gt_iff_lt, ge_iff_le, ne_eq, Decidable.not_not, beq_iff_eq] at hc)
          have hg29 := hc; clear hc
          refine wl_yes rfl rfl rfl rfl rfl (ow_fn (vs := []) en_46 rfl hS (alive5) ?_)
          clear hS; rintro _ _ w ⟨rfl, rfl⟩ hS; (try simp only [List.cons_append, List.nil_append] at hS)
          refine wl_yes rfl rfl rfl rfl rfl (ow_vr (vr_not rfl) ?_)
          refine wl_op rfl rfl (ow_vr (vr_pick (b := false) (v := .bool _) rfl rfl) ?_)
          refine wl_nil ?_
          refine hK3 _ _ ?_
          refine cw_cond rfl rfl (fun hc => ?_) (fun hc => ?_)
          · (try simp only [decide_eq_true_eq, decide_eq_false_iff_not, Bool.not_eq_true, Bool.not_eq_false, Bool.not_eq_true', Bool.not_eq_false', Bool.and_eq_true, Bool.or_eq_true, Bool.and_eq_false_iff, Bool.or_eq_false_iff, Int.not_lt, Int.not_le, gt_iff_lt, ge_iff_le, ne_eq, Decidable.not_not, beq_iff_eq] at hc)
            have hc0 := hc; clear hc
            refine cw_seq fun K7 hK7 => ?_
            refine cw_region ?_
            refine wl_op rfl rfl (ow_fn (vs := []) en_46 rfl hS (alive5) ?_)
            clear hS; rintro _ _ w ⟨rfl, rfl⟩ hS; (try simp only [List.cons_append, List.nil_append] at hS)
            refine wl_op rfl rfl (ow_vr (vr_assign (v := .bool _) rfl) ?_)
            refine wl_nil ?_
            refine hK7 _ _ ?_
            refine cw_ret ?_
            refine thenF_ret (?_)
            refine ret_one (fn := Try.f13) (n := 78) (t := 4) (.inl rfl) rfl rfl ?_
            exact ⟨rfl, hS.tail1⟩
          · (try simp only [decide_eq_true_eq, decide_eq_false_iff_not, Bool.not_eq_true, Bool.not_eq_false, Bool.not_eq_true', Bool.not_eq_false', Bool.and_eq_true, Bool.or_eq_true, Bool.and_eq_false_iff, Bool.or_eq_false_iff, Int.not_lt, Int.not_le, gt_iff_lt, ge_iff_le, ne_eq, Decidable.not_not, beq_iff_eq] at hc)
            have hc0 := hc; clear hc
            refine cw_skip ?_
            refine hK2 _ _ ?_
            refine cw_seq fun K8 hK8 => ?_
            refine cw_region ?_
            refine wl_op rfl rfl (ow_alloc (cs := [_, _]) hS zr_62 rfl ?_)
            clear hS; intro b5 w hS
            refine wl_nil ?_
            refine hK8 _ _ ?_
            refine cw_seq fun K9 hK9 => ?_
            refine cw_seq fun K10 hK10 => ?_
            refine cw_region ?_
            refine wl_op rfl rfl (ow_vr (vr_assign (v := .int .i64 0) rfl) ?_)
            refine wl_nil ?_
            refine hK10 _ _ ?_
            refine cw_block ?_
            refine cw_loop (fun m f w => ∃ (k : Nat) (p0 : List UInt8) (p1 : List UInt8) (g : Nat → Value), f = (upd (upd (upd (upd g 1 (.int .i64 n)) 2 (.pointer (some ⟨b2, 0, none⟩))) 5 (.pointer (some ⟨b5, 0, none⟩))) 6 (.int .i64 (k : Int))) ∧ ((k : Int) ≤ n ∧ older p0 (s.seq + (k : Int)) ∧ older p1 (s.seq + (k : Int))) ∧ m = n.toNat - k ∧ Sat E ([(b5, .cells [str p0, str p1].toArray 62 (0, 0))] :: [(b2, .cells #[.int .i64 s.seq, .int .i64 s.head, .int .i64 s.epoch, .int .i64 s.half, .int .i64 s.log] 55 (0, 0))] :: F) w) ⟨0, [], [], _, (reb (reb (reb (reb rfl rfl) rfl) rfl) rfl), ?_, rfl, hS⟩ ?_
            · exact ⟨by omega, ⟨by simp, .inl (getOk_short (by simp))⟩, ⟨by simp, .inl (getOk_short (by simp))⟩⟩
            clear hS; rintro m f w ⟨k, p0, p1, g, rfl, hI0, rfl, hS⟩
            obtain ⟨hk, h0, h1⟩ := hI0
            refine cw_seq fun K11 hK11 => ?_
            refine cw_seq fun K12 hK12 => ?_
            refine cw_region ?_
            refine wl_op rfl rfl (ow_vr (vr_move (v := .int .i64 (k : Int)) rfl) ?_)
            refine wl_op rfl rfl (ow_vr (vr_move (v := .int .i64 n) rfl) ?_)
            refine wl_op rfl rfl (ow_vr (vr_lss rfl rfl) ?_)
            refine wl_nil ?_
            refine hK12 _ _ ?_
            refine cw_cond rfl rfl (fun hc => ?_) (fun hc => ?_)
            · (try simp only [decide_eq_true_eq, decide_eq_false_iff_not, Bool.not_eq_true, Bool.not_eq_false, Bool.not_eq_true', Bool.not_eq_false', Bool.and_eq_true, Bool.or_eq_true, Bool.and_eq_false_iff, Bool.or_eq_false_iff, Int.not_lt, Int.not_le, gt_iff_lt, ge_iff_le, ne_eq, Decidable.not_not, beq_iff_eq] at hc)
              have hc1 := hc; clear hc
              refine cw_skip ?_
              refine hK11 _ _ ?_
              refine cw_seq fun K13 hK13 => ?_
              refine cw_block ?_
              refine cw_seq fun K14 hK14 => ?_
              have hk60 : k < 60 := by omega
              obtain ⟨j, hj, hj2, q0, q1, hset, ho0, ho1, hnew⟩ := line_step hr hk60 (by omega) h0 h1
              have hrk := nth_right hr hk60 (by omega)
              have hnewer := crown_Newer q0 q1 ho0.1 ho1.1
              rw [hnew] at hnewer
              refine cw_region ?_
              refine wl_op rfl rfl (ow_lr (S := Sat _ _) (lr_loadA (vs := [.int .i64 _, .int .i64 _, .int .i64 _, .int .i64 _, .int .i64 _]) Try.underlying55 rfl sz_55 rfl (by first | exact Has.here | exact Has.there (Has.here) | exact Has.there (Has.there (Has.here)) | exact Has.there (Has.there (Has.there (Has.here))) | exact Has.there (Has.there (Has.there (Has.there (Has.here)))) | exact Has.there (Has.there (Has.there (Has.there (Has.there (Has.here))))) | exact Has.there (Has.there (Has.there (Has.there (Has.there (Has.there (Has.here)))))) | exact Has.there (Has.there (Has.there (Has.there (Has.there (Has.there (Has.there (Has.here)))))))) rfl rfl) hS ?_)
              refine wl_op rfl rfl (ow_alloc (cs := [_, _, _, _, _]) hS zr_55 rfl ?_)
              clear hS; intro b7 w hS
              refine wl_op rfl rfl (ow_storeA (vs := [.int .i64 _, .int .i64 _, .int .i64 _, .int .i64 _, .int .i64 _]) hS sz_55 rfl rfl rfl rfl (by first | exact Has.here | exact Has.there (Has.here) | exact Has.there (Has.there (Has.here)) | exact Has.there (Has.there (Has.there (Has.here))) | exact Has.there (Has.there (Has.there (Has.there (Has.here)))) | exact Has.there (Has.there (Has.there (Has.there (Has.there (Has.here))))) | exact Has.there (Has.there (Has.there (Has.there (Has.there (Has.there (Has.here)))))) | exact Has.there (Has.there (Has.there (Has.there (Has.there (Has.there (Has.there (Has.here)))))))) (by simp) ?_)
              clear hS; intro w hS; try simp only [putAt, List.set_cons_zero, List.set_cons_succ] at hS
              refine wl_nil ?_
              refine hK14 _ _ ?_
              refine cw_seq fun K15 hK15 => ?_
              refine cw_region ?_
              first | (refine wl_op rfl rfl (ow_vr (vr_fieldAddr fo_55_0 rfl) ?_)) | (refine wl_op rfl rfl (ow_vr (vr_fieldAddrV fo_55_0 rfl (by first | assumption | (refine Own.view ?_ (by assumption); exact fun _ => rfl) | exact OwnB.view (by assumption)) (by first | omega | (simp <;> omega))) ?_))
              refine wl_op rfl rfl (ow_lr (S := Sat _ _) (lr_load1 Try.underlying3 rfl rfl (by first | exact Has.here | exact Has.there (Has.here) | exact Has.there (Has.there (Has.here)) | exact Has.there (Has.there (Has.there (Has.here))) | exact Has.there (Has.there (Has.there (Has.there (Has.here)))) | exact Has.there (Has.there (Has.there (Has.there (Has.there (Has.here))))) | exact Has.there (Has.there (Has.there (Has.there (Has.there (Has.there (Has.here)))))) | exact Has.there (Has.there (Has.there (Has.there (Has.there (Has.there (Has.there (Has.here)))))))) rfl) hS ?_)
              refine wl_op rfl rfl (ow_vr (vr_move (v := .int .i64 (k : Int)) rfl) ?_)
              refine wl_op rfl rfl (ow_vr (vr_addi rfl rfl (by unfold inI64; omega)) ?_)
              first | (refine wl_op rfl rfl (ow_vr (vr_fieldAddr fo_55_0 rfl) ?_)) | (refine wl_op rfl rfl (ow_vr (vr_fieldAddrV fo_55_0 rfl (by first | assumption | (refine Own.view ?_ (by assumption); exact fun _ => rfl) | exact OwnB.view (by assumption)) (by first | omega | (simp <;> omega))) ?_))
              refine wl_op rfl rfl (ow_store1 (v := .int .i64 _) hS sz_3 rfl rfl rfl (by first | exact Has.here | exact Has.there (Has.here) | exact Has.there (Has.there (Has.here)) | exact Has.there (Has.there (Has.there (Has.here))) | exact Has.there (Has.there (Has.there (Has.there (Has.here)))) | exact Has.there (Has.there (Has.there (Has.there (Has.there (Has.here))))) | exact Has.there (Has.there (Has.there (Has.there (Has.there (Has.there (Has.here)))))) | exact Has.there (Has.there (Has.there (Has.there (Has.there (Has.there (Has.there (Has.here)))))))) (by simp) ?_)
              clear hS; intro w hS; try simp only [List.set_cons_zero, List.set_cons_succ] at hS
              refine wl_nil ?_
              refine hK15 _ _ ?_
              refine cw_seq fun K16 hK16 => ?_
              refine cw_region ?_
              refine wl_op rfl rfl (ow_lr (S := Sat _ _) (lr_loadA (vs := [.int .i64 _, .int .i64 _, .int .i64 _, .int .i64 _, .int .i64 _]) Try.underlying55 rfl sz_55 rfl (by first | exact Has.here | exact Has.there (Has.here) | exact Has.there (Has.there (Has.here)) | exact Has.there (Has.there (Has.there (Has.here))) | exact Has.there (Has.there (Has.there (Has.there (Has.here)))) | exact Has.there (Has.there (Has.there (Has.there (Has.there (Has.here))))) | exact Has.there (Has.there (Has.there (Has.there (Has.there (Has.there (Has.here)))))) | exact Has.there (Has.there (Has.there (Has.there (Has.there (Has.there (Has.there (Has.here)))))))) rfl rfl) hS ?_)
              refine wl_op rfl rfl (ow_fn (vs := [.agg _]) en_47 rfl hS (crown_PutT hrk) ?_)
              clear hS; rintro _ _ w ⟨rfl, rfl⟩ hS; (try simp only [List.cons_append, List.nil_append] at hS)
              refine wl_op rfl rfl (ow_vr (vr_move (v := .tuple _) rfl) ?_)
              refine wl_op rfl rfl (ow_vr (vr_extract (v := str _) rfl rfl) ?_)
              refine wl_op rfl rfl (ow_vr (vr_extract (v := .bool _) rfl rfl) ?_)
              refine wl_op rfl rfl (ow_vr (vr_assign (v := str _) rfl) ?_)
              refine wl_op rfl rfl (ow_vr (vr_assign (v := .bool _) rfl) ?_)
              refine wl_nil ?_
              refine hK16 _ _ ?_
              refine cw_seq fun K17 hK17 => ?_
              refine cw_seq fun K18 hK18 => ?_
              refine cw_region ?_
              refine wl_op rfl rfl (ow_vr (vr_move (v := .bool _) rfl) ?_)
              refine wl_op rfl rfl (ow_vr (vr_not rfl) ?_)
              refine wl_nil ?_
              refine hK18 _ _ ?_
              refine cw_cond_f rfl rfl (rfl) ?_
              refine cw_skip ?_
              refine hK17 _ _ ?_
              refine cw_seq fun K19 hK19 => ?_
              refine cw_region ?_
              refine wl_op rfl rfl (ow_lr (S := Sat _ _) (lr_loadA (vs := [.int .i64 _, .int .i64 _, .int .i64 _, .int .i64 _, .int .i64 _]) Try.underlying55 rfl sz_55 rfl (by first | exact Has.here | exact Has.there (Has.here) | exact Has.there (Has.there (Has.here)) | exact Has.there (Has.there (Has.there (Has.here))) | exact Has.there (Has.there (Has.there (Has.there (Has.here)))) | exact Has.there (Has.there (Has.there (Has.there (Has.there (Has.here))))) | exact Has.there (Has.there (Has.there (Has.there (Has.there (Has.there (Has.here)))))) | exact Has.there (Has.there (Has.there (Has.there (Has.there (Has.there (Has.there (Has.here)))))))) rfl rfl) hS ?_)
              refine wl_op rfl rfl (ow_fn (vs := [.agg _]) en_51 rfl hS (crown_Place (nth s k)) ?_)
              clear hS; rintro _ _ w ⟨rfl, rfl⟩ hS; (try simp only [List.cons_append, List.nil_append] at hS)
              refine wl_op rfl rfl (ow_vr (vr_move (v := str _) rfl) ?_)
              refine wl_op rfl rfl (ow_vr (vr_indexAddrA Try.underlying62 sz_9 rfl (show _ = Value.int .i64 (j : Int) from congrArg (Value.int .i64) hj) (by omega) (by omega)) ?_)
              refine wl_op rfl rfl (ow_store1 (v := str _) hS sz_9 rfl rfl rfl (by first | exact Has.here | exact Has.there (Has.here) | exact Has.there (Has.there (Has.here)) | exact Has.there (Has.there (Has.there (Has.here))) | exact Has.there (Has.there (Has.there (Has.there (Has.here)))) | exact Has.there (Has.there (Has.there (Has.there (Has.there (Has.here))))) | exact Has.there (Has.there (Has.there (Has.there (Has.there (Has.there (Has.here)))))) | exact Has.there (Has.there (Has.there (Has.there (Has.there (Has.there (Has.there (Has.here)))))))) (by simp; omega) ?_)
              clear hS; intro w hS; try simp only [List.set_cons_zero, List.set_cons_succ] at hS
              refine wl_nil ?_
              simp only [Nat.zero_add, Nat.mul_one, Int.toNat_natCast, hset, List.set_cons_zero] at hS
              refine hK19 _ _ ?_
              refine cw_seq fun K20 hK20 => ?_
              refine cw_region ?_
              refine wl_op rfl rfl (ow_vr (vr_indexAddrA Try.underlying62 sz_9 rfl rfl (by omega) (by omega)) ?_)
              refine wl_op rfl rfl (ow_lr (S := Sat _ _) (lr_load1 Try.underlying9 rfl rfl (by first | exact Has.here | exact Has.there (Has.here) | exact Has.there (Has.there (Has.here)) | exact Has.there (Has.there (Has.there (Has.here))) | exact Has.there (Has.there (Has.there (Has.there (Has.here)))) | exact Has.there (Has.there (Has.there (Has.there (Has.there (Has.here))))) | exact Has.there (Has.there (Has.there (Has.there (Has.there (Has.there (Has.here)))))) | exact Has.there (Has.there (Has.there (Has.there (Has.there (Has.there (Has.there (Has.here)))))))) rfl) hS ?_)
              refine wl_op rfl rfl (ow_vr (vr_indexAddrA Try.underlying62 sz_9 rfl rfl (by omega) (by omega)) ?_)
              refine wl_op rfl rfl (ow_lr (S := Sat _ _) (lr_load1 Try.underlying9 rfl rfl (by first | exact Has.here | exact Has.there (Has.here) | exact Has.there (Has.there (Has.here)) | exact Has.there (Has.there (Has.there (Has.here))) | exact Has.there (Has.there (Has.there (Has.there (Has.here)))) | exact Has.there (Has.there (Has.there (Has.there (Has.there (Has.here))))) | exact Has.there (Has.there (Has.there (Has.there (Has.there (Has.there (Has.here)))))) | exact Has.there (Has.there (Has.there (Has.there (Has.there (Has.there (Has.there (Has.here)))))))) rfl) hS ?_)
              refine wl_op rfl rfl (ow_fn (vs := [str _, str _]) en_53 rfl hS (hnewer) ?_)
              clear hS; rintro _ _ w ⟨rfl, rfl⟩ hS; (try simp only [List.cons_append, List.nil_append] at hS)
              refine wl_op rfl rfl (ow_vr (vr_move (v := .tuple _) rfl) ?_)
              refine wl_op rfl rfl (ow_vr (vr_extract (v := .agg _) rfl rfl) ?_)
              refine wl_op rfl rfl (ow_vr (vr_extract (v := .int .i64 _) rfl rfl) ?_)
              refine wl_op rfl rfl (ow_vr (vr_extract (v := .bool _) rfl rfl) ?_)
              refine wl_op rfl rfl (ow_alloc (cs := [_, _, _, _, _]) hS zr_55 rfl ?_)
              clear hS; intro b10 w hS
              refine wl_op rfl rfl (ow_storeA (vs := [.int .i64 _, .int .i64 _, .int .i64 _, .int .i64 _, .int .i64 _]) hS sz_55 rfl rfl rfl rfl (by first | exact Has.here | exact Has.there (Has.here) | exact Has.there (Has.there (Has.here)) | exact Has.there (Has.there (Has.there (Has.here))) | exact Has.there (Has.there (Has.there (Has.there (Has.here)))) | exact Has.there (Has.there (Has.there (Has.there (Has.there (Has.here))))) | exact Has.there (Has.there (Has.there (Has.there (Has.there (Has.there (Has.here)))))) | exact Has.there (Has.there (Has.there (Has.there (Has.there (Has.there (Has.there (Has.here)))))))) (by simp) ?_)
              clear hS; intro w hS; try simp only [putAt, List.set_cons_zero, List.set_cons_succ] at hS
              refine wl_op rfl rfl (ow_vr (vr_assign (v := .int .i64 _) rfl) ?_)
              refine wl_op rfl rfl (ow_vr (vr_assign (v := .bool _) rfl) ?_)
              refine wl_nil ?_
              refine hK20 _ _ ?_
              refine cw_seq fun K21 hK21 => ?_
              refine cw_region ?_
              refine wl_op rfl rfl (ow_vr (vr_move (v := .bool _) rfl) ?_)
              refine wl_op rfl rfl (ow_vr (vr_not rfl) ?_)
              refine wl_op rfl rfl (ow_vr (vr_move (v := .bool _) rfl) ?_)
              refine wl_known 67 rfl (c := false) (rfl) ?_
              refine wl_yes rfl rfl rfl rfl rfl (ow_lr (S := Sat _ _) (lr_loadA (vs := [.int .i64 _, .int .i64 _, .int .i64 _, .int .i64 _, .int .i64 _]) Try.underlying55 rfl sz_55 rfl (by first | exact Has.here | exact Has.there (Has.here) | exact Has.there (Has.there (Has.here)) | exact Has.there (Has.there (Has.there (Has.here))) | exact Has.there (Has.there (Has.there (Has.there (Has.here)))) | exact Has.there (Has.there (Has.there (Has.there (Has.there (Has.here))))) | exact Has.there (Has.there (Has.there (Has.there (Has.there (Has.there (Has.here)))))) | exact Has.there (Has.there (Has.there (Has.there (Has.there (Has.there (Has.there (Has.here)))))))) rfl rfl) hS ?_)
              refine wl_yes rfl rfl rfl rfl rfl (ow_lr (S := Sat _ _) (lr_loadA (vs := [.int .i64 _, .int .i64 _, .int .i64 _, .int .i64 _, .int .i64 _]) Try.underlying55 rfl sz_55 rfl (by first | exact Has.here | exact Has.there (Has.here) | exact Has.there (Has.there (Has.here)) | exact Has.there (Has.there (Has.there (Has.here))) | exact Has.there (Has.there (Has.there (Has.there (Has.here)))) | exact Has.there (Has.there (Has.there (Has.there (Has.there (Has.here))))) | exact Has.there (Has.there (Has.there (Has.there (Has.there (Has.there (Has.here)))))) | exact Has.there (Has.there (Has.there (Has.there (Has.there (Has.there (Has.there (Has.here)))))))) rfl rfl) hS ?_)
              refine wl_yes rfl rfl rfl rfl rfl (ow_vr (vr_neq_st eg_55 rfl rfl (eq_55 _ _ _ _ _ _ _ _ _ _)) ?_)
              refine wl_op rfl rfl (ow_vr (vr_pick (b := false) (v := .bool _) rfl rfl) ?_)
              refine wl_op rfl rfl (ow_vr (vr_move (v := .bool _) rfl) ?_)
              refine wl_known 72 rfl (c := false) (by simp [nth]) ?_
              refine wl_yes rfl rfl rfl rfl rfl (ow_vr (vr_move (v := .int .i64 _) rfl) ?_)
              refine wl_yes rfl rfl rfl rfl rfl (ow_lr (S := Sat _ _) (lr_loadA (vs := [.int .i64 _, .int .i64 _, .int .i64 _, .int .i64 _, .int .i64 _]) Try.underlying55 rfl sz_55 rfl (by first | exact Has.here | exact Has.there (Has.here) | exact Has.there (Has.there (Has.here)) | exact Has.there (Has.there (Has.there (Has.here))) | exact Has.there (Has.there (Has.there (Has.there (Has.here)))) | exact Has.there (Has.there (Has.there (Has.there (Has.there (Has.here))))) | exact Has.there (Has.there (Has.there (Has.there (Has.there (Has.there (Has.here)))))) | exact Has.there (Has.there (Has.there (Has.there (Has.there (Has.there (Has.there (Has.here)))))))) rfl rfl) hS ?_)
              refine wl_yes rfl rfl rfl rfl rfl (ow_fn (vs := [.agg _]) en_51 rfl hS (crown_Place (nth s k)) ?_)
              clear hS; rintro _ _ w ⟨rfl, rfl⟩ hS; (try simp only [List.cons_append, List.nil_append] at hS)
              refine wl_yes rfl rfl rfl rfl rfl (ow_vr (vr_neq rfl rfl) ?_)
              refine wl_op rfl rfl (ow_vr (vr_pick (b := false) (v := .bool _) rfl rfl) ?_)
              refine wl_nil ?_
              refine hK21 _ _ ?_
              refine cw_cond_f rfl rfl (by simp [nth, hj]) ?_
              refine cw_skip ?_
              refine hK13 _ _ ?_
              replace hS := hS.tail1.tail1
              refine cw_region ?_
              refine wl_op rfl rfl (ow_vr (vr_move (v := .int .i64 (k : Int)) rfl) ?_)
              first | (refine wl_op rfl rfl (ow_vr (vr_addi rfl rfl (by unfold inI64; omega)) ?_)) | (refine wl_op rfl rfl (ow_vr (vr_add rfl rfl) ?_))
              refine wl_op rfl rfl (ow_vr (vr_assign (v := .int .i64 _) rfl) ?_)
              refine wl_nil ?_
              refine thenF_normal ⟨_, ?_, k + 1, q0, q1, _, (reb (reb (reb (reb rfl rfl) rfl) rfl) rfl), ?_, rfl, hS⟩
              · omega
              · exact ⟨by omega, by rw [show s.seq + ((k + 1 : Nat) : Int) = s.seq + (k : Int) + 1 by omega]; exact ho0, by rw [show s.seq + ((k + 1 : Nat) : Int) = s.seq + (k : Int) + 1 by omega]; exact ho1⟩
            · (try simp only [decide_eq_true_eq, decide_eq_false_iff_not, Bool.not_eq_true, Bool.not_eq_false, Bool.not_eq_true', Bool.not_eq_false', Bool.and_eq_true, Bool.or_eq_true, Bool.and_eq_false_iff, Bool.or_eq_false_iff, Int.not_lt, Int.not_le, gt_iff_lt, ge_iff_le, ne_eq, Decidable.not_not, beq_iff_eq] at hc)
              have hc1 := hc; clear hc
              refine cw_exit ?_
              refine hK9 _ _ ?_
              refine cw_seq fun K22 hK22 => ?_
              refine cw_region ?_
              refine wl_op rfl rfl (ow_vr (vr_assign (v := .bool true) rfl) ?_)
              refine wl_nil ?_
              refine hK22 _ _ ?_
              refine cw_ret ?_
              refine ret_one (fn := Try.f13) (n := 78) (t := 4) (.inl rfl) rfl rfl ?_
              exact ⟨rfl, hS.tail1.tail1⟩
theorem sup_eq (s t : Sup) : (s.seq == t.seq && (s.head == t.head && (s.epoch == t.epoch && (s.half == t.half && (s.log == t.log && true))))) = true ↔ s = t := by
  cases s; cases t
  simp
theorem crown_torn (s t : Sup) (at_ : Int) (by_ : UInt8) (ha : inI64 at_) : FnV Try.prog 14 [supV s, supV t, .int .i64 at_, .int .u8 (by_.toNat : Int)] (.bool true) := by
  cases hr : rightS s with
  | false =>
    refine FnV.mk fun E F w hS => ?_
    have hput2 := crown_Put t
    generalize (if rightS t then crownB t else []) = b at hput2
    generalize rightS t = ob at hput2
    refine returns_enter Try.func14 rfl Try.ntmps14 rfl ?_
    refine cw_seq fun K1 hK1 => ?_
    refine cw_region ?_
    refine wl_op rfl rfl (ow_box (cs := [_, _, _, _, _]) hS rfl rfl ?_)
    clear hS; intro b4 w hS
    refine wl_op rfl rfl (ow_box (cs := [_, _, _, _, _]) hS rfl rfl ?_)
    clear hS; intro b5 w hS
    refine wl_op rfl rfl (ow_vr (vr_assign (v := .bool false) rfl) ?_)
    refine wl_nil ?_
    refine hK1 _ _ ?_
    refine cw_seq fun K2 hK2 => ?_
    refine cw_region ?_
    refine wl_op rfl rfl (ow_lr (S := Sat _ _) (lr_loadA (vs := [.int .i64 _, .int .i64 _, .int .i64 _, .int .i64 _, .int .i64 _]) Try.underlying55 rfl sz_55 rfl (by first | exact Has.here | exact Has.there (Has.here) | exact Has.there (Has.there (Has.here)) | exact Has.there (Has.there (Has.there (Has.here))) | exact Has.there (Has.there (Has.there (Has.there (Has.here)))) | exact Has.there (Has.there (Has.there (Has.there (Has.there (Has.here))))) | exact Has.there (Has.there (Has.there (Has.there (Has.there (Has.there (Has.here)))))) | exact Has.there (Has.there (Has.there (Has.there (Has.there (Has.there (Has.there (Has.here)))))))) rfl rfl) hS ?_)
    refine wl_op rfl rfl (ow_fn (vs := [.agg _]) en_47 rfl hS (crown_PutF hr) ?_)
    clear hS; rintro _ _ w ⟨rfl, rfl⟩ hS; (try simp only [List.cons_append, List.nil_append] at hS)
    refine wl_op rfl rfl (ow_vr (vr_move (v := .tuple _) rfl) ?_)
    refine wl_op rfl rfl (ow_vr (vr_extract (v := str _) rfl rfl) ?_)
    refine wl_op rfl rfl (ow_vr (vr_extract (v := .bool _) rfl rfl) ?_)
    refine wl_op rfl rfl (ow_vr (vr_assign (v := str _) rfl) ?_)
    refine wl_op rfl rfl (ow_vr (vr_assign (v := .bool _) rfl) ?_)
    refine wl_nil ?_
    refine hK2 _ _ ?_
    refine cw_seq fun K3 hK3 => ?_
    refine cw_region ?_
    refine wl_op rfl rfl (ow_lr (S := Sat _ _) (lr_loadA (vs := [.int .i64 _, .int .i64 _, .int .i64 _, .int .i64 _, .int .i64 _]) Try.underlying55 rfl sz_55 rfl (by first | exact Has.here | exact Has.there (Has.here) | exact Has.there (Has.there (Has.here)) | exact Has.there (Has.there (Has.there (Has.here))) | exact Has.there (Has.there (Has.there (Has.there (Has.here)))) | exact Has.there (Has.there (Has.there (Has.there (Has.there (Has.here))))) | exact Has.there (Has.there (Has.there (Has.there (Has.there (Has.there (Has.here)))))) | exact Has.there (Has.there (Has.there (Has.there (Has.there (Has.there (Has.there (Has.here)))))))) rfl rfl) hS ?_)
    refine wl_op rfl rfl (ow_fn (vs := [.agg _]) en_47 rfl hS (hput2) ?_)
    clear hS; rintro _ _ w ⟨rfl, rfl⟩ hS; (try simp only [List.cons_append, List.nil_append] at hS)
    refine wl_op rfl rfl (ow_vr (vr_move (v := .tuple _) rfl) ?_)
    refine wl_op rfl rfl (ow_vr (vr_extract (v := str _) rfl rfl) ?_)
    refine wl_op rfl rfl (ow_vr (vr_extract (v := .bool _) rfl rfl) ?_)
    refine wl_op rfl rfl (ow_vr (vr_assign (v := str _) rfl) ?_)
    refine wl_op rfl rfl (ow_vr (vr_assign (v := .bool _) rfl) ?_)
    refine wl_nil ?_
    refine hK3 _ _ ?_
    refine cw_seq fun K4 hK4 => ?_
    refine cw_seq fun K5 hK5 => ?_
    refine cw_region ?_
    refine wl_op rfl rfl (ow_vr (vr_move (v := .bool _) rfl) ?_)
    refine wl_op rfl rfl (ow_vr (vr_not rfl) ?_)
    refine wl_op rfl rfl (ow_vr (vr_move (v := .bool _) rfl) ?_)
    refine wl_known 28 rfl (c := true) (rfl) ?_
    refine wl_noD rfl rfl rfl rfl rfl rfl ?_
    refine wl_noD rfl rfl rfl rfl rfl rfl ?_
    refine wl_op rfl rfl (ow_vr (vr_pick (b := true) (v := .bool _) rfl rfl) ?_)
    refine wl_op rfl rfl (ow_vr (vr_move (v := .bool _) rfl) ?_)
    refine wl_noD rfl rfl rfl rfl rfl rfl ?_
    refine wl_noD rfl rfl rfl rfl rfl rfl ?_
    refine wl_op rfl rfl (ow_vr (vr_pick (b := true) (v := .bool _) rfl rfl) ?_)
    refine wl_op rfl rfl (ow_vr (vr_move (v := .bool _) rfl) ?_)
    refine wl_noD rfl rfl rfl rfl rfl rfl ?_
    refine wl_noD rfl rfl rfl rfl rfl rfl ?_
    refine wl_op rfl rfl (ow_vr (vr_pick (b := true) (v := .bool _) rfl rfl) ?_)
    refine wl_nil ?_
    refine hK5 _ _ ?_
    refine cw_cond_t rfl rfl (rfl) ?_
    refine cw_seq fun K6 hK6 => ?_
    refine cw_region ?_
    refine wl_op rfl rfl (ow_fn (vs := []) en_46 rfl hS (alive5) ?_)
    clear hS; rintro _ _ w ⟨rfl, rfl⟩ hS; (try simp only [List.cons_append, List.nil_append] at hS)
    refine wl_op rfl rfl (ow_vr (vr_assign (v := .bool _) rfl) ?_)
    refine wl_nil ?_
    refine hK6 _ _ ?_
    refine cw_ret ?_
    refine thenF_ret (?_)
    refine ret_one (fn := Try.f14) (n := 79) (t := 8) (.inl rfl) rfl rfl ?_
    exact ⟨rfl, hS.tail1.tail1⟩
  | true =>
    cases hr2 : rightS t with
    | false =>
      refine FnV.mk fun E F w hS => ?_
      refine returns_enter Try.func14 rfl Try.ntmps14 rfl ?_
      refine cw_seq fun K1 hK1 => ?_
      refine cw_region ?_
      refine wl_op rfl rfl (ow_box (cs := [_, _, _, _, _]) hS rfl rfl ?_)
      clear hS; intro b4 w hS
      refine wl_op rfl rfl (ow_box (cs := [_, _, _, _, _]) hS rfl rfl ?_)
      clear hS; intro b5 w hS
      refine wl_op rfl rfl (ow_vr (vr_assign (v := .bool false) rfl) ?_)
      refine wl_nil ?_
      refine hK1 _ _ ?_
      refine cw_seq fun K2 hK2 => ?_
      refine cw_region ?_
      refine wl_op rfl rfl (ow_lr (S := Sat _ _) (lr_loadA (vs := [.int .i64 _, .int .i64 _, .int .i64 _, .int .i64 _, .int .i64 _]) Try.underlying55 rfl sz_55 rfl (by first | exact Has.here | exact Has.there (Has.here) | exact Has.there (Has.there (Has.here)) | exact Has.there (Has.there (Has.there (Has.here))) | exact Has.there (Has.there (Has.there (Has.there (Has.here)))) | exact Has.there (Has.there (Has.there (Has.there (Has.there (Has.here))))) | exact Has.there (Has.there (Has.there (Has.there (Has.there (Has.there (Has.here)))))) | exact Has.there (Has.there (Has.there (Has.there (Has.there (Has.there (Has.there (Has.here)))))))) rfl rfl) hS ?_)
      refine wl_op rfl rfl (ow_fn (vs := [.agg _]) en_47 rfl hS (crown_PutT hr) ?_)
      clear hS; rintro _ _ w ⟨rfl, rfl⟩ hS; (try simp only [List.cons_append, List.nil_append] at hS)
      refine wl_op rfl rfl (ow_vr (vr_move (v := .tuple _) rfl) ?_)
      refine wl_op rfl rfl (ow_vr (vr_extract (v := str _) rfl rfl) ?_)
      refine wl_op rfl rfl (ow_vr (vr_extract (v := .bool _) rfl rfl) ?_)
      refine wl_op rfl rfl (ow_vr (vr_assign (v := str _) rfl) ?_)
      refine wl_op rfl rfl (ow_vr (vr_assign (v := .bool _) rfl) ?_)
      refine wl_nil ?_
      refine hK2 _ _ ?_
      refine cw_seq fun K3 hK3 => ?_
      refine cw_region ?_
      refine wl_op rfl rfl (ow_lr (S := Sat _ _) (lr_loadA (vs := [.int .i64 _, .int .i64 _, .int .i64 _, .int .i64 _, .int .i64 _]) Try.underlying55 rfl sz_55 rfl (by first | exact Has.here | exact Has.there (Has.here) | exact Has.there (Has.there (Has.here)) | exact Has.there (Has.there (Has.there (Has.here))) | exact Has.there (Has.there (Has.there (Has.there (Has.here)))) | exact Has.there (Has.there (Has.there (Has.there (Has.there (Has.here))))) | exact Has.there (Has.there (Has.there (Has.there (Has.there (Has.there (Has.here)))))) | exact Has.there (Has.there (Has.there (Has.there (Has.there (Has.there (Has.there (Has.here)))))))) rfl rfl) hS ?_)
      refine wl_op rfl rfl (ow_fn (vs := [.agg _]) en_47 rfl hS (crown_PutF hr2) ?_)
      clear hS; rintro _ _ w ⟨rfl, rfl⟩ hS; (try simp only [List.cons_append, List.nil_append] at hS)
      refine wl_op rfl rfl (ow_vr (vr_move (v := .tuple _) rfl) ?_)
      refine wl_op rfl rfl (ow_vr (vr_extract (v := str _) rfl rfl) ?_)
      refine wl_op rfl rfl (ow_vr (vr_extract (v := .bool _) rfl rfl) ?_)
      refine wl_op rfl rfl (ow_vr (vr_assign (v := str _) rfl) ?_)
      refine wl_op rfl rfl (ow_vr (vr_assign (v := .bool _) rfl) ?_)
      refine wl_nil ?_
      refine hK3 _ _ ?_
      refine cw_seq fun K4 hK4 => ?_
      refine cw_seq fun K5 hK5 => ?_
      refine cw_region ?_
      refine wl_op rfl rfl (ow_vr (vr_move (v := .bool _) rfl) ?_)
      refine wl_op rfl rfl (ow_vr (vr_not rfl) ?_)
      refine wl_op rfl rfl (ow_vr (vr_move (v := .bool _) rfl) ?_)
      refine wl_known 28 rfl (c := false) (rfl) ?_
      refine wl_yes rfl rfl rfl rfl rfl (ow_vr (vr_move (v := .bool _) rfl) ?_)
      refine wl_yes rfl rfl rfl rfl rfl (ow_vr (vr_not rfl) ?_)
      refine wl_op rfl rfl (ow_vr (vr_pick (b := false) (v := .bool _) rfl rfl) ?_)
      refine wl_op rfl rfl (ow_vr (vr_move (v := .bool _) rfl) ?_)
      refine wl_known 32 rfl (c := true) (rfl) ?_
      refine wl_noD rfl rfl rfl rfl rfl rfl ?_
      refine wl_noD rfl rfl rfl rfl rfl rfl ?_
      refine wl_op rfl rfl (ow_vr (vr_pick (b := true) (v := .bool _) rfl rfl) ?_)
      refine wl_op rfl rfl (ow_vr (vr_move (v := .bool _) rfl) ?_)
      refine wl_noD rfl rfl rfl rfl rfl rfl ?_
      refine wl_noD rfl rfl rfl rfl rfl rfl ?_
      refine wl_op rfl rfl (ow_vr (vr_pick (b := true) (v := .bool _) rfl rfl) ?_)
      refine wl_nil ?_
      refine hK5 _ _ ?_
      refine cw_cond_t rfl rfl (rfl) ?_
      refine cw_seq fun K6 hK6 => ?_
      refine cw_region ?_
      refine wl_op rfl rfl (ow_fn (vs := []) en_46 rfl hS (alive5) ?_)
      clear hS; rintro _ _ w ⟨rfl, rfl⟩ hS; (try simp only [List.cons_append, List.nil_append] at hS)
      refine wl_op rfl rfl (ow_vr (vr_assign (v := .bool _) rfl) ?_)
      refine wl_nil ?_
      refine hK6 _ _ ?_
      refine cw_ret ?_
      refine thenF_ret (?_)
      refine ret_one (fn := Try.f14) (n := 79) (t := 8) (.inl rfl) rfl rfl ?_
      exact ⟨rfl, hS.tail1.tail1⟩
    | true =>
      refine FnV.mk fun E F w hS => ?_
      have hl := crown_length hr
      have heq : (decide (crownB s = crownB t)) = (s.seq == t.seq && (s.head == t.head && (s.epoch == t.epoch && (s.half == t.half && (s.log == t.log && true))))) := by rw [Bool.eq_iff_iff, sup_eq, decide_eq_true_eq]; exact crown_inj hr hr2
      refine returns_enter Try.func14 rfl Try.ntmps14 rfl ?_
      refine cw_seq fun K1 hK1 => ?_
      refine cw_region ?_
      refine wl_op rfl rfl (ow_box (cs := [_, _, _, _, _]) hS rfl rfl ?_)
      clear hS; intro b4 w hS
      refine wl_op rfl rfl (ow_box (cs := [_, _, _, _, _]) hS rfl rfl ?_)
      clear hS; intro b5 w hS
      refine wl_op rfl rfl (ow_vr (vr_assign (v := .bool false) rfl) ?_)
      refine wl_nil ?_
      refine hK1 _ _ ?_
      refine cw_seq fun K2 hK2 => ?_
      refine cw_region ?_
      refine wl_op rfl rfl (ow_lr (S := Sat _ _) (lr_loadA (vs := [.int .i64 _, .int .i64 _, .int .i64 _, .int .i64 _, .int .i64 _]) Try.underlying55 rfl sz_55 rfl (by first | exact Has.here | exact Has.there (Has.here) | exact Has.there (Has.there (Has.here)) | exact Has.there (Has.there (Has.there (Has.here))) | exact Has.there (Has.there (Has.there (Has.there (Has.here)))) | exact Has.there (Has.there (Has.there (Has.there (Has.there (Has.here))))) | exact Has.there (Has.there (Has.there (Has.there (Has.there (Has.there (Has.here)))))) | exact Has.there (Has.there (Has.there (Has.there (Has.there (Has.there (Has.there (Has.here)))))))) rfl rfl) hS ?_)
      refine wl_op rfl rfl (ow_fn (vs := [.agg _]) en_47 rfl hS (crown_PutT hr) ?_)
      clear hS; rintro _ _ w ⟨rfl, rfl⟩ hS; (try simp only [List.cons_append, List.nil_append] at hS)
      refine wl_op rfl rfl (ow_vr (vr_move (v := .tuple _) rfl) ?_)
      refine wl_op rfl rfl (ow_vr (vr_extract (v := str _) rfl rfl) ?_)
      refine wl_op rfl rfl (ow_vr (vr_extract (v := .bool _) rfl rfl) ?_)
      refine wl_op rfl rfl (ow_vr (vr_assign (v := str _) rfl) ?_)
      refine wl_op rfl rfl (ow_vr (vr_assign (v := .bool _) rfl) ?_)
      refine wl_nil ?_
      refine hK2 _ _ ?_
      refine cw_seq fun K3 hK3 => ?_
      refine cw_region ?_
      refine wl_op rfl rfl (ow_lr (S := Sat _ _) (lr_loadA (vs := [.int .i64 _, .int .i64 _, .int .i64 _, .int .i64 _, .int .i64 _]) Try.underlying55 rfl sz_55 rfl (by first | exact Has.here | exact Has.there (Has.here) | exact Has.there (Has.there (Has.here)) | exact Has.there (Has.there (Has.there (Has.here))) | exact Has.there (Has.there (Has.there (Has.there (Has.here)))) | exact Has.there (Has.there (Has.there (Has.there (Has.there (Has.here))))) | exact Has.there (Has.there (Has.there (Has.there (Has.there (Has.there (Has.here)))))) | exact Has.there (Has.there (Has.there (Has.there (Has.there (Has.there (Has.there (Has.here)))))))) rfl rfl) hS ?_)
      refine wl_op rfl rfl (ow_fn (vs := [.agg _]) en_47 rfl hS (crown_PutT hr2) ?_)
      clear hS; rintro _ _ w ⟨rfl, rfl⟩ hS; (try simp only [List.cons_append, List.nil_append] at hS)
      refine wl_op rfl rfl (ow_vr (vr_move (v := .tuple _) rfl) ?_)
      refine wl_op rfl rfl (ow_vr (vr_extract (v := str _) rfl rfl) ?_)
      refine wl_op rfl rfl (ow_vr (vr_extract (v := .bool _) rfl rfl) ?_)
      refine wl_op rfl rfl (ow_vr (vr_assign (v := str _) rfl) ?_)
      refine wl_op rfl rfl (ow_vr (vr_assign (v := .bool _) rfl) ?_)
      refine wl_nil ?_
      refine hK3 _ _ ?_
      refine cw_seq fun K4 hK4 => ?_
      refine cw_seq fun K5 hK5 => ?_
      refine cw_region ?_
      refine wl_op rfl rfl (ow_vr (vr_move (v := .bool _) rfl) ?_)
      refine wl_op rfl rfl (ow_vr (vr_not rfl) ?_)
      refine wl_op rfl rfl (ow_vr (vr_move (v := .bool _) rfl) ?_)
      refine wl_known 28 rfl (c := false) (rfl) ?_
      refine wl_yes rfl rfl rfl rfl rfl (ow_vr (vr_move (v := .bool _) rfl) ?_)
      refine wl_yes rfl rfl rfl rfl rfl (ow_vr (vr_not rfl) ?_)
      refine wl_op rfl rfl (ow_vr (vr_pick (b := false) (v := .bool _) rfl rfl) ?_)
      refine wl_op rfl rfl (ow_vr (vr_move (v := .bool _) rfl) ?_)
      refine wl_known 32 rfl (c := false) (rfl) ?_
      refine wl_yes rfl rfl rfl rfl rfl (ow_vr (vr_move (v := .int .u8 _) rfl) ?_)
      refine wl_yes rfl rfl rfl rfl rfl (ow_vr (vr_eql rfl rfl) ?_)
      refine wl_op rfl rfl (ow_vr (vr_pick (b := false) (v := .bool _) rfl rfl) ?_)
      refine wl_op rfl rfl (ow_vr (vr_move (v := .bool _) rfl) ?_)
      refine wl_split 36 rfl (fun hc => ?_) (fun hc => ?_)
      · (try simp only [decide_eq_true_eq, decide_eq_false_iff_not, Bool.not_eq_true, Bool.not_eq_false, Bool.not_eq_true', Bool.not_eq_false', Bool.and_eq_true, Bool.or_eq_true, Bool.and_eq_false_iff, Bool.or_eq_false_iff, Int.not_lt, Int.not_le, gt_iff_lt, ge_iff_le, ne_eq, Decidable.not_not, beq_iff_eq] at hc)
        have hg36 := hc; clear hc
        refine wl_noD rfl rfl rfl rfl rfl rfl ?_
        refine wl_noD rfl rfl rfl rfl rfl rfl ?_
        refine wl_op rfl rfl (ow_vr (vr_pick (b := true) (v := .bool _) rfl rfl) ?_)
        refine wl_nil ?_
        refine hK5 _ _ ?_
        refine cw_cond_t rfl rfl (rfl) ?_
        refine cw_seq fun K6 hK6 => ?_
        refine cw_region ?_
        refine wl_op rfl rfl (ow_fn (vs := []) en_46 rfl hS (alive5) ?_)
        clear hS; rintro _ _ w ⟨rfl, rfl⟩ hS; (try simp only [List.cons_append, List.nil_append] at hS)
        refine wl_op rfl rfl (ow_vr (vr_assign (v := .bool _) rfl) ?_)
        refine wl_nil ?_
        refine hK6 _ _ ?_
        refine cw_ret ?_
        refine thenF_ret (?_)
        refine ret_one (fn := Try.f14) (n := 79) (t := 8) (.inl rfl) rfl rfl ?_
        exact ⟨rfl, hS.tail1.tail1⟩
      · (try simp only [decide_eq_true_eq, decide_eq_false_iff_not, Bool.not_eq_true, Bool.not_eq_false, Bool.not_eq_true', Bool.not_eq_false', Bool.and_eq_true, Bool.or_eq_true, Bool.and_eq_false_iff, Bool.or_eq_false_iff, Int.not_lt, Int.not_le, gt_iff_lt, ge_iff_le, ne_eq, Decidable.not_not, beq_iff_eq] at hc)
        have hg36 := hc; clear hc
        refine wl_yes rfl rfl rfl rfl rfl (ow_fn (vs := []) en_46 rfl hS (alive5) ?_)
        clear hS; rintro _ _ w ⟨rfl, rfl⟩ hS; (try simp only [List.cons_append, List.nil_append] at hS)
        refine wl_yes rfl rfl rfl rfl rfl (ow_vr (vr_not rfl) ?_)
        refine wl_op rfl rfl (ow_vr (vr_pick (b := false) (v := .bool _) rfl rfl) ?_)
        refine wl_nil ?_
        refine hK5 _ _ ?_
        refine cw_cond rfl rfl (fun hc => ?_) (fun hc => ?_)
        · (try simp only [decide_eq_true_eq, decide_eq_false_iff_not, Bool.not_eq_true, Bool.not_eq_false, Bool.not_eq_true', Bool.not_eq_false', Bool.and_eq_true, Bool.or_eq_true, Bool.and_eq_false_iff, Bool.or_eq_false_iff, Int.not_lt, Int.not_le, gt_iff_lt, ge_iff_le, ne_eq, Decidable.not_not, beq_iff_eq] at hc)
          have hc0 := hc; clear hc
          refine cw_seq fun K7 hK7 => ?_
          refine cw_region ?_
          refine wl_op rfl rfl (ow_fn (vs := []) en_46 rfl hS (alive5) ?_)
          clear hS; rintro _ _ w ⟨rfl, rfl⟩ hS; (try simp only [List.cons_append, List.nil_append] at hS)
          refine wl_op rfl rfl (ow_vr (vr_assign (v := .bool _) rfl) ?_)
          refine wl_nil ?_
          refine hK7 _ _ ?_
          refine cw_ret ?_
          refine thenF_ret (?_)
          refine ret_one (fn := Try.f14) (n := 79) (t := 8) (.inl rfl) rfl rfl ?_
          exact ⟨rfl, hS.tail1.tail1⟩
        · (try simp only [decide_eq_true_eq, decide_eq_false_iff_not, Bool.not_eq_true, Bool.not_eq_false, Bool.not_eq_true', Bool.not_eq_false', Bool.and_eq_true, Bool.or_eq_true, Bool.and_eq_false_iff, Bool.or_eq_false_iff, Int.not_lt, Int.not_le, gt_iff_lt, ge_iff_le, ne_eq, Decidable.not_not, beq_iff_eq] at hc)
          have hc0 := hc; clear hc
          refine cw_skip ?_
          refine hK4 _ _ ?_
          refine cw_seq fun K8 hK8 => ?_
          refine cw_seq fun K9 hK9 => ?_
          refine cw_region ?_
          refine wl_op rfl rfl (ow_vr (vr_move (v := str _) rfl) ?_)
          refine wl_op rfl rfl (ow_vr (vr_len_s Try.underlying9 rfl) ?_)
          refine wl_op rfl rfl (ow_vr (vr_neq rfl rfl) ?_)
          refine wl_op rfl rfl (ow_vr (vr_move (v := .bool _) rfl) ?_)
          refine wl_known 44 rfl (c := false) (by simp; omega) ?_
          refine wl_yes rfl rfl rfl rfl rfl (ow_vr (vr_move (v := str _) rfl) ?_)
          refine wl_yes rfl rfl rfl rfl rfl (ow_vr (vr_move (v := str _) rfl) ?_)
          refine wl_yes rfl rfl rfl rfl rfl (ow_vr (vr_eql_s rfl rfl) ?_)
          refine wl_yes rfl rfl rfl rfl rfl (ow_lr (S := Sat _ _) (lr_loadA (vs := [.int .i64 _, .int .i64 _, .int .i64 _, .int .i64 _, .int .i64 _]) Try.underlying55 rfl sz_55 rfl (by first | exact Has.here | exact Has.there (Has.here) | exact Has.there (Has.there (Has.here)) | exact Has.there (Has.there (Has.there (Has.here))) | exact Has.there (Has.there (Has.there (Has.there (Has.here)))) | exact Has.there (Has.there (Has.there (Has.there (Has.there (Has.here))))) | exact Has.there (Has.there (Has.there (Has.there (Has.there (Has.there (Has.here)))))) | exact Has.there (Has.there (Has.there (Has.there (Has.there (Has.there (Has.there (Has.here)))))))) rfl rfl) hS ?_)
          refine wl_yes rfl rfl rfl rfl rfl (ow_lr (S := Sat _ _) (lr_loadA (vs := [.int .i64 _, .int .i64 _, .int .i64 _, .int .i64 _, .int .i64 _]) Try.underlying55 rfl sz_55 rfl (by first | exact Has.here | exact Has.there (Has.here) | exact Has.there (Has.there (Has.here)) | exact Has.there (Has.there (Has.there (Has.here))) | exact Has.there (Has.there (Has.there (Has.there (Has.here)))) | exact Has.there (Has.there (Has.there (Has.there (Has.there (Has.here))))) | exact Has.there (Has.there (Has.there (Has.there (Has.there (Has.there (Has.here)))))) | exact Has.there (Has.there (Has.there (Has.there (Has.there (Has.there (Has.there (Has.here)))))))) rfl rfl) hS ?_)
          refine wl_yes rfl rfl rfl rfl rfl (ow_vr (vr_eql_st eg_55 rfl rfl (eq_55 _ _ _ _ _ _ _ _ _ _)) ?_)
          refine wl_yes rfl rfl rfl rfl rfl (ow_vr (vr_neqb Try.underlying4 rfl rfl) ?_)
          refine wl_op rfl rfl (ow_vr (vr_pick (b := false) (v := .bool _) rfl rfl) ?_)
          refine wl_nil ?_
          refine hK9 _ _ ?_
          refine cw_cond_f rfl rfl (by rw [heq]; exact bne_self_eq_false _) ?_
          refine cw_skip ?_
          refine hK8 _ _ ?_
          refine cw_seq fun K10 hK10 => ?_
          refine cw_region ?_
          refine wl_op rfl rfl (ow_vr (vr_move (v := str _) rfl) ?_)
          refine wl_op rfl rfl (ow_strBytes (xs := _) hS Try.underlying9 Try.underlying50 Try.underlying5 rfl ?_)
          clear hS; intro v54 D54 w ho54 hS
          refine wl_op rfl rfl (ow_vr (vr_assign (v := v54) rfl) ?_)
          refine wl_nil ?_
          refine hK10 _ _ ?_
          refine cw_seq fun K11 hK11 => ?_
          have ht1 := Int.tmod_lt_of_pos at_ (show (0 : Int) < (crownB s).length by omega)
          have ht2 := Int.lt_tmod_of_pos at_ (show (0 : Int) < (crownB s).length by omega)
          have ht3 := Int.tmod_lt_of_pos (at_.tmod (crownB s).length + (crownB s).length) (show (0 : Int) < (crownB s).length by omega)
          have ht4 := Int.tmod_nonneg (a := at_.tmod (crownB s).length + (crownB s).length) ((crownB s).length : Int) (by omega)
          obtain ⟨k, hk⟩ : ∃ k : Nat, (at_.tmod (crownB s).length + (crownB s).length).tmod (crownB s).length = (k : Int) := ⟨((at_.tmod (crownB s).length + (crownB s).length).tmod (crownB s).length).toNat, by omega⟩
          obtain ⟨x, hx⟩ := get_lt (xs := crownB s) (k := k) (by omega)
          have hx0 : by_.toNat ≠ 0 := by simp at *; omega
          refine cw_region ?_
          refine wl_op rfl rfl (ow_vr (vr_move (v := v54) rfl) ?_)
          refine wl_op rfl rfl (ow_vr (vr_move (v := .int .i64 _) rfl) ?_)
          refine wl_op rfl rfl (ow_vr (vr_move (v := v54) rfl) ?_)
          first | (refine wl_op rfl rfl (ow_vr (vr_len_sl Try.underlying50 rfl) ?_)) | (refine wl_op rfl rfl (ow_vr (vr_len_v (v := v54) Try.underlying50 rfl (by first | assumption | (refine Own.view ?_ (by assumption); exact fun _ => rfl) | exact OwnB.view (by assumption))) ?_))
          refine wl_op rfl rfl (ow_vr (vr_remt rfl rfl (by omega)) ?_)
          refine wl_op rfl rfl (ow_vr (vr_move (v := v54) rfl) ?_)
          first | (refine wl_op rfl rfl (ow_vr (vr_len_sl Try.underlying50 rfl) ?_)) | (refine wl_op rfl rfl (ow_vr (vr_len_v (v := v54) Try.underlying50 rfl (by first | assumption | (refine Own.view ?_ (by assumption); exact fun _ => rfl) | exact OwnB.view (by assumption))) ?_))
          first | (refine wl_op rfl rfl (ow_vr (vr_addi rfl rfl (by unfold inI64; omega)) ?_)) | (refine wl_op rfl rfl (ow_vr (vr_add rfl rfl) ?_))
          refine wl_op rfl rfl (ow_vr (vr_move (v := v54) rfl) ?_)
          first | (refine wl_op rfl rfl (ow_vr (vr_len_sl Try.underlying50 rfl) ?_)) | (refine wl_op rfl rfl (ow_vr (vr_len_v (v := v54) Try.underlying50 rfl (by first | assumption | (refine Own.view ?_ (by assumption); exact fun _ => rfl) | exact OwnB.view (by assumption))) ?_))
          refine wl_op rfl rfl (ow_vr (vr_as (vr_remt rfl rfl (by omega)) (congrArg (Value.int .i64) hk)) ?_)
          first | (refine wl_op rfl rfl (ow_vr (vr_indexAddr Try.underlying50 sz_5 rfl rfl (by omega) (by omega)) ?_)) | (refine wl_op rfl rfl (ow_vr (vr_indexV (v := v54) Try.underlying50 sz_5 rfl (by first | assumption | (refine Own.view ?_ (by assumption); exact fun _ => rfl) | exact OwnB.view (by assumption)) rfl (by omega) (by first | omega | (simp <;> omega))) ?_))
          refine wl_op rfl rfl (ow_lr (S := Sat _ _) (lr_loadV1 (u := .int .u8 _) Try.underlying5 rfl rfl (by first | assumption | (refine Own.view ?_ (by assumption); exact fun _ => rfl) | exact OwnB.view (by assumption)) (by first | exact List.Mem.head _ | exact List.Mem.tail _ (List.Mem.head _) | exact List.Mem.tail _ (List.Mem.tail _ (List.Mem.head _)) | exact List.Mem.tail _ (List.Mem.tail _ (List.Mem.tail _ (List.Mem.head _))) | exact List.Mem.tail _ (List.Mem.tail _ (List.Mem.tail _ (List.Mem.tail _ (List.Mem.head _)))) | exact List.Mem.tail _ (List.Mem.tail _ (List.Mem.tail _ (List.Mem.tail _ (List.Mem.tail _ (List.Mem.head _))))) | exact List.Mem.tail _ (List.Mem.tail _ (List.Mem.tail _ (List.Mem.tail _ (List.Mem.tail _ (List.Mem.tail _ (List.Mem.head _)))))) | exact List.Mem.tail _ (List.Mem.tail _ (List.Mem.tail _ (List.Mem.tail _ (List.Mem.tail _ (List.Mem.tail _ (List.Mem.tail _ (List.Mem.head _))))))) | exact List.Mem.tail _ (List.Mem.tail _ (List.Mem.tail _ (List.Mem.tail _ (List.Mem.tail _ (List.Mem.tail _ (List.Mem.tail _ (List.Mem.tail _ (List.Mem.head _)))))))) | exact (by assumption) | exact List.Mem.tail _ ((by assumption)) | exact List.Mem.tail _ (List.Mem.tail _ ((by assumption))) | exact List.Mem.tail _ (List.Mem.tail _ (List.Mem.tail _ ((by assumption)))) | exact List.Mem.tail _ (List.Mem.tail _ (List.Mem.tail _ (List.Mem.tail _ ((by assumption))))) | exact List.Mem.tail _ (List.Mem.tail _ (List.Mem.tail _ (List.Mem.tail _ (List.Mem.tail _ ((by assumption))))))) (hx) (by exact fun _ => rfl) (by rfl)) hS ?_)
          refine wl_op rfl rfl (ow_vr (vr_move (v := .int .u8 _) rfl) ?_)
          refine wl_op rfl rfl (ow_vr (vr_as (v' := .int .u8 ((x ^^^ by_).toNat : Int)) (vr_xor_u8 (a := x.toNat) (b := by_.toNat) rfl rfl (by have := x.toNat_lt; omega) (by have := by_.toNat_lt; omega)) (by rw [UInt8.toNat_xor])) ?_)
          first | (refine wl_op rfl rfl (ow_vr (vr_indexAddr Try.underlying50 sz_5 rfl rfl (by omega) (by omega)) ?_)) | (refine wl_op rfl rfl (ow_vr (vr_indexV (v := v54) Try.underlying50 sz_5 rfl (by first | assumption | (refine Own.view ?_ (by assumption); exact fun _ => rfl) | exact OwnB.view (by assumption)) rfl (by omega) (by first | omega | (simp <;> omega))) ?_))
          refine wl_op rfl rfl (ow_storeB (b' := x ^^^ by_) hS sz_5 rfl rfl (by assumption) (by first | exact HasC.here | exact HasC.there (HasC.here) | exact HasC.there (HasC.there (HasC.here)) | exact HasC.there (HasC.there (HasC.there (HasC.here))) | exact HasC.there (HasC.there (HasC.there (HasC.there (HasC.here)))) | exact HasC.there (HasC.there (HasC.there (HasC.there (HasC.there (HasC.here))))) | exact HasC.there (HasC.there (HasC.there (HasC.there (HasC.there (HasC.there (HasC.here)))))) | exact HasC.there (HasC.there (HasC.there (HasC.there (HasC.there (HasC.there (HasC.there (HasC.here))))))) | exact HasC.there (HasC.there (HasC.there (HasC.there (HasC.there (HasC.there (HasC.there (HasC.there (HasC.here))))))))) (by omega) ?_)
          clear hS; intro D8_16 w ho8_16 hS
          refine wl_nil ?_
          rw [Int.toNat_natCast] at ho8_16
          refine hK11 _ _ ?_
          refine cw_seq fun K12 hK12 => ?_
          refine cw_region ?_
          refine wl_op rfl rfl (ow_vr (vr_move (v := v54) rfl) ?_)
          refine wl_op rfl rfl (ow_lr (S := Sat _ _) (lr_bytes_str Try.underlying50 Try.underlying5 Try.underlying9 rfl (by first | assumption | (refine Own.view ?_ (by assumption); exact fun _ => rfl) | exact OwnB.view (by assumption)) (by first | exact List.Mem.head _ | exact List.Mem.tail _ (List.Mem.head _) | exact List.Mem.tail _ (List.Mem.tail _ (List.Mem.head _)) | exact List.Mem.tail _ (List.Mem.tail _ (List.Mem.tail _ (List.Mem.head _))) | exact List.Mem.tail _ (List.Mem.tail _ (List.Mem.tail _ (List.Mem.tail _ (List.Mem.head _)))) | exact List.Mem.tail _ (List.Mem.tail _ (List.Mem.tail _ (List.Mem.tail _ (List.Mem.tail _ (List.Mem.head _))))) | exact List.Mem.tail _ (List.Mem.tail _ (List.Mem.tail _ (List.Mem.tail _ (List.Mem.tail _ (List.Mem.tail _ (List.Mem.head _)))))) | exact List.Mem.tail _ (List.Mem.tail _ (List.Mem.tail _ (List.Mem.tail _ (List.Mem.tail _ (List.Mem.tail _ (List.Mem.tail _ (List.Mem.head _))))))) | exact List.Mem.tail _ (List.Mem.tail _ (List.Mem.tail _ (List.Mem.tail _ (List.Mem.tail _ (List.Mem.tail _ (List.Mem.tail _ (List.Mem.tail _ (List.Mem.head _)))))))) | exact (by assumption) | exact List.Mem.tail _ ((by assumption)) | exact List.Mem.tail _ (List.Mem.tail _ ((by assumption))) | exact List.Mem.tail _ (List.Mem.tail _ (List.Mem.tail _ ((by assumption)))) | exact List.Mem.tail _ (List.Mem.tail _ (List.Mem.tail _ (List.Mem.tail _ ((by assumption))))) | exact List.Mem.tail _ (List.Mem.tail _ (List.Mem.tail _ (List.Mem.tail _ (List.Mem.tail _ ((by assumption)))))))) hS ?_)
          refine wl_op rfl rfl (ow_fn (vs := [str _]) en_52 rfl hS (crown_Get ((crownB s).set k (x ^^^ by_)) (by rw [List.length_set]; omega)) ?_)
          clear hS; rintro _ _ w ⟨rfl, rfl⟩ hS; (try simp only [List.cons_append, List.nil_append] at hS)
          refine wl_op rfl rfl (ow_vr (vr_move (v := .tuple _) rfl) ?_)
          refine wl_op rfl rfl (ow_vr (vr_extract (v := .agg _) rfl rfl) ?_)
          refine wl_op rfl rfl (ow_vr (vr_extract (v := .bool _) rfl rfl) ?_)
          refine wl_op rfl rfl (ow_alloc (cs := [_, _, _, _, _]) hS zr_55 rfl ?_)
          clear hS; intro b14 w hS
          refine wl_op rfl rfl (ow_storeA (vs := [.int .i64 _, .int .i64 _, .int .i64 _, .int .i64 _, .int .i64 _]) hS sz_55 rfl rfl rfl rfl (by first | exact Has.here | exact Has.there (Has.here) | exact Has.there (Has.there (Has.here)) | exact Has.there (Has.there (Has.there (Has.here))) | exact Has.there (Has.there (Has.there (Has.there (Has.here)))) | exact Has.there (Has.there (Has.there (Has.there (Has.there (Has.here))))) | exact Has.there (Has.there (Has.there (Has.there (Has.there (Has.there (Has.here)))))) | exact Has.there (Has.there (Has.there (Has.there (Has.there (Has.there (Has.there (Has.here)))))))) (by simp) ?_)
          clear hS; intro w hS; try simp only [putAt, List.set_cons_zero, List.set_cons_succ] at hS
          refine wl_op rfl rfl (ow_vr (vr_assign (v := .bool _) rfl) ?_)
          refine wl_nil ?_
          refine hK12 _ _ ?_
          refine cw_seq fun K13 hK13 => ?_
          have hno : getOk ((crownB s).set k (x ^^^ by_)) = false := get_turned hr k _ (by omega) (by rw [hx]; intro e; exact hx0 (xor_ne (Option.some.inj e)))
          refine cw_region ?_
          refine wl_op rfl rfl (ow_vr (vr_move (v := .bool _) rfl) ?_)
          refine wl_op rfl rfl (ow_vr (vr_not rfl) ?_)
          refine wl_op rfl rfl (ow_vr (vr_assign (v := .bool _) rfl) ?_)
          refine wl_nil ?_
          refine hK13 _ _ ?_
          refine cw_ret ?_
          refine ret_one (fn := Try.f14) (n := 79) (t := 8) (.inl rfl) rfl rfl ?_
          exact ⟨congrArg Value.bool (by rw [hno]; rfl), hS.tail1.tail1.tail1.tail1⟩
end Go.Proofs.Ytfekgjdahckdhaa
