/- CrownTells. -/
import Derived.Test.YtfekgjdahckdhaaLawCrown
namespace Go.Proofs.Ytfekgjdahckdhaa
open Go Go.RowKit
set_option linter.unusedVariables false
set_option linter.unusedSimpArgs false
attribute [local irreducible] actF WL CW OW PL SW VR LR yes Returns Fn
def encP (p : List UInt8 × List UInt8) : List Value := [str p.1, str p.2]
set_option maxHeartbeats 1000000 in
theorem crown_tells_t (s t : Sup) (at_ : Int) (c : UInt8) (raw : List UInt8) (hraw : raw.length ≤ 9223372036854775807) (hr : rightS s = true) : FnV Try.prog 12 [supV s, supV t, .int .i64 at_, .int .u8 (c.toNat : Int), str raw] (.bool true) := by
  refine FnV.mk fun E F w hS => ?_
  have hput2 := crown_Put t
  have hsup2 := ref_Super t
  have hlb : (if rightS t then crownB t else []).length ≤ 1000 := by
    split
    · rename_i h; rw [crown_length h]; omega
    · simp
  generalize hb : (if rightS t then crownB t else []) = b at hput2 hlb
  generalize hob : rightS t = ob at hput2 hsup2
  clear hb hob
  have hsup : FnV Try.prog 48 [supV s] (.bool true) := by have := ref_Super s; rwa [hr] at this
  have hright : FnV Try.prog 49 [supV s] (.bool true) := by have := crown_Right s; rwa [hr] at this
  have hl := crown_length hr
  refine returns_enter Try.func12 rfl Try.ntmps12 rfl ?_
  refine cw_seq fun K1 hK1 => ?_
  refine cw_region ?_
  refine wl_op rfl rfl (ow_box (cs := [_, _, _, _, _]) hS rfl rfl ?_)
  clear hS; intro b5 w hS
  refine wl_op rfl rfl (ow_box (cs := [_, _, _, _, _]) hS rfl rfl ?_)
  clear hS; intro b6 w hS
  refine wl_op rfl rfl (ow_vr (vr_assign (v := .bool false) rfl) ?_)
  refine wl_nil ?_
  refine hK1 _ _ ?_
  refine cw_seq fun K2 hK2 => ?_
  refine cw_seq fun K3 hK3 => ?_
  refine cw_region ?_
  refine wl_op rfl rfl (ow_vr (vr_move (v := str _) rfl) ?_)
  refine wl_op rfl rfl (ow_vr (vr_len_s Try.underlying9 rfl) ?_)
  refine wl_op rfl rfl (ow_vr (vr_gtr rfl rfl) ?_)
  refine wl_op rfl rfl (ow_vr (vr_move (v := .bool _) rfl) ?_)
  refine wl_split 34 rfl (fun hc => ?_) (fun hc => ?_)
  · (try simp only [decide_eq_true_eq, decide_eq_false_iff_not, Bool.not_eq_true, Bool.not_eq_false, Bool.not_eq_true', Bool.not_eq_false', Bool.and_eq_true, Bool.or_eq_true, Bool.and_eq_false_iff, Bool.or_eq_false_iff, Int.not_lt, Int.not_le, gt_iff_lt, ge_iff_le, ne_eq, Decidable.not_not, beq_iff_eq] at hc)
    have hg34 := hc; clear hc
    refine wl_noD rfl rfl rfl rfl rfl rfl ?_
    refine wl_noD rfl rfl rfl rfl rfl rfl ?_
    refine wl_op rfl rfl (ow_vr (vr_pick (b := true) (v := .bool _) rfl rfl) ?_)
    refine wl_nil ?_
    refine hK3 _ _ ?_
    refine cw_cond_t rfl rfl (rfl) ?_
    refine cw_seq fun K4 hK4 => ?_
    refine cw_region ?_
    refine wl_op rfl rfl (ow_fn (vs := []) en_46 rfl hS (alive5) ?_)
    clear hS; rintro _ _ w ⟨rfl, rfl⟩ hS; (try simp only [List.cons_append, List.nil_append] at hS)
    refine wl_op rfl rfl (ow_vr (vr_assign (v := .bool _) rfl) ?_)
    refine wl_nil ?_
    refine hK4 _ _ ?_
    refine cw_ret ?_
    refine thenF_ret (?_)
    refine ret_one (fn := Try.f12) (n := 204) (t := 10) (.inl rfl) rfl rfl ?_
    exact ⟨rfl, hS.tail1.tail1⟩
  · (try simp only [decide_eq_true_eq, decide_eq_false_iff_not, Bool.not_eq_true, Bool.not_eq_false, Bool.not_eq_true', Bool.not_eq_false', Bool.and_eq_true, Bool.or_eq_true, Bool.and_eq_false_iff, Bool.or_eq_false_iff, Int.not_lt, Int.not_le, gt_iff_lt, ge_iff_le, ne_eq, Decidable.not_not, beq_iff_eq] at hc)
    have hg34 := hc; clear hc
    refine wl_yes rfl rfl rfl rfl rfl (ow_fn (vs := []) en_46 rfl hS (alive5) ?_)
    clear hS; rintro _ _ w ⟨rfl, rfl⟩ hS; (try simp only [List.cons_append, List.nil_append] at hS)
    refine wl_yes rfl rfl rfl rfl rfl (ow_vr (vr_not rfl) ?_)
    refine wl_op rfl rfl (ow_vr (vr_pick (b := false) (v := .bool _) rfl rfl) ?_)
    refine wl_nil ?_
    refine hK3 _ _ ?_
    refine cw_cond rfl rfl (fun hc => ?_) (fun hc => ?_)
    · (try simp only [decide_eq_true_eq, decide_eq_false_iff_not, Bool.not_eq_true, Bool.not_eq_false, Bool.not_eq_true', Bool.not_eq_false', Bool.and_eq_true, Bool.or_eq_true, Bool.and_eq_false_iff, Bool.or_eq_false_iff, Int.not_lt, Int.not_le, gt_iff_lt, ge_iff_le, ne_eq, Decidable.not_not, beq_iff_eq] at hc)
      have hc0 := hc; clear hc
      refine cw_seq fun K5 hK5 => ?_
      refine cw_region ?_
      refine wl_op rfl rfl (ow_fn (vs := []) en_46 rfl hS (alive5) ?_)
      clear hS; rintro _ _ w ⟨rfl, rfl⟩ hS; (try simp only [List.cons_append, List.nil_append] at hS)
      refine wl_op rfl rfl (ow_vr (vr_assign (v := .bool _) rfl) ?_)
      refine wl_nil ?_
      refine hK5 _ _ ?_
      refine cw_ret ?_
      refine thenF_ret (?_)
      refine ret_one (fn := Try.f12) (n := 204) (t := 10) (.inl rfl) rfl rfl ?_
      exact ⟨rfl, hS.tail1.tail1⟩
    · (try simp only [decide_eq_true_eq, decide_eq_false_iff_not, Bool.not_eq_true, Bool.not_eq_false, Bool.not_eq_true', Bool.not_eq_false', Bool.and_eq_true, Bool.or_eq_true, Bool.and_eq_false_iff, Bool.or_eq_false_iff, Int.not_lt, Int.not_le, gt_iff_lt, ge_iff_le, ne_eq, Decidable.not_not, beq_iff_eq] at hc)
      have hc0 := hc; clear hc
      refine cw_skip ?_
      refine hK2 _ _ ?_
      refine cw_seq fun K6 hK6 => ?_
      refine cw_region ?_
      refine wl_op rfl rfl (ow_lr (S := Sat _ _) (lr_loadA (vs := [.int .i64 _, .int .i64 _, .int .i64 _, .int .i64 _, .int .i64 _]) Try.underlying55 rfl sz_55 rfl (by first | exact Has.here | exact Has.there (Has.here) | exact Has.there (Has.there (Has.here)) | exact Has.there (Has.there (Has.there (Has.here))) | exact Has.there (Has.there (Has.there (Has.there (Has.here)))) | exact Has.there (Has.there (Has.there (Has.there (Has.there (Has.here))))) | exact Has.there (Has.there (Has.there (Has.there (Has.there (Has.there (Has.here)))))) | exact Has.there (Has.there (Has.there (Has.there (Has.there (Has.there (Has.there (Has.here)))))))) rfl rfl) hS ?_)
      refine wl_op rfl rfl (ow_fn (vs := [.agg _]) en_47 rfl hS (crown_PutT hr) ?_)
      clear hS; rintro _ _ w ⟨rfl, rfl⟩ hS; (try simp only [List.cons_append, List.nil_append] at hS)
      refine wl_op rfl rfl (ow_vr (vr_move (v := .tuple _) rfl) ?_)
      refine wl_op rfl rfl (ow_vr (vr_extract (v := str _) rfl rfl) ?_)
      refine wl_op rfl rfl (ow_vr (vr_extract (v := .bool _) rfl rfl) ?_)
      refine wl_op rfl rfl (ow_vr (vr_assign (v := str _) rfl) ?_)
      refine wl_op rfl rfl (ow_vr (vr_assign (v := .bool _) rfl) ?_)
      refine wl_nil ?_
      refine hK6 _ _ ?_
      refine cw_seq fun K7 hK7 => ?_
      refine cw_region ?_
      refine wl_op rfl rfl (ow_lr (S := Sat _ _) (lr_loadA (vs := [.int .i64 _, .int .i64 _, .int .i64 _, .int .i64 _, .int .i64 _]) Try.underlying55 rfl sz_55 rfl (by first | exact Has.here | exact Has.there (Has.here) | exact Has.there (Has.there (Has.here)) | exact Has.there (Has.there (Has.there (Has.here))) | exact Has.there (Has.there (Has.there (Has.there (Has.here)))) | exact Has.there (Has.there (Has.there (Has.there (Has.there (Has.here))))) | exact Has.there (Has.there (Has.there (Has.there (Has.there (Has.there (Has.here)))))) | exact Has.there (Has.there (Has.there (Has.there (Has.there (Has.there (Has.there (Has.here)))))))) rfl rfl) hS ?_)
      refine wl_op rfl rfl (ow_fn (vs := [.agg _]) en_47 rfl hS (hput2) ?_)
      clear hS; rintro _ _ w ⟨rfl, rfl⟩ hS; (try simp only [List.cons_append, List.nil_append] at hS)
      refine wl_op rfl rfl (ow_vr (vr_move (v := .tuple _) rfl) ?_)
      refine wl_op rfl rfl (ow_vr (vr_extract (v := str _) rfl rfl) ?_)
      refine wl_op rfl rfl (ow_vr (vr_extract (v := .bool _) rfl rfl) ?_)
      refine wl_op rfl rfl (ow_vr (vr_assign (v := str _) rfl) ?_)
      refine wl_op rfl rfl (ow_vr (vr_assign (v := .bool _) rfl) ?_)
      refine wl_nil ?_
      refine hK7 _ _ ?_
      refine cw_seq fun K8 hK8 => ?_
      refine cw_seq fun K9 hK9 => ?_
      refine cw_draw_sat hS [(0, 0), (1, 1), (2, 2), (3, 0), (4, 0), (5, 1), (7, 0), (6, 2), (8, 0), (9, 0), (10, 0), (11, 0), (12, 1), (13, 2), (14, 0), (15, 0), (16, 0), (17, 0), (18, 0), (19, 0), (20, 1), (21, 2), (22, 0), (23, 0), (24, 0), (25, 0), (26, 0), (27, 0), (28, 0), (29, 0), (30, 0), (31, 0), (32, 0), (33, 0), (34, 1), (36, 0), (37, 1), (38, 0), (35, 2), (39, 0), (40, 0)] mixed (planFast_ok (by kernel_rfl)) (by rintro _ _ _ ⟨⟩) ?_
      clear hS; intro w hS
      refine pl_take rfl (yes_none rfl) (vr_move (v := .bool _) rfl) ?_
      refine pl_load rfl (yes_none rfl) (lr_loadA (vs := [.int .i64 _, .int .i64 _, .int .i64 _, .int .i64 _, .int .i64 _]) Try.underlying55 rfl sz_55 rfl (by first | exact Has.here | exact Has.there (Has.here) | exact Has.there (Has.there (Has.here)) | exact Has.there (Has.there (Has.there (Has.here))) | exact Has.there (Has.there (Has.there (Has.there (Has.here)))) | exact Has.there (Has.there (Has.there (Has.there (Has.there (Has.here))))) | exact Has.there (Has.there (Has.there (Has.there (Has.there (Has.there (Has.here)))))) | exact Has.there (Has.there (Has.there (Has.there (Has.there (Has.there (Has.there (Has.here)))))))) rfl rfl) ?_
      refine pl_act hS rfl (yes_none rfl) ?_
      clear hS; intro w hS
      refine (ow_fn (vs := [.agg _]) en_48 rfl hS (hsup) ?_)
      clear hS; rintro _ _ w ⟨rfl, rfl⟩ hS; (try simp only [List.cons_append, List.nil_append] at hS)
      refine ⟨by first | exact hS | exact hS.tail1 | exact hS.tail1.tail1, ?_⟩
      refine pl_take rfl (yes_none rfl) (vr_neqb Try.underlying4 rfl rfl) ?_
      refine pl_take rfl (yes_none rfl) (vr_move (v := .bool _) rfl) ?_
      refine pl_known 53 rfl (c := false) (by simp) ?_
      refine pl_load rfl (yes_some rfl rfl rfl rfl) (lr_loadA (vs := [.int .i64 _, .int .i64 _, .int .i64 _, .int .i64 _, .int .i64 _]) Try.underlying55 rfl sz_55 rfl (by first | exact Has.here | exact Has.there (Has.here) | exact Has.there (Has.there (Has.here)) | exact Has.there (Has.there (Has.there (Has.here))) | exact Has.there (Has.there (Has.there (Has.there (Has.here)))) | exact Has.there (Has.there (Has.there (Has.there (Has.there (Has.here))))) | exact Has.there (Has.there (Has.there (Has.there (Has.there (Has.there (Has.here)))))) | exact Has.there (Has.there (Has.there (Has.there (Has.there (Has.there (Has.there (Has.here)))))))) rfl rfl) ?_
      refine pl_take rfl (yes_some rfl rfl rfl rfl) (vr_move (v := .bool _) rfl) ?_
      refine pl_act hS rfl (yes_some rfl rfl rfl rfl) ?_
      clear hS; intro w hS
      refine (ow_fn (vs := [.agg _]) en_49 rfl hS (hright) ?_)
      clear hS; rintro _ _ w ⟨rfl, rfl⟩ hS; (try simp only [List.cons_append, List.nil_append] at hS)
      refine ⟨by first | exact hS | exact hS.tail1 | exact hS.tail1.tail1, ?_⟩
      refine pl_take rfl (yes_some rfl rfl rfl rfl) (vr_neqb Try.underlying4 rfl rfl) ?_
      refine pl_take rfl (yes_none rfl) (vr_pick (b := false) (v := .bool _) rfl rfl) ?_
      refine pl_take rfl (yes_none rfl) (vr_move (v := .bool _) rfl) ?_
      refine pl_known 59 rfl (c := false) (by simp) ?_
      refine pl_take rfl (yes_some rfl rfl rfl rfl) (vr_move (v := .bool _) rfl) ?_
      refine pl_load rfl (yes_some rfl rfl rfl rfl) (lr_loadA (vs := [.int .i64 _, .int .i64 _, .int .i64 _, .int .i64 _, .int .i64 _]) Try.underlying55 rfl sz_55 rfl (by first | exact Has.here | exact Has.there (Has.here) | exact Has.there (Has.there (Has.here)) | exact Has.there (Has.there (Has.there (Has.here))) | exact Has.there (Has.there (Has.there (Has.there (Has.here)))) | exact Has.there (Has.there (Has.there (Has.there (Has.there (Has.here))))) | exact Has.there (Has.there (Has.there (Has.there (Has.there (Has.there (Has.here)))))) | exact Has.there (Has.there (Has.there (Has.there (Has.there (Has.there (Has.there (Has.here)))))))) rfl rfl) ?_
      refine pl_act hS rfl (yes_some rfl rfl rfl rfl) ?_
      clear hS; intro w hS
      refine (ow_fn (vs := [.agg _]) en_48 rfl hS (hsup2) ?_)
      clear hS; rintro _ _ w ⟨rfl, rfl⟩ hS; (try simp only [List.cons_append, List.nil_append] at hS)
      refine ⟨by first | exact hS | exact hS.tail1 | exact hS.tail1.tail1, ?_⟩
      refine pl_take rfl (yes_some rfl rfl rfl rfl) (vr_neqb Try.underlying4 rfl rfl) ?_
      refine pl_take rfl (yes_none rfl) (vr_pick (b := false) (v := .bool _) rfl rfl) ?_
      refine pl_take rfl (yes_none rfl) (vr_move (v := .bool _) rfl) ?_
      refine pl_known 65 rfl (c := false) (by simp) ?_
      refine pl_take rfl (yes_some rfl rfl rfl rfl) (vr_move (v := .bool _) rfl) ?_
      refine pl_take rfl (yes_some rfl rfl rfl rfl) (vr_move (v := .bool _) rfl) ?_
      refine pl_known 67 rfl (c := true) (rfl) ?_
      refine pl_take rfl (yes_some rfl rfl rfl rfl) (vr_move (v := str _) rfl) ?_
      refine pl_load rfl (yes_some rfl rfl rfl rfl) (lr_loadA (vs := [.int .i64 _, .int .i64 _, .int .i64 _, .int .i64 _, .int .i64 _]) Try.underlying55 rfl sz_55 rfl (by first | exact Has.here | exact Has.there (Has.here) | exact Has.there (Has.there (Has.here)) | exact Has.there (Has.there (Has.there (Has.here))) | exact Has.there (Has.there (Has.there (Has.there (Has.here)))) | exact Has.there (Has.there (Has.there (Has.there (Has.there (Has.here))))) | exact Has.there (Has.there (Has.there (Has.there (Has.there (Has.there (Has.here)))))) | exact Has.there (Has.there (Has.there (Has.there (Has.there (Has.there (Has.there (Has.here)))))))) rfl rfl) ?_
      refine pl_act hS rfl (yes_some rfl rfl rfl rfl) ?_
      clear hS; intro w hS
      refine (ow_fn (vs := [.agg _]) en_50 rfl hS (ref_Crown s) ?_)
      clear hS; rintro _ _ w ⟨rfl, rfl⟩ hS; (try simp only [List.cons_append, List.nil_append] at hS)
      refine ⟨by first | exact hS | exact hS.tail1 | exact hS.tail1.tail1, ?_⟩
      refine pl_take rfl (yes_some rfl rfl rfl rfl) (vr_neq_s rfl rfl) ?_
      refine pl_take rfl (yes_some rfl rfl rfl rfl) (vr_pick (b := true) (v := .bool _) rfl rfl) ?_
      refine pl_take rfl (yes_none rfl) (vr_pick (b := false) (v := .bool _) rfl rfl) ?_
      refine pl_take rfl (yes_none rfl) (vr_move (v := .bool _) rfl) ?_
      refine pl_known 74 rfl (c := false) (by simp) ?_
      refine pl_take rfl (yes_some rfl rfl rfl rfl) (vr_move (v := .bool _) rfl) ?_
      refine pl_take rfl (yes_some rfl rfl rfl rfl) (vr_not rfl) ?_
      refine pl_take rfl (yes_some rfl rfl rfl rfl) (vr_move (v := .bool _) rfl) ?_
      refine pl_known 77 rfl (c := false) (rfl) ?_
      refine pl_noD rfl (yes_not rfl rfl rfl rfl rfl) ?_
      refine pl_noD rfl (yes_not rfl rfl rfl rfl rfl) ?_
      refine pl_take rfl (yes_some rfl rfl rfl rfl) (vr_pick (b := false) (v := .bool _) rfl rfl) ?_
      refine pl_take rfl (yes_none rfl) (vr_pick (b := false) (v := .bool _) rfl rfl) ?_
      refine pl_take rfl (yes_none rfl) (vr_move (v := .bool _) rfl) ?_
      refine pl_load rfl (yes_some rfl rfl rfl rfl) (lr_loadA (vs := [.int .i64 _, .int .i64 _, .int .i64 _, .int .i64 _, .int .i64 _]) Try.underlying55 rfl sz_55 rfl (by first | exact Has.here | exact Has.there (Has.here) | exact Has.there (Has.there (Has.here)) | exact Has.there (Has.there (Has.there (Has.here))) | exact Has.there (Has.there (Has.there (Has.there (Has.here)))) | exact Has.there (Has.there (Has.there (Has.there (Has.there (Has.here))))) | exact Has.there (Has.there (Has.there (Has.there (Has.there (Has.there (Has.here)))))) | exact Has.there (Has.there (Has.there (Has.there (Has.there (Has.there (Has.there (Has.here)))))))) rfl rfl) ?_
      first | (refine pl_take rfl (yes_some rfl rfl rfl rfl) (vr_fieldAddr fo_55_0 rfl) ?_) | (refine pl_take rfl (yes_some rfl rfl rfl rfl) (vr_fieldAddrV fo_55_0 rfl (by first | assumption | (refine Own.view ?_ (by assumption); exact fun _ => rfl) | exact OwnB.view (by assumption)) (by first | omega | (simp <;> omega))) ?_)
      refine pl_load rfl (yes_some rfl rfl rfl rfl) (lr_load1 Try.underlying3 rfl rfl (by first | exact Has.here | exact Has.there (Has.here) | exact Has.there (Has.there (Has.here)) | exact Has.there (Has.there (Has.there (Has.here))) | exact Has.there (Has.there (Has.there (Has.there (Has.here)))) | exact Has.there (Has.there (Has.there (Has.there (Has.there (Has.here))))) | exact Has.there (Has.there (Has.there (Has.there (Has.there (Has.there (Has.here)))))) | exact Has.there (Has.there (Has.there (Has.there (Has.there (Has.there (Has.there (Has.here)))))))) rfl) ?_
      refine pl_take rfl (yes_some rfl rfl rfl rfl) (vr_and_any rfl rfl) ?_
      refine pl_act hS rfl (yes_some rfl rfl rfl rfl) ?_
      clear hS; intro w hS
      refine (ow_fn (vs := [.agg _]) en_51 rfl hS (crown_Place s) ?_)
      clear hS; rintro _ _ w ⟨rfl, rfl⟩ hS; (try simp only [List.cons_append, List.nil_append] at hS)
      refine ⟨by first | exact hS | exact hS.tail1 | exact hS.tail1.tail1, ?_⟩
      refine pl_take rfl (yes_some rfl rfl rfl rfl) (vr_neq rfl rfl) ?_
      refine pl_take rfl (yes_none rfl) (vr_pick (b := false) (v := .bool _) rfl rfl) ?_
      refine pl_nil hS ?_
      clear hS; intro w hS
      refine hK9 _ _ ?_
      refine cw_cond_f rfl rfl (by simp) ?_
      refine cw_skip ?_
      refine hK8 _ _ ?_
      refine cw_seq fun K10 hK10 => ?_
      refine cw_region ?_
      refine wl_op rfl rfl (ow_vr (vr_move (v := str _) rfl) ?_)
      refine wl_op rfl rfl (ow_fn (vs := [str _]) en_52 rfl hS (crown_GetT hr) ?_)
      clear hS; rintro _ _ w ⟨rfl, rfl⟩ hS; (try simp only [List.cons_append, List.nil_append] at hS)
      refine wl_op rfl rfl (ow_vr (vr_move (v := .tuple _) rfl) ?_)
      refine wl_op rfl rfl (ow_vr (vr_extract (v := .agg _) rfl rfl) ?_)
      refine wl_op rfl rfl (ow_vr (vr_extract (v := .bool _) rfl rfl) ?_)
      refine wl_op rfl rfl (ow_alloc (cs := [_, _, _, _, _]) hS zr_55 rfl ?_)
      clear hS; intro b15 w hS
      refine wl_op rfl rfl (ow_storeA (vs := [.int .i64 _, .int .i64 _, .int .i64 _, .int .i64 _, .int .i64 _]) hS sz_55 rfl rfl rfl rfl (by first | exact Has.here | exact Has.there (Has.here) | exact Has.there (Has.there (Has.here)) | exact Has.there (Has.there (Has.there (Has.here))) | exact Has.there (Has.there (Has.there (Has.there (Has.here)))) | exact Has.there (Has.there (Has.there (Has.there (Has.there (Has.here))))) | exact Has.there (Has.there (Has.there (Has.there (Has.there (Has.there (Has.here)))))) | exact Has.there (Has.there (Has.there (Has.there (Has.there (Has.there (Has.there (Has.here)))))))) (by simp) ?_)
      clear hS; intro w hS; try simp only [putAt, List.set_cons_zero, List.set_cons_succ] at hS
      refine wl_op rfl rfl (ow_vr (vr_assign (v := .bool _) rfl) ?_)
      refine wl_nil ?_
      refine hK10 _ _ ?_
      refine cw_seq fun K11 hK11 => ?_
      refine cw_seq fun K12 hK12 => ?_
      refine cw_region ?_
      refine wl_op rfl rfl (ow_vr (vr_move (v := .bool _) rfl) ?_)
      refine wl_op rfl rfl (ow_vr (vr_move (v := .bool _) rfl) ?_)
      refine wl_op rfl rfl (ow_vr (vr_neqb Try.underlying4 rfl rfl) ?_)
      refine wl_op rfl rfl (ow_vr (vr_move (v := .bool _) rfl) ?_)
      refine wl_known 98 rfl (c := false) (by simp) ?_
      refine wl_yes rfl rfl rfl rfl rfl (ow_vr (vr_move (v := .bool _) rfl) ?_)
      refine wl_yes rfl rfl rfl rfl rfl (ow_vr (vr_move (v := .bool _) rfl) ?_)
      refine wl_known 100 rfl (c := true) (rfl) ?_
      refine wl_yes rfl rfl rfl rfl rfl (ow_lr (S := Sat _ _) (lr_loadA (vs := [.int .i64 _, .int .i64 _, .int .i64 _, .int .i64 _, .int .i64 _]) Try.underlying55 rfl sz_55 rfl (by first | exact Has.here | exact Has.there (Has.here) | exact Has.there (Has.there (Has.here)) | exact Has.there (Has.there (Has.there (Has.here))) | exact Has.there (Has.there (Has.there (Has.there (Has.here)))) | exact Has.there (Has.there (Has.there (Has.there (Has.there (Has.here))))) | exact Has.there (Has.there (Has.there (Has.there (Has.there (Has.there (Has.here)))))) | exact Has.there (Has.there (Has.there (Has.there (Has.there (Has.there (Has.there (Has.here)))))))) rfl rfl) hS ?_)
      refine wl_yes rfl rfl rfl rfl rfl (ow_lr (S := Sat _ _) (lr_loadA (vs := [.int .i64 _, .int .i64 _, .int .i64 _, .int .i64 _, .int .i64 _]) Try.underlying55 rfl sz_55 rfl (by first | exact Has.here | exact Has.there (Has.here) | exact Has.there (Has.there (Has.here)) | exact Has.there (Has.there (Has.there (Has.here))) | exact Has.there (Has.there (Has.there (Has.there (Has.here)))) | exact Has.there (Has.there (Has.there (Has.there (Has.there (Has.here))))) | exact Has.there (Has.there (Has.there (Has.there (Has.there (Has.there (Has.here)))))) | exact Has.there (Has.there (Has.there (Has.there (Has.there (Has.there (Has.there (Has.here)))))))) rfl rfl) hS ?_)
      refine wl_yes rfl rfl rfl rfl rfl (ow_vr (vr_neq_st eg_55 rfl rfl (eq_55 _ _ _ _ _ _ _ _ _ _)) ?_)
      refine wl_yes rfl rfl rfl rfl rfl (ow_vr (vr_pick (b := true) (v := .bool _) rfl rfl) ?_)
      refine wl_op rfl rfl (ow_vr (vr_pick (b := false) (v := .bool _) rfl rfl) ?_)
      refine wl_nil ?_
      refine hK12 _ _ ?_
      refine cw_cond_f rfl rfl (by simp) ?_
      refine cw_skip ?_
      refine hK11 _ _ ?_
      refine cw_seq fun K13 hK13 => ?_
      refine cw_region ?_
      refine wl_op rfl rfl (ow_vr (vr_move (v := str _) rfl) ?_)
      refine wl_op rfl rfl (ow_vr (vr_assign (v := str _) rfl) ?_)
      refine wl_nil ?_
      refine hK13 _ _ ?_
      refine cw_seq fun K14 hK14 => ?_
      refine cw_seq fun K15 hK15 => ?_
      refine cw_region ?_
      refine wl_op rfl rfl (ow_vr (vr_move (v := .bool _) rfl) ?_)
      refine wl_nil ?_
      refine hK15 _ _ ?_
      refine cw_cond_t rfl rfl (rfl) ?_
      refine cw_seq fun K16 hK16 => ?_
      have ht1 := Int.tmod_lt_of_pos at_ (show (0 : Int) < (crownB s).length by omega)
      have ht2 := Int.lt_tmod_of_pos at_ (show (0 : Int) < (crownB s).length by omega)
      have ht3 := Int.tmod_lt_of_pos (at_.tmod (crownB s).length + (crownB s).length) (show (0 : Int) < (crownB s).length by omega)
      have ht4 := Int.tmod_nonneg (a := at_.tmod (crownB s).length + (crownB s).length) ((crownB s).length : Int) (by omega)
      obtain ⟨k, hk⟩ : ∃ k : Nat, (at_.tmod (crownB s).length + (crownB s).length).tmod (crownB s).length = (k : Int) := ⟨((at_.tmod (crownB s).length + (crownB s).length).tmod (crownB s).length).toNat, by omega⟩
      refine cw_region ?_
      refine wl_op rfl rfl (ow_vr (vr_move (v := .int .i64 _) rfl) ?_)
      refine wl_op rfl rfl (ow_vr (vr_move (v := str _) rfl) ?_)
      refine wl_op rfl rfl (ow_vr (vr_len_s Try.underlying9 rfl) ?_)
      refine wl_op rfl rfl (ow_vr (vr_remt rfl rfl (by omega)) ?_)
      refine wl_op rfl rfl (ow_vr (vr_move (v := str _) rfl) ?_)
      refine wl_op rfl rfl (ow_vr (vr_len_s Try.underlying9 rfl) ?_)
      first | (refine wl_op rfl rfl (ow_vr (vr_addi rfl rfl (by unfold inI64; omega)) ?_)) | (refine wl_op rfl rfl (ow_vr (vr_add rfl rfl) ?_))
      refine wl_op rfl rfl (ow_vr (vr_move (v := str _) rfl) ?_)
      refine wl_op rfl rfl (ow_vr (vr_len_s Try.underlying9 rfl) ?_)
      refine wl_op rfl rfl (ow_vr (vr_as (vr_remt rfl rfl (by omega)) (congrArg (Value.int .i64) hk)) ?_)
      refine wl_op rfl rfl (ow_vr (vr_assign (v := .int .i64 _) rfl) ?_)
      refine wl_nil ?_
      refine hK16 _ _ ?_
      refine cw_draw_sat hS [(0, 0), (1, 0), (2, 0), (3, 0), (7, 0), (8, 0), (9, 0), (10, 0), (4, 2), (5, 2), (6, 0), (11, 0), (12, 0)] mixed (planFast_ok (by kernel_rfl)) (by rintro _ _ _ ⟨⟩) ?_
      clear hS; intro w hS
      refine pl_take rfl (yes_none rfl) (vr_move (v := str _) rfl) ?_
      refine pl_take rfl (yes_none rfl) (vr_move (v := .int .i64 _) rfl) ?_
      refine pl_take rfl (yes_none rfl) (vr_slice_to (l := crownB s) (h := k) Try.underlying9 rfl rfl (by omega)) ?_
      refine pl_take rfl (yes_none rfl) (vr_move (v := .int .u8 _) rfl) ?_
      refine pl_take rfl (yes_none rfl) (vr_move (v := str _) rfl) ?_
      refine pl_take rfl (yes_none rfl) (vr_move (v := .int .i64 _) rfl) ?_
      refine pl_take rfl (yes_none rfl) (vr_as (vr_addi rfl rfl (by unfold inI64; omega)) (congrArg (Value.int .i64) (show (k : Int) + 1 = ((k + 1 : Nat) : Int) by omega))) ?_
      refine pl_take rfl (yes_none rfl) (vr_slice_from (l := crownB s) (h := k + 1) Try.underlying9 rfl rfl (by omega)) ?_
      refine pl_act hS rfl (yes_none rfl) ?_
      clear hS; intro w hS
      refine (ow_buildSliceD (m := 1) (len := 1) (vs := [.int .u8 _]) (cs := [.int .u8 _]) hS Try.underlying50 if_5 rfl (by decide) (by decide) rfl rfl (by simp [Value.cells]) rfl ?_)
      clear hS; intro b122 w hS
      refine ⟨by first | exact hS | exact hS.tail1 | exact hS.tail1.tail1, ?_⟩
      refine pl_act hS rfl (yes_none rfl) ?_
      clear hS; intro w hS
      refine (ow_lr (S := Sat _ _) (lr_bytes_str (xs := [c]) Try.underlying50 Try.underlying5 Try.underlying9 rfl (View.single (x := c) rfl rfl (by decide)) (List.Mem.head _)) hS ⟨by first | exact hS | exact hS.tail1 | exact hS.tail1.tail1, ?_⟩)
      refine pl_take rfl (yes_none rfl) (vr_cat_s (a := (crownB s).take k) (b := [c]) rfl rfl (by rw [List.length_take]; simp; omega)) ?_
      refine pl_take rfl (yes_none rfl) (vr_cat_s (a := (crownB s).take k ++ [c]) (b := (crownB s).drop (k + 1)) rfl rfl (by rw [List.length_append, List.length_take, List.length_drop]; simp; omega)) ?_
      refine pl_take rfl (yes_none rfl) (vr_assign (v := str _) rfl) ?_
      refine pl_nil hS ?_
      clear hS; intro w hS
      replace hS := hS.tail1
      obtain ⟨sp, hsp⟩ : ∃ sp, sp = (crownB s).take k ++ [c] ++ (crownB s).drop (k + 1) := ⟨_, rfl⟩
      have hspl : sp.length ≤ 1000 := by rw [hsp, List.length_append, List.length_append, List.length_take, List.length_drop]; simp; omega
      rw [← hsp]
      refine hK14 _ _ ?_
      refine cw_seq fun K17 hK17 => ?_
      refine cw_seq fun K18 hK18 => ?_
      refine cw_region ?_
      refine wl_op rfl rfl (ow_vr (vr_move (v := str _) rfl) ?_)
      refine wl_op rfl rfl (ow_vr (vr_move (v := str _) rfl) ?_)
      refine wl_op rfl rfl (ow_vr (vr_buildA (vs := [(0, str _), (1, str _)]) (cs := [str _, str _]) zr_62 Try.underlying62 sz_9 rfl rfl) ?_)
      refine wl_op rfl rfl (ow_vr (vr_move (v := str _) rfl) ?_)
      refine wl_op rfl rfl (ow_vr (vr_move (v := str _) rfl) ?_)
      refine wl_op rfl rfl (ow_vr (vr_buildA (vs := [(0, str _), (1, str _)]) (cs := [str _, str _]) zr_62 Try.underlying62 sz_9 rfl rfl) ?_)
      refine wl_op rfl rfl (ow_vr (vr_move (v := str _) rfl) ?_)
      refine wl_op rfl rfl (ow_vr (vr_move (v := str _) rfl) ?_)
      refine wl_op rfl rfl (ow_vr (vr_buildA (vs := [(0, str _), (1, str _)]) (cs := [str _, str _]) zr_62 Try.underlying62 sz_9 rfl rfl) ?_)
      refine wl_op rfl rfl (ow_vr (vr_move (v := str _) rfl) ?_)
      refine wl_op rfl rfl (ow_vr (vr_move (v := str _) rfl) ?_)
      refine wl_op rfl rfl (ow_vr (vr_buildA (vs := [(0, str _), (1, str _)]) (cs := [str _, str _]) zr_62 Try.underlying62 sz_9 rfl rfl) ?_)
      refine wl_op rfl rfl (ow_vr (vr_move (v := str _) rfl) ?_)
      refine wl_op rfl rfl (ow_vr (vr_move (v := str _) rfl) ?_)
      refine wl_op rfl rfl (ow_vr (vr_buildA (vs := [(0, str _), (1, str _)]) (cs := [str _, str _]) zr_62 Try.underlying62 sz_9 rfl rfl) ?_)
      refine wl_op rfl rfl (ow_vr (vr_move (v := str _) rfl) ?_)
      refine wl_op rfl rfl (ow_vr (vr_move (v := str _) rfl) ?_)
      refine wl_op rfl rfl (ow_vr (vr_buildA (vs := [(0, str _), (1, str _)]) (cs := [str _, str _]) zr_62 Try.underlying62 sz_9 rfl rfl) ?_)
      refine wl_op rfl rfl (ow_buildSliceD (m := 2) (len := 6) (vs := [.agg #[str _, str _], .agg #[str _, str _], .agg #[str _, str _], .agg #[str _, str _], .agg #[str _, str _], .agg #[str _, str _]]) (cs := [str _, str _, str _, str _, str _, str _, str _, str _, str _, str _, str _, str _]) hS Try.underlying63 if_62 rfl (by decide) (by decide) rfl rfl (by simp [Value.cells]) rfl ?_)
      clear hS; intro b148 w hS
      first | (refine wl_op rfl rfl (ow_vr (vr_len_sl Try.underlying63 rfl) ?_)) | (refine wl_op rfl rfl (ow_vr (vr_len_v Try.underlying63 rfl (by first | assumption | (refine Own.view ?_ (by assumption); exact fun _ => rfl) | exact OwnB.view (by assumption))) ?_))
      refine wl_op rfl rfl (ow_vr (vr_move (v := .int .i64 0) rfl) ?_)
      refine wl_nil ?_
      have hv : View 2 encP (.slice (some ⟨b148, 0, none⟩) 6 6) [((crownB s), b), (b, (crownB s)), (sp, b), (b, sp), (raw, (crownB s)), (raw, sp)] [(b148, .cells [str (crownB s), str b, str b, str (crownB s), str sp, str b, str b, str sp, str raw, str (crownB s), str raw, str sp].toArray 62 (0, 0))] := View.lits rfl rfl rfl
      have hps : ∀ p ∈ [((crownB s), b), (b, (crownB s)), (sp, b), (b, sp), (raw, (crownB s)), (raw, sp)], p.1.length ≤ 1000 ∧ p.2.length ≤ 1000 := by simp only [List.mem_cons, List.not_mem_nil, or_false]; rintro p (rfl | rfl | rfl | rfl | rfl | rfl) <;> first | exact ⟨by simp; try omega, by simp; try omega⟩ | exact ⟨by omega, by omega⟩
      have hpl : [((crownB s), b), (b, (crownB s)), (sp, b), (b, sp), (raw, (crownB s)), (raw, sp)].length = 6 := rfl
      generalize hD : [(b148, Obj.cells [str (crownB s), str b, str b, str (crownB s), str sp, str b, str b, str sp, str raw, str (crownB s), str raw, str sp].toArray 62 (0, 0))] = D0 at hv hS
      generalize [((crownB s), b), (b, (crownB s)), (sp, b), (b, sp), (raw, (crownB s)), (raw, sp)] = ps at hv hps hpl
      clear hD
      replace hS : Sat E (D0 :: F) w := hS.front1.tail1.front1.tail1.front1.tail1
      refine hK18 _ _ ?_
      refine cw_block ?_
      refine cw_loop (fun m f w => ∃ (k : Nat) (v148 : Value) (D148 : Chunk) (g : Nat → Value), f = (upd (upd (upd (upd g 4 (str raw)) 148 (v148)) 149 (.int .i64 6)) 150 (.int .i64 (k : Int))) ∧ (k ≤ 6 ∧ View 2 encP v148 ps D148) ∧ m = 6 - k ∧ Sat E (D148 :: F) w) ⟨0, _, D0, _, (reb (reb (reb (reb rfl rfl) rfl) rfl) rfl), ?_, rfl, hS⟩ ?_
      · exact ⟨by omega, hv⟩
      clear hS; rintro m f w ⟨k, v148, D148, g, rfl, hI0, rfl, hS⟩
      obtain ⟨hk, hv148⟩ := hI0
      have hI0 := (⟨hk, hv148⟩ : k ≤ 6 ∧ View 2 encP v148 ps D148)
      refine cw_seq fun K19 hK19 => ?_
      refine cw_region ?_
      refine wl_op rfl rfl (ow_vr (vr_lss rfl rfl) ?_)
      refine wl_nil ?_
      refine hK19 _ _ ?_
      refine cw_seq fun K20 hK20 => ?_
      refine cw_cond rfl rfl (fun hc => ?_) (fun hc => ?_)
      · (try simp only [decide_eq_true_eq, decide_eq_false_iff_not, Bool.not_eq_true, Bool.not_eq_false, Bool.not_eq_true', Bool.not_eq_false', Bool.and_eq_true, Bool.or_eq_true, Bool.and_eq_false_iff, Bool.or_eq_false_iff, Int.not_lt, Int.not_le, gt_iff_lt, ge_iff_le, ne_eq, Decidable.not_not, beq_iff_eq] at hc)
        have hc4 := hc; clear hc
        refine cw_skip ?_
        refine hK20 _ _ ?_
        refine cw_seq fun K21 hK21 => ?_
        refine cw_block ?_
        refine cw_seq fun K22 hK22 => ?_
        obtain ⟨p, hp⟩ := get_lt (xs := ps) (k := k) (by omega)
        have hp2 := hps p (List.mem_of_getElem? hp)
        refine cw_region ?_
        first | (refine wl_op rfl rfl (ow_vr (vr_indexAddr Try.underlying63 sz_62 rfl rfl (by omega) (by omega)) ?_)) | (refine wl_op rfl rfl (ow_vr (vr_indexV (v := v148) Try.underlying63 sz_62 rfl (by first | assumption | (refine Own.view ?_ (by assumption); exact fun _ => rfl) | exact OwnB.view (by assumption)) rfl (by omega) (by first | omega | (simp <;> omega))) ?_))
        refine wl_op rfl rfl (ow_lr (S := Sat _ _) (lr_loadVA (cs := [str _, str _]) Try.underlying62 rfl sz_62 rfl (by first | assumption | (refine Own.view ?_ (by assumption); exact fun _ => rfl) | exact OwnB.view (by assumption)) (by first | exact List.Mem.head _ | exact List.Mem.tail _ (List.Mem.head _) | exact List.Mem.tail _ (List.Mem.tail _ (List.Mem.head _)) | exact List.Mem.tail _ (List.Mem.tail _ (List.Mem.tail _ (List.Mem.head _))) | exact List.Mem.tail _ (List.Mem.tail _ (List.Mem.tail _ (List.Mem.tail _ (List.Mem.head _)))) | exact List.Mem.tail _ (List.Mem.tail _ (List.Mem.tail _ (List.Mem.tail _ (List.Mem.tail _ (List.Mem.head _))))) | exact List.Mem.tail _ (List.Mem.tail _ (List.Mem.tail _ (List.Mem.tail _ (List.Mem.tail _ (List.Mem.tail _ (List.Mem.head _)))))) | exact List.Mem.tail _ (List.Mem.tail _ (List.Mem.tail _ (List.Mem.tail _ (List.Mem.tail _ (List.Mem.tail _ (List.Mem.tail _ (List.Mem.head _))))))) | exact List.Mem.tail _ (List.Mem.tail _ (List.Mem.tail _ (List.Mem.tail _ (List.Mem.tail _ (List.Mem.tail _ (List.Mem.tail _ (List.Mem.tail _ (List.Mem.head _)))))))) | exact (by assumption) | exact List.Mem.tail _ ((by assumption)) | exact List.Mem.tail _ (List.Mem.tail _ ((by assumption))) | exact List.Mem.tail _ (List.Mem.tail _ (List.Mem.tail _ ((by assumption)))) | exact List.Mem.tail _ (List.Mem.tail _ (List.Mem.tail _ (List.Mem.tail _ ((by assumption))))) | exact List.Mem.tail _ (List.Mem.tail _ (List.Mem.tail _ (List.Mem.tail _ (List.Mem.tail _ ((by assumption))))))) (hp) (by exact fun _ => rfl) (by rfl)) hS ?_)
        refine wl_op rfl rfl (ow_alloc (cs := [_, _]) hS zr_62 rfl ?_)
        clear hS; intro b20 w hS
        refine wl_op rfl rfl (ow_storeA (vs := [str _, str _]) hS sz_62 rfl rfl rfl rfl (by first | exact Has.here | exact Has.there (Has.here) | exact Has.there (Has.there (Has.here)) | exact Has.there (Has.there (Has.there (Has.here))) | exact Has.there (Has.there (Has.there (Has.there (Has.here)))) | exact Has.there (Has.there (Has.there (Has.there (Has.there (Has.here))))) | exact Has.there (Has.there (Has.there (Has.there (Has.there (Has.there (Has.here)))))) | exact Has.there (Has.there (Has.there (Has.there (Has.there (Has.there (Has.there (Has.here)))))))) (by simp) ?_)
        clear hS; intro w hS; try simp only [putAt, List.set_cons_zero, List.set_cons_succ] at hS
        refine wl_nil ?_
        refine hK22 _ _ ?_
        refine cw_seq fun K23 hK23 => ?_
        refine cw_region ?_
        refine wl_op rfl rfl (ow_vr (vr_indexAddrA Try.underlying62 sz_9 rfl rfl (by omega) (by omega)) ?_)
        refine wl_op rfl rfl (ow_lr (S := Sat _ _) (lr_load1 Try.underlying9 rfl rfl (by first | exact Has.here | exact Has.there (Has.here) | exact Has.there (Has.there (Has.here)) | exact Has.there (Has.there (Has.there (Has.here))) | exact Has.there (Has.there (Has.there (Has.there (Has.here)))) | exact Has.there (Has.there (Has.there (Has.there (Has.there (Has.here))))) | exact Has.there (Has.there (Has.there (Has.there (Has.there (Has.there (Has.here)))))) | exact Has.there (Has.there (Has.there (Has.there (Has.there (Has.there (Has.there (Has.here)))))))) rfl) hS ?_)
        refine wl_op rfl rfl (ow_vr (vr_indexAddrA Try.underlying62 sz_9 rfl rfl (by omega) (by omega)) ?_)
        refine wl_op rfl rfl (ow_lr (S := Sat _ _) (lr_load1 Try.underlying9 rfl rfl (by first | exact Has.here | exact Has.there (Has.here) | exact Has.there (Has.there (Has.here)) | exact Has.there (Has.there (Has.there (Has.here))) | exact Has.there (Has.there (Has.there (Has.there (Has.here)))) | exact Has.there (Has.there (Has.there (Has.there (Has.there (Has.here))))) | exact Has.there (Has.there (Has.there (Has.there (Has.there (Has.there (Has.here)))))) | exact Has.there (Has.there (Has.there (Has.there (Has.there (Has.there (Has.there (Has.here)))))))) rfl) hS ?_)
        refine wl_op rfl rfl (ow_fn (vs := [str _, str _]) en_53 rfl hS (crown_Newer p.1 p.2 hp2.1 hp2.2) ?_)
        clear hS; rintro _ _ w ⟨rfl, rfl⟩ hS; (try simp only [List.cons_append, List.nil_append] at hS)
        refine wl_op rfl rfl (ow_vr (vr_move (v := .tuple _) rfl) ?_)
        refine wl_op rfl rfl (ow_vr (vr_extract (v := .agg _) rfl rfl) ?_)
        refine wl_op rfl rfl (ow_vr (vr_extract (v := .int .i64 _) rfl rfl) ?_)
        refine wl_op rfl rfl (ow_vr (vr_extract (v := .bool _) rfl rfl) ?_)
        refine wl_op rfl rfl (ow_alloc (cs := [_, _, _, _, _]) hS zr_55 rfl ?_)
        clear hS; intro b21 w hS
        refine wl_op rfl rfl (ow_storeA (vs := [.int .i64 _, .int .i64 _, .int .i64 _, .int .i64 _, .int .i64 _]) hS sz_55 rfl rfl rfl rfl (by first | exact Has.here | exact Has.there (Has.here) | exact Has.there (Has.there (Has.here)) | exact Has.there (Has.there (Has.there (Has.here))) | exact Has.there (Has.there (Has.there (Has.there (Has.here)))) | exact Has.there (Has.there (Has.there (Has.there (Has.there (Has.here))))) | exact Has.there (Has.there (Has.there (Has.there (Has.there (Has.there (Has.here)))))) | exact Has.there (Has.there (Has.there (Has.there (Has.there (Has.there (Has.there (Has.here)))))))) (by simp) ?_)
        clear hS; intro w hS; try simp only [putAt, List.set_cons_zero, List.set_cons_succ] at hS
        refine wl_op rfl rfl (ow_vr (vr_assign (v := .int .i64 _) rfl) ?_)
        refine wl_op rfl rfl (ow_vr (vr_assign (v := .bool _) rfl) ?_)
        refine wl_nil ?_
        refine hK23 _ _ ?_
        refine cw_seq fun K24 hK24 => ?_
        refine cw_region ?_
        refine wl_op rfl rfl (ow_vr (vr_indexAddrA Try.underlying62 sz_9 rfl rfl (by omega) (by omega)) ?_)
        refine wl_op rfl rfl (ow_lr (S := Sat _ _) (lr_load1 Try.underlying9 rfl rfl (by first | exact Has.here | exact Has.there (Has.here) | exact Has.there (Has.there (Has.here)) | exact Has.there (Has.there (Has.there (Has.here))) | exact Has.there (Has.there (Has.there (Has.there (Has.here)))) | exact Has.there (Has.there (Has.there (Has.there (Has.there (Has.here))))) | exact Has.there (Has.there (Has.there (Has.there (Has.there (Has.there (Has.here)))))) | exact Has.there (Has.there (Has.there (Has.there (Has.there (Has.there (Has.there (Has.here)))))))) rfl) hS ?_)
        refine wl_op rfl rfl (ow_vr (vr_indexAddrA Try.underlying62 sz_9 rfl rfl (by omega) (by omega)) ?_)
        refine wl_op rfl rfl (ow_lr (S := Sat _ _) (lr_load1 Try.underlying9 rfl rfl (by first | exact Has.here | exact Has.there (Has.here) | exact Has.there (Has.there (Has.here)) | exact Has.there (Has.there (Has.there (Has.here))) | exact Has.there (Has.there (Has.there (Has.there (Has.here)))) | exact Has.there (Has.there (Has.there (Has.there (Has.there (Has.here))))) | exact Has.there (Has.there (Has.there (Has.there (Has.there (Has.there (Has.here)))))) | exact Has.there (Has.there (Has.there (Has.there (Has.there (Has.there (Has.there (Has.here)))))))) rfl) hS ?_)
        refine wl_op rfl rfl (ow_fn (vs := [str _, str _]) en_54 rfl hS (ref_Newer p.1 p.2 hp2.1 hp2.2) ?_)
        clear hS; rintro _ _ w ⟨rfl, rfl⟩ hS; (try simp only [List.cons_append, List.nil_append] at hS)
        refine wl_op rfl rfl (ow_vr (vr_move (v := .tuple _) rfl) ?_)
        refine wl_op rfl rfl (ow_vr (vr_extract (v := .agg _) rfl rfl) ?_)
        refine wl_op rfl rfl (ow_vr (vr_extract (v := .int .i64 _) rfl rfl) ?_)
        refine wl_op rfl rfl (ow_vr (vr_extract (v := .bool _) rfl rfl) ?_)
        refine wl_op rfl rfl (ow_alloc (cs := [_, _, _, _, _]) hS zr_55 rfl ?_)
        clear hS; intro b24 w hS
        refine wl_op rfl rfl (ow_storeA (vs := [.int .i64 _, .int .i64 _, .int .i64 _, .int .i64 _, .int .i64 _]) hS sz_55 rfl rfl rfl rfl (by first | exact Has.here | exact Has.there (Has.here) | exact Has.there (Has.there (Has.here)) | exact Has.there (Has.there (Has.there (Has.here))) | exact Has.there (Has.there (Has.there (Has.there (Has.here)))) | exact Has.there (Has.there (Has.there (Has.there (Has.there (Has.here))))) | exact Has.there (Has.there (Has.there (Has.there (Has.there (Has.there (Has.here)))))) | exact Has.there (Has.there (Has.there (Has.there (Has.there (Has.there (Has.there (Has.here)))))))) (by simp) ?_)
        clear hS; intro w hS; try simp only [putAt, List.set_cons_zero, List.set_cons_succ] at hS
        refine wl_op rfl rfl (ow_vr (vr_assign (v := .int .i64 _) rfl) ?_)
        refine wl_op rfl rfl (ow_vr (vr_assign (v := .bool _) rfl) ?_)
        refine wl_nil ?_
        refine hK24 _ _ ?_
        refine cw_seq fun K25 hK25 => ?_
        refine cw_region ?_
        refine wl_op rfl rfl (ow_lr (S := Sat _ _) (lr_loadA (vs := [.int .i64 _, .int .i64 _, .int .i64 _, .int .i64 _, .int .i64 _]) Try.underlying55 rfl sz_55 rfl (by first | exact Has.here | exact Has.there (Has.here) | exact Has.there (Has.there (Has.here)) | exact Has.there (Has.there (Has.there (Has.here))) | exact Has.there (Has.there (Has.there (Has.there (Has.here)))) | exact Has.there (Has.there (Has.there (Has.there (Has.there (Has.here))))) | exact Has.there (Has.there (Has.there (Has.there (Has.there (Has.there (Has.here)))))) | exact Has.there (Has.there (Has.there (Has.there (Has.there (Has.there (Has.there (Has.here)))))))) rfl rfl) hS ?_)
        refine wl_op rfl rfl (ow_lr (S := Sat _ _) (lr_loadA (vs := [.int .i64 _, .int .i64 _, .int .i64 _, .int .i64 _, .int .i64 _]) Try.underlying55 rfl sz_55 rfl (by first | exact Has.here | exact Has.there (Has.here) | exact Has.there (Has.there (Has.here)) | exact Has.there (Has.there (Has.there (Has.here))) | exact Has.there (Has.there (Has.there (Has.there (Has.here)))) | exact Has.there (Has.there (Has.there (Has.there (Has.there (Has.here))))) | exact Has.there (Has.there (Has.there (Has.there (Has.there (Has.there (Has.here)))))) | exact Has.there (Has.there (Has.there (Has.there (Has.there (Has.there (Has.there (Has.here)))))))) rfl rfl) hS ?_)
        refine wl_op rfl rfl (ow_vr (vr_neq_st eg_55 rfl rfl (eq_55 _ _ _ _ _ _ _ _ _ _)) ?_)
        refine wl_op rfl rfl (ow_vr (vr_move (v := .bool _) rfl) ?_)
        refine wl_known 175 rfl (c := false) (by simp) ?_
        refine wl_yes rfl rfl rfl rfl rfl (ow_vr (vr_move (v := .int .i64 _) rfl) ?_)
        refine wl_yes rfl rfl rfl rfl rfl (ow_vr (vr_move (v := .int .i64 _) rfl) ?_)
        refine wl_yes rfl rfl rfl rfl rfl (ow_vr (vr_neq rfl rfl) ?_)
        refine wl_op rfl rfl (ow_vr (vr_pick (b := false) (v := .bool _) rfl rfl) ?_)
        refine wl_op rfl rfl (ow_vr (vr_move (v := .bool _) rfl) ?_)
        refine wl_known 180 rfl (c := false) (by simp) ?_
        refine wl_yes rfl rfl rfl rfl rfl (ow_vr (vr_move (v := .bool _) rfl) ?_)
        refine wl_yes rfl rfl rfl rfl rfl (ow_vr (vr_move (v := .bool _) rfl) ?_)
        refine wl_yes rfl rfl rfl rfl rfl (ow_vr (vr_neqb Try.underlying4 rfl rfl) ?_)
        refine wl_op rfl rfl (ow_vr (vr_pick (b := false) (v := .bool _) rfl rfl) ?_)
        refine wl_nil ?_
        refine hK25 _ _ ?_
        refine cw_cond_f rfl rfl (by simp) ?_
        refine cw_skip ?_
        refine hK21 _ _ ?_
        replace hS := hS.tail1.tail1.tail1
        refine cw_region ?_
        first | (refine wl_op rfl rfl (ow_vr (vr_addi rfl rfl (by unfold inI64; omega)) ?_)) | (refine wl_op rfl rfl (ow_vr (vr_add rfl rfl) ?_))
        refine wl_op rfl rfl (ow_vr (vr_move (v := .int .i64 _) rfl) ?_)
        refine wl_nil ?_
        refine thenF_normal ⟨_, ?_, k + 1, v148, D148, _, (reb (reb (reb (reb rfl rfl) rfl) rfl) rfl), ?_, rfl, hS⟩
        · omega
        · exact ⟨by omega, hI0.2⟩
      · (try simp only [decide_eq_true_eq, decide_eq_false_iff_not, Bool.not_eq_true, Bool.not_eq_false, Bool.not_eq_true', Bool.not_eq_false', Bool.and_eq_true, Bool.or_eq_true, Bool.and_eq_false_iff, Bool.or_eq_false_iff, Int.not_lt, Int.not_le, gt_iff_lt, ge_iff_le, ne_eq, Decidable.not_not, beq_iff_eq] at hc)
        have hc4 := hc; clear hc
        refine cw_exit ?_
        refine hK17 _ _ ?_
        refine cw_seq fun K26 hK26 => ?_
        replace hS := hS.tail1
        refine cw_region ?_
        refine wl_op rfl rfl (ow_vr (vr_move (v := (str raw)) rfl) ?_)
        refine wl_op rfl rfl (ow_fn (vs := [(str raw)]) en_52 rfl hS (crown_Get raw (by omega)) ?_)
        clear hS; rintro _ _ w ⟨rfl, rfl⟩ hS; (try simp only [List.cons_append, List.nil_append] at hS)
        refine wl_op rfl rfl (ow_vr (vr_move (v := .tuple _) rfl) ?_)
        refine wl_op rfl rfl (ow_vr (vr_extract (v := .agg _) rfl rfl) ?_)
        refine wl_op rfl rfl (ow_vr (vr_extract (v := .bool _) rfl rfl) ?_)
        refine wl_op rfl rfl (ow_alloc (cs := [_, _, _, _, _]) hS zr_55 rfl ?_)
        clear hS; intro b27 w hS
        refine wl_op rfl rfl (ow_storeA (vs := [.int .i64 _, .int .i64 _, .int .i64 _, .int .i64 _, .int .i64 _]) hS sz_55 rfl rfl rfl rfl (by first | exact Has.here | exact Has.there (Has.here) | exact Has.there (Has.there (Has.here)) | exact Has.there (Has.there (Has.there (Has.here))) | exact Has.there (Has.there (Has.there (Has.there (Has.here)))) | exact Has.there (Has.there (Has.there (Has.there (Has.there (Has.here))))) | exact Has.there (Has.there (Has.there (Has.there (Has.there (Has.there (Has.here)))))) | exact Has.there (Has.there (Has.there (Has.there (Has.there (Has.there (Has.there (Has.here)))))))) (by simp) ?_)
        clear hS; intro w hS; try simp only [putAt, List.set_cons_zero, List.set_cons_succ] at hS
        refine wl_op rfl rfl (ow_vr (vr_assign (v := .bool _) rfl) ?_)
        refine wl_nil ?_
        refine hK26 _ _ ?_
        refine cw_seq fun K27 hK27 => ?_
        refine cw_region ?_
        refine wl_op rfl rfl (ow_vr (vr_move (v := (str raw)) rfl) ?_)
        refine wl_op rfl rfl (ow_fn (vs := [(str raw)]) en_55 rfl hS (ref_Crowned raw (by omega)) ?_)
        clear hS; rintro _ _ w ⟨rfl, rfl⟩ hS; (try simp only [List.cons_append, List.nil_append] at hS)
        refine wl_op rfl rfl (ow_vr (vr_move (v := .tuple _) rfl) ?_)
        refine wl_op rfl rfl (ow_vr (vr_extract (v := .agg _) rfl rfl) ?_)
        refine wl_op rfl rfl (ow_vr (vr_extract (v := .bool _) rfl rfl) ?_)
        refine wl_op rfl rfl (ow_alloc (cs := [_, _, _, _, _]) hS zr_55 rfl ?_)
        clear hS; intro b29 w hS
        refine wl_op rfl rfl (ow_storeA (vs := [.int .i64 _, .int .i64 _, .int .i64 _, .int .i64 _, .int .i64 _]) hS sz_55 rfl rfl rfl rfl (by first | exact Has.here | exact Has.there (Has.here) | exact Has.there (Has.there (Has.here)) | exact Has.there (Has.there (Has.there (Has.here))) | exact Has.there (Has.there (Has.there (Has.there (Has.here)))) | exact Has.there (Has.there (Has.there (Has.there (Has.there (Has.here))))) | exact Has.there (Has.there (Has.there (Has.there (Has.there (Has.there (Has.here)))))) | exact Has.there (Has.there (Has.there (Has.there (Has.there (Has.there (Has.there (Has.here)))))))) (by simp) ?_)
        clear hS; intro w hS; try simp only [putAt, List.set_cons_zero, List.set_cons_succ] at hS
        refine wl_op rfl rfl (ow_vr (vr_assign (v := .bool _) rfl) ?_)
        refine wl_nil ?_
        refine hK27 _ _ ?_
        refine cw_seq fun K28 hK28 => ?_
        refine cw_region ?_
        refine wl_op rfl rfl (ow_lr (S := Sat _ _) (lr_loadA (vs := [.int .i64 _, .int .i64 _, .int .i64 _, .int .i64 _, .int .i64 _]) Try.underlying55 rfl sz_55 rfl (by first | exact Has.here | exact Has.there (Has.here) | exact Has.there (Has.there (Has.here)) | exact Has.there (Has.there (Has.there (Has.here))) | exact Has.there (Has.there (Has.there (Has.there (Has.here)))) | exact Has.there (Has.there (Has.there (Has.there (Has.there (Has.here))))) | exact Has.there (Has.there (Has.there (Has.there (Has.there (Has.there (Has.here)))))) | exact Has.there (Has.there (Has.there (Has.there (Has.there (Has.there (Has.there (Has.here)))))))) rfl rfl) hS ?_)
        refine wl_op rfl rfl (ow_lr (S := Sat _ _) (lr_loadA (vs := [.int .i64 _, .int .i64 _, .int .i64 _, .int .i64 _, .int .i64 _]) Try.underlying55 rfl sz_55 rfl (by first | exact Has.here | exact Has.there (Has.here) | exact Has.there (Has.there (Has.here)) | exact Has.there (Has.there (Has.there (Has.here))) | exact Has.there (Has.there (Has.there (Has.there (Has.here)))) | exact Has.there (Has.there (Has.there (Has.there (Has.there (Has.here))))) | exact Has.there (Has.there (Has.there (Has.there (Has.there (Has.there (Has.here)))))) | exact Has.there (Has.there (Has.there (Has.there (Has.there (Has.there (Has.there (Has.here)))))))) rfl rfl) hS ?_)
        refine wl_op rfl rfl (ow_vr (vr_eql_st eg_55 rfl rfl (eq_55 _ _ _ _ _ _ _ _ _ _)) ?_)
        refine wl_op rfl rfl (ow_vr (vr_move (v := .bool _) rfl) ?_)
        refine wl_known 199 rfl (c := true) (by simp) ?_
        refine wl_yes rfl rfl rfl rfl rfl (ow_vr (vr_move (v := .bool _) rfl) ?_)
        refine wl_yes rfl rfl rfl rfl rfl (ow_vr (vr_move (v := .bool _) rfl) ?_)
        refine wl_yes rfl rfl rfl rfl rfl (ow_vr (vr_eqlb Try.underlying4 rfl rfl) ?_)
        refine wl_op rfl rfl (ow_vr (vr_pick (b := true) (v := .bool _) rfl rfl) ?_)
        refine wl_op rfl rfl (ow_vr (vr_assign (v := .bool _) rfl) ?_)
        refine wl_nil ?_
        refine hK28 _ _ ?_
        refine cw_ret ?_
        refine ret_one (fn := Try.f12) (n := 204) (t := 10) (.inl rfl) rfl rfl ?_
        exact ⟨congrArg Value.bool (by simp), hS.tail1.tail1⟩
set_option maxHeartbeats 1000000 in
theorem crown_tells_f (s t : Sup) (at_ : Int) (c : UInt8) (raw : List UInt8) (hraw : raw.length ≤ 9223372036854775807) (hr : rightS s = false) : FnV Try.prog 12 [supV s, supV t, .int .i64 at_, .int .u8 (c.toNat : Int), str raw] (.bool true) := by
  refine FnV.mk fun E F w hS => ?_
  have hput2 := crown_Put t
  have hsup2 := ref_Super t
  have hlb : (if rightS t then crownB t else []).length ≤ 1000 := by
    split
    · rename_i h; rw [crown_length h]; omega
    · simp
  generalize hb : (if rightS t then crownB t else []) = b at hput2 hlb
  generalize hob : rightS t = ob at hput2 hsup2
  clear hb hob
  have hsup : FnV Try.prog 48 [supV s] (.bool false) := by have := ref_Super s; rwa [hr] at this
  have hright : FnV Try.prog 49 [supV s] (.bool false) := by have := crown_Right s; rwa [hr] at this
  refine returns_enter Try.func12 rfl Try.ntmps12 rfl ?_
  refine cw_seq fun K1 hK1 => ?_
  refine cw_region ?_
  refine wl_op rfl rfl (ow_box (cs := [_, _, _, _, _]) hS rfl rfl ?_)
  clear hS; intro b5 w hS
  refine wl_op rfl rfl (ow_box (cs := [_, _, _, _, _]) hS rfl rfl ?_)
  clear hS; intro b6 w hS
  refine wl_op rfl rfl (ow_vr (vr_assign (v := .bool false) rfl) ?_)
  refine wl_nil ?_
  refine hK1 _ _ ?_
  refine cw_seq fun K2 hK2 => ?_
  refine cw_seq fun K3 hK3 => ?_
  refine cw_region ?_
  refine wl_op rfl rfl (ow_vr (vr_move (v := str _) rfl) ?_)
  refine wl_op rfl rfl (ow_vr (vr_len_s Try.underlying9 rfl) ?_)
  refine wl_op rfl rfl (ow_vr (vr_gtr rfl rfl) ?_)
  refine wl_op rfl rfl (ow_vr (vr_move (v := .bool _) rfl) ?_)
  refine wl_split 34 rfl (fun hc => ?_) (fun hc => ?_)
  · (try simp only [decide_eq_true_eq, decide_eq_false_iff_not, Bool.not_eq_true, Bool.not_eq_false, Bool.not_eq_true', Bool.not_eq_false', Bool.and_eq_true, Bool.or_eq_true, Bool.and_eq_false_iff, Bool.or_eq_false_iff, Int.not_lt, Int.not_le, gt_iff_lt, ge_iff_le, ne_eq, Decidable.not_not, beq_iff_eq] at hc)
    have hg34 := hc; clear hc
    refine wl_noD rfl rfl rfl rfl rfl rfl ?_
    refine wl_noD rfl rfl rfl rfl rfl rfl ?_
    refine wl_op rfl rfl (ow_vr (vr_pick (b := true) (v := .bool _) rfl rfl) ?_)
    refine wl_nil ?_
    refine hK3 _ _ ?_
    refine cw_cond_t rfl rfl (rfl) ?_
    refine cw_seq fun K4 hK4 => ?_
    refine cw_region ?_
    refine wl_op rfl rfl (ow_fn (vs := []) en_46 rfl hS (alive5) ?_)
    clear hS; rintro _ _ w ⟨rfl, rfl⟩ hS; (try simp only [List.cons_append, List.nil_append] at hS)
    refine wl_op rfl rfl (ow_vr (vr_assign (v := .bool _) rfl) ?_)
    refine wl_nil ?_
    refine hK4 _ _ ?_
    refine cw_ret ?_
    refine thenF_ret (?_)
    refine ret_one (fn := Try.f12) (n := 204) (t := 10) (.inl rfl) rfl rfl ?_
    exact ⟨rfl, hS.tail1.tail1⟩
  · (try simp only [decide_eq_true_eq, decide_eq_false_iff_not, Bool.not_eq_true, Bool.not_eq_false, Bool.not_eq_true', Bool.not_eq_false', Bool.and_eq_true, Bool.or_eq_true, Bool.and_eq_false_iff, Bool.or_eq_false_iff, Int.not_lt, Int.not_le, gt_iff_lt, ge_iff_le, ne_eq, Decidable.not_not, beq_iff_eq] at hc)
    have hg34 := hc; clear hc
    refine wl_yes rfl rfl rfl rfl rfl (ow_fn (vs := []) en_46 rfl hS (alive5) ?_)
    clear hS; rintro _ _ w ⟨rfl, rfl⟩ hS; (try simp only [List.cons_append, List.nil_append] at hS)
    refine wl_yes rfl rfl rfl rfl rfl (ow_vr (vr_not rfl) ?_)
    refine wl_op rfl rfl (ow_vr (vr_pick (b := false) (v := .bool _) rfl rfl) ?_)
    refine wl_nil ?_
    refine hK3 _ _ ?_
    refine cw_cond rfl rfl (fun hc => ?_) (fun hc => ?_)
    · (try simp only [decide_eq_true_eq, decide_eq_false_iff_not, Bool.not_eq_true, Bool.not_eq_false, Bool.not_eq_true', Bool.not_eq_false', Bool.and_eq_true, Bool.or_eq_true, Bool.and_eq_false_iff, Bool.or_eq_false_iff, Int.not_lt, Int.not_le, gt_iff_lt, ge_iff_le, ne_eq, Decidable.not_not, beq_iff_eq] at hc)
      have hc0 := hc; clear hc
      refine cw_seq fun K5 hK5 => ?_
      refine cw_region ?_
      refine wl_op rfl rfl (ow_fn (vs := []) en_46 rfl hS (alive5) ?_)
      clear hS; rintro _ _ w ⟨rfl, rfl⟩ hS; (try simp only [List.cons_append, List.nil_append] at hS)
      refine wl_op rfl rfl (ow_vr (vr_assign (v := .bool _) rfl) ?_)
      refine wl_nil ?_
      refine hK5 _ _ ?_
      refine cw_ret ?_
      refine thenF_ret (?_)
      refine ret_one (fn := Try.f12) (n := 204) (t := 10) (.inl rfl) rfl rfl ?_
      exact ⟨rfl, hS.tail1.tail1⟩
    · (try simp only [decide_eq_true_eq, decide_eq_false_iff_not, Bool.not_eq_true, Bool.not_eq_false, Bool.not_eq_true', Bool.not_eq_false', Bool.and_eq_true, Bool.or_eq_true, Bool.and_eq_false_iff, Bool.or_eq_false_iff, Int.not_lt, Int.not_le, gt_iff_lt, ge_iff_le, ne_eq, Decidable.not_not, beq_iff_eq] at hc)
      have hc0 := hc; clear hc
      refine cw_skip ?_
      refine hK2 _ _ ?_
      refine cw_seq fun K6 hK6 => ?_
      refine cw_region ?_
      refine wl_op rfl rfl (ow_lr (S := Sat _ _) (lr_loadA (vs := [.int .i64 _, .int .i64 _, .int .i64 _, .int .i64 _, .int .i64 _]) Try.underlying55 rfl sz_55 rfl (by first | exact Has.here | exact Has.there (Has.here) | exact Has.there (Has.there (Has.here)) | exact Has.there (Has.there (Has.there (Has.here))) | exact Has.there (Has.there (Has.there (Has.there (Has.here)))) | exact Has.there (Has.there (Has.there (Has.there (Has.there (Has.here))))) | exact Has.there (Has.there (Has.there (Has.there (Has.there (Has.there (Has.here)))))) | exact Has.there (Has.there (Has.there (Has.there (Has.there (Has.there (Has.there (Has.here)))))))) rfl rfl) hS ?_)
      refine wl_op rfl rfl (ow_fn (vs := [.agg _]) en_47 rfl hS (crown_PutF hr) ?_)
      clear hS; rintro _ _ w ⟨rfl, rfl⟩ hS; (try simp only [List.cons_append, List.nil_append] at hS)
      refine wl_op rfl rfl (ow_vr (vr_move (v := .tuple _) rfl) ?_)
      refine wl_op rfl rfl (ow_vr (vr_extract (v := str _) rfl rfl) ?_)
      refine wl_op rfl rfl (ow_vr (vr_extract (v := .bool _) rfl rfl) ?_)
      refine wl_op rfl rfl (ow_vr (vr_assign (v := str _) rfl) ?_)
      refine wl_op rfl rfl (ow_vr (vr_assign (v := .bool _) rfl) ?_)
      refine wl_nil ?_
      refine hK6 _ _ ?_
      refine cw_seq fun K7 hK7 => ?_
      refine cw_region ?_
      refine wl_op rfl rfl (ow_lr (S := Sat _ _) (lr_loadA (vs := [.int .i64 _, .int .i64 _, .int .i64 _, .int .i64 _, .int .i64 _]) Try.underlying55 rfl sz_55 rfl (by first | exact Has.here | exact Has.there (Has.here) | exact Has.there (Has.there (Has.here)) | exact Has.there (Has.there (Has.there (Has.here))) | exact Has.there (Has.there (Has.there (Has.there (Has.here)))) | exact Has.there (Has.there (Has.there (Has.there (Has.there (Has.here))))) | exact Has.there (Has.there (Has.there (Has.there (Has.there (Has.there (Has.here)))))) | exact Has.there (Has.there (Has.there (Has.there (Has.there (Has.there (Has.there (Has.here)))))))) rfl rfl) hS ?_)
      refine wl_op rfl rfl (ow_fn (vs := [.agg _]) en_47 rfl hS (hput2) ?_)
      clear hS; rintro _ _ w ⟨rfl, rfl⟩ hS; (try simp only [List.cons_append, List.nil_append] at hS)
      refine wl_op rfl rfl (ow_vr (vr_move (v := .tuple _) rfl) ?_)
      refine wl_op rfl rfl (ow_vr (vr_extract (v := str _) rfl rfl) ?_)
      refine wl_op rfl rfl (ow_vr (vr_extract (v := .bool _) rfl rfl) ?_)
      refine wl_op rfl rfl (ow_vr (vr_assign (v := str _) rfl) ?_)
      refine wl_op rfl rfl (ow_vr (vr_assign (v := .bool _) rfl) ?_)
      refine wl_nil ?_
      refine hK7 _ _ ?_
      refine cw_seq fun K8 hK8 => ?_
      refine cw_seq fun K9 hK9 => ?_
      refine cw_draw_sat hS [(0, 0), (1, 1), (2, 2), (3, 0), (4, 0), (5, 1), (7, 0), (6, 2), (8, 0), (9, 0), (10, 0), (11, 0), (12, 1), (13, 2), (14, 0), (15, 0), (16, 0), (17, 0), (18, 0), (19, 0), (20, 1), (21, 2), (22, 0), (23, 0), (24, 0), (25, 0), (26, 0), (27, 0), (28, 0), (29, 0), (30, 0), (31, 0), (32, 0), (33, 0), (34, 1), (36, 0), (37, 1), (38, 0), (35, 2), (39, 0), (40, 0)] mixed (planFast_ok (by kernel_rfl)) (by rintro _ _ _ ⟨⟩) ?_
      clear hS; intro w hS
      refine pl_take rfl (yes_none rfl) (vr_move (v := .bool _) rfl) ?_
      refine pl_load rfl (yes_none rfl) (lr_loadA (vs := [.int .i64 _, .int .i64 _, .int .i64 _, .int .i64 _, .int .i64 _]) Try.underlying55 rfl sz_55 rfl (by first | exact Has.here | exact Has.there (Has.here) | exact Has.there (Has.there (Has.here)) | exact Has.there (Has.there (Has.there (Has.here))) | exact Has.there (Has.there (Has.there (Has.there (Has.here)))) | exact Has.there (Has.there (Has.there (Has.there (Has.there (Has.here))))) | exact Has.there (Has.there (Has.there (Has.there (Has.there (Has.there (Has.here)))))) | exact Has.there (Has.there (Has.there (Has.there (Has.there (Has.there (Has.there (Has.here)))))))) rfl rfl) ?_
      refine pl_act hS rfl (yes_none rfl) ?_
      clear hS; intro w hS
      refine (ow_fn (vs := [.agg _]) en_48 rfl hS (hsup) ?_)
      clear hS; rintro _ _ w ⟨rfl, rfl⟩ hS; (try simp only [List.cons_append, List.nil_append] at hS)
      refine ⟨by first | exact hS | exact hS.tail1 | exact hS.tail1.tail1, ?_⟩
      refine pl_take rfl (yes_none rfl) (vr_neqb Try.underlying4 rfl rfl) ?_
      refine pl_take rfl (yes_none rfl) (vr_move (v := .bool _) rfl) ?_
      refine pl_known 53 rfl (c := false) (by simp) ?_
      refine pl_load rfl (yes_some rfl rfl rfl rfl) (lr_loadA (vs := [.int .i64 _, .int .i64 _, .int .i64 _, .int .i64 _, .int .i64 _]) Try.underlying55 rfl sz_55 rfl (by first | exact Has.here | exact Has.there (Has.here) | exact Has.there (Has.there (Has.here)) | exact Has.there (Has.there (Has.there (Has.here))) | exact Has.there (Has.there (Has.there (Has.there (Has.here)))) | exact Has.there (Has.there (Has.there (Has.there (Has.there (Has.here))))) | exact Has.there (Has.there (Has.there (Has.there (Has.there (Has.there (Has.here)))))) | exact Has.there (Has.there (Has.there (Has.there (Has.there (Has.there (Has.there (Has.here)))))))) rfl rfl) ?_
      refine pl_take rfl (yes_some rfl rfl rfl rfl) (vr_move (v := .bool _) rfl) ?_
      refine pl_act hS rfl (yes_some rfl rfl rfl rfl) ?_
      clear hS; intro w hS
      refine (ow_fn (vs := [.agg _]) en_49 rfl hS (hright) ?_)
      clear hS; rintro _ _ w ⟨rfl, rfl⟩ hS; (try simp only [List.cons_append, List.nil_append] at hS)
      refine ⟨by first | exact hS | exact hS.tail1 | exact hS.tail1.tail1, ?_⟩
      refine pl_take rfl (yes_some rfl rfl rfl rfl) (vr_neqb Try.underlying4 rfl rfl) ?_
      refine pl_take rfl (yes_none rfl) (vr_pick (b := false) (v := .bool _) rfl rfl) ?_
      refine pl_take rfl (yes_none rfl) (vr_move (v := .bool _) rfl) ?_
      refine pl_known 59 rfl (c := false) (by simp) ?_
      refine pl_take rfl (yes_some rfl rfl rfl rfl) (vr_move (v := .bool _) rfl) ?_
      refine pl_load rfl (yes_some rfl rfl rfl rfl) (lr_loadA (vs := [.int .i64 _, .int .i64 _, .int .i64 _, .int .i64 _, .int .i64 _]) Try.underlying55 rfl sz_55 rfl (by first | exact Has.here | exact Has.there (Has.here) | exact Has.there (Has.there (Has.here)) | exact Has.there (Has.there (Has.there (Has.here))) | exact Has.there (Has.there (Has.there (Has.there (Has.here)))) | exact Has.there (Has.there (Has.there (Has.there (Has.there (Has.here))))) | exact Has.there (Has.there (Has.there (Has.there (Has.there (Has.there (Has.here)))))) | exact Has.there (Has.there (Has.there (Has.there (Has.there (Has.there (Has.there (Has.here)))))))) rfl rfl) ?_
      refine pl_act hS rfl (yes_some rfl rfl rfl rfl) ?_
      clear hS; intro w hS
      refine (ow_fn (vs := [.agg _]) en_48 rfl hS (hsup2) ?_)
      clear hS; rintro _ _ w ⟨rfl, rfl⟩ hS; (try simp only [List.cons_append, List.nil_append] at hS)
      refine ⟨by first | exact hS | exact hS.tail1 | exact hS.tail1.tail1, ?_⟩
      refine pl_take rfl (yes_some rfl rfl rfl rfl) (vr_neqb Try.underlying4 rfl rfl) ?_
      refine pl_take rfl (yes_none rfl) (vr_pick (b := false) (v := .bool _) rfl rfl) ?_
      refine pl_take rfl (yes_none rfl) (vr_move (v := .bool _) rfl) ?_
      refine pl_known 65 rfl (c := false) (by simp) ?_
      refine pl_take rfl (yes_some rfl rfl rfl rfl) (vr_move (v := .bool _) rfl) ?_
      refine pl_take rfl (yes_some rfl rfl rfl rfl) (vr_move (v := .bool _) rfl) ?_
      refine pl_known 67 rfl (c := false) (rfl) ?_
      refine pl_noD rfl (yes_not rfl rfl rfl rfl rfl) ?_
      refine pl_noD rfl (yes_not rfl rfl rfl rfl rfl) ?_
      refine pl_noD rfl (yes_not rfl rfl rfl rfl rfl) ?_
      refine pl_noD rfl (yes_not rfl rfl rfl rfl rfl) ?_
      refine pl_take rfl (yes_some rfl rfl rfl rfl) (vr_pick (b := false) (v := .bool _) rfl rfl) ?_
      refine pl_take rfl (yes_none rfl) (vr_pick (b := false) (v := .bool _) rfl rfl) ?_
      refine pl_take rfl (yes_none rfl) (vr_move (v := .bool _) rfl) ?_
      refine pl_take rfl (yes_some rfl rfl rfl rfl) (vr_move (v := .bool _) rfl) ?_
      refine pl_take rfl (yes_some rfl rfl rfl rfl) (vr_not rfl) ?_
      refine pl_take rfl (yes_some rfl rfl rfl rfl) (vr_move (v := .bool _) rfl) ?_
      refine pl_known 77 rfl (c := true) (rfl) ?_
      refine pl_take rfl (yes_some rfl rfl rfl rfl) (vr_move (v := str _) rfl) ?_
      refine pl_take rfl (yes_some rfl rfl rfl rfl) (vr_neq_s rfl rfl) ?_
      refine pl_take rfl (yes_some rfl rfl rfl rfl) (vr_pick (b := true) (v := .bool _) rfl rfl) ?_
      refine pl_take rfl (yes_none rfl) (vr_pick (b := false) (v := .bool _) rfl rfl) ?_
      refine pl_take rfl (yes_none rfl) (vr_move (v := .bool _) rfl) ?_
      refine pl_known 82 rfl (c := false) (by simp) ?_
      refine pl_load rfl (yes_some rfl rfl rfl rfl) (lr_loadA (vs := [.int .i64 _, .int .i64 _, .int .i64 _, .int .i64 _, .int .i64 _]) Try.underlying55 rfl sz_55 rfl (by first | exact Has.here | exact Has.there (Has.here) | exact Has.there (Has.there (Has.here)) | exact Has.there (Has.there (Has.there (Has.here))) | exact Has.there (Has.there (Has.there (Has.there (Has.here)))) | exact Has.there (Has.there (Has.there (Has.there (Has.there (Has.here))))) | exact Has.there (Has.there (Has.there (Has.there (Has.there (Has.there (Has.here)))))) | exact Has.there (Has.there (Has.there (Has.there (Has.there (Has.there (Has.there (Has.here)))))))) rfl rfl) ?_
      first | (refine pl_take rfl (yes_some rfl rfl rfl rfl) (vr_fieldAddr fo_55_0 rfl) ?_) | (refine pl_take rfl (yes_some rfl rfl rfl rfl) (vr_fieldAddrV fo_55_0 rfl (by first | assumption | (refine Own.view ?_ (by assumption); exact fun _ => rfl) | exact OwnB.view (by assumption)) (by first | omega | (simp <;> omega))) ?_)
      refine pl_load rfl (yes_some rfl rfl rfl rfl) (lr_load1 Try.underlying3 rfl rfl (by first | exact Has.here | exact Has.there (Has.here) | exact Has.there (Has.there (Has.here)) | exact Has.there (Has.there (Has.there (Has.here))) | exact Has.there (Has.there (Has.there (Has.there (Has.here)))) | exact Has.there (Has.there (Has.there (Has.there (Has.there (Has.here))))) | exact Has.there (Has.there (Has.there (Has.there (Has.there (Has.there (Has.here)))))) | exact Has.there (Has.there (Has.there (Has.there (Has.there (Has.there (Has.there (Has.here)))))))) rfl) ?_
      refine pl_take rfl (yes_some rfl rfl rfl rfl) (vr_and_any rfl rfl) ?_
      refine pl_act hS rfl (yes_some rfl rfl rfl rfl) ?_
      clear hS; intro w hS
      refine (ow_fn (vs := [.agg _]) en_51 rfl hS (crown_Place s) ?_)
      clear hS; rintro _ _ w ⟨rfl, rfl⟩ hS; (try simp only [List.cons_append, List.nil_append] at hS)
      refine ⟨by first | exact hS | exact hS.tail1 | exact hS.tail1.tail1, ?_⟩
      refine pl_take rfl (yes_some rfl rfl rfl rfl) (vr_neq rfl rfl) ?_
      refine pl_take rfl (yes_none rfl) (vr_pick (b := false) (v := .bool _) rfl rfl) ?_
      refine pl_nil hS ?_
      clear hS; intro w hS
      refine hK9 _ _ ?_
      refine cw_cond_f rfl rfl (by simp) ?_
      refine cw_skip ?_
      refine hK8 _ _ ?_
      refine cw_seq fun K10 hK10 => ?_
      refine cw_region ?_
      refine wl_op rfl rfl (ow_vr (vr_move (v := str _) rfl) ?_)
      refine wl_op rfl rfl (ow_fn (vs := [str _]) en_52 rfl hS (crown_GetF) ?_)
      clear hS; rintro _ _ w ⟨rfl, rfl⟩ hS; (try simp only [List.cons_append, List.nil_append] at hS)
      refine wl_op rfl rfl (ow_vr (vr_move (v := .tuple _) rfl) ?_)
      refine wl_op rfl rfl (ow_vr (vr_extract (v := .agg _) rfl rfl) ?_)
      refine wl_op rfl rfl (ow_vr (vr_extract (v := .bool _) rfl rfl) ?_)
      refine wl_op rfl rfl (ow_alloc (cs := [_, _, _, _, _]) hS zr_55 rfl ?_)
      clear hS; intro b15 w hS
      refine wl_op rfl rfl (ow_storeA (vs := [.int .i64 _, .int .i64 _, .int .i64 _, .int .i64 _, .int .i64 _]) hS sz_55 rfl rfl rfl rfl (by first | exact Has.here | exact Has.there (Has.here) | exact Has.there (Has.there (Has.here)) | exact Has.there (Has.there (Has.there (Has.here))) | exact Has.there (Has.there (Has.there (Has.there (Has.here)))) | exact Has.there (Has.there (Has.there (Has.there (Has.there (Has.here))))) | exact Has.there (Has.there (Has.there (Has.there (Has.there (Has.there (Has.here)))))) | exact Has.there (Has.there (Has.there (Has.there (Has.there (Has.there (Has.there (Has.here)))))))) (by simp) ?_)
      clear hS; intro w hS; try simp only [putAt, List.set_cons_zero, List.set_cons_succ] at hS
      refine wl_op rfl rfl (ow_vr (vr_assign (v := .bool _) rfl) ?_)
      refine wl_nil ?_
      refine hK10 _ _ ?_
      refine cw_seq fun K11 hK11 => ?_
      refine cw_seq fun K12 hK12 => ?_
      refine cw_region ?_
      refine wl_op rfl rfl (ow_vr (vr_move (v := .bool _) rfl) ?_)
      refine wl_op rfl rfl (ow_vr (vr_move (v := .bool _) rfl) ?_)
      refine wl_op rfl rfl (ow_vr (vr_neqb Try.underlying4 rfl rfl) ?_)
      refine wl_op rfl rfl (ow_vr (vr_move (v := .bool _) rfl) ?_)
      refine wl_known 98 rfl (c := false) (by simp) ?_
      refine wl_yes rfl rfl rfl rfl rfl (ow_vr (vr_move (v := .bool _) rfl) ?_)
      refine wl_yes rfl rfl rfl rfl rfl (ow_vr (vr_move (v := .bool _) rfl) ?_)
      refine wl_known 100 rfl (c := false) (rfl) ?_
      refine wl_noD rfl rfl rfl rfl rfl rfl ?_
      refine wl_noD rfl rfl rfl rfl rfl rfl ?_
      refine wl_noD rfl rfl rfl rfl rfl rfl ?_
      refine wl_yes rfl rfl rfl rfl rfl (ow_vr (vr_pick (b := false) (v := .bool _) rfl rfl) ?_)
      refine wl_op rfl rfl (ow_vr (vr_pick (b := false) (v := .bool _) rfl rfl) ?_)
      refine wl_nil ?_
      refine hK12 _ _ ?_
      refine cw_cond_f rfl rfl (rfl) ?_
      refine cw_skip ?_
      refine hK11 _ _ ?_
      refine cw_seq fun K13 hK13 => ?_
      refine cw_region ?_
      refine wl_op rfl rfl (ow_vr (vr_move (v := str _) rfl) ?_)
      refine wl_op rfl rfl (ow_vr (vr_assign (v := str _) rfl) ?_)
      refine wl_nil ?_
      refine hK13 _ _ ?_
      refine cw_seq fun K14 hK14 => ?_
      refine cw_seq fun K15 hK15 => ?_
      refine cw_region ?_
      refine wl_op rfl rfl (ow_vr (vr_move (v := .bool _) rfl) ?_)
      refine wl_nil ?_
      refine hK15 _ _ ?_
      refine cw_cond_f rfl rfl (rfl) ?_
      refine cw_skip ?_
      refine hK14 _ _ ?_
      refine cw_seq fun K16 hK16 => ?_
      refine cw_seq fun K17 hK17 => ?_
      refine cw_region ?_
      refine wl_op rfl rfl (ow_vr (vr_move (v := str _) rfl) ?_)
      refine wl_op rfl rfl (ow_vr (vr_move (v := str _) rfl) ?_)
      refine wl_op rfl rfl (ow_vr (vr_buildA (vs := [(0, str _), (1, str _)]) (cs := [str _, str _]) zr_62 Try.underlying62 sz_9 rfl rfl) ?_)
      refine wl_op rfl rfl (ow_vr (vr_move (v := str _) rfl) ?_)
      refine wl_op rfl rfl (ow_vr (vr_move (v := str _) rfl) ?_)
      refine wl_op rfl rfl (ow_vr (vr_buildA (vs := [(0, str _), (1, str _)]) (cs := [str _, str _]) zr_62 Try.underlying62 sz_9 rfl rfl) ?_)
      refine wl_op rfl rfl (ow_vr (vr_move (v := str _) rfl) ?_)
      refine wl_op rfl rfl (ow_vr (vr_move (v := str _) rfl) ?_)
      refine wl_op rfl rfl (ow_vr (vr_buildA (vs := [(0, str _), (1, str _)]) (cs := [str _, str _]) zr_62 Try.underlying62 sz_9 rfl rfl) ?_)
      refine wl_op rfl rfl (ow_vr (vr_move (v := str _) rfl) ?_)
      refine wl_op rfl rfl (ow_vr (vr_move (v := str _) rfl) ?_)
      refine wl_op rfl rfl (ow_vr (vr_buildA (vs := [(0, str _), (1, str _)]) (cs := [str _, str _]) zr_62 Try.underlying62 sz_9 rfl rfl) ?_)
      refine wl_op rfl rfl (ow_vr (vr_move (v := str _) rfl) ?_)
      refine wl_op rfl rfl (ow_vr (vr_move (v := str _) rfl) ?_)
      refine wl_op rfl rfl (ow_vr (vr_buildA (vs := [(0, str _), (1, str _)]) (cs := [str _, str _]) zr_62 Try.underlying62 sz_9 rfl rfl) ?_)
      refine wl_op rfl rfl (ow_vr (vr_move (v := str _) rfl) ?_)
      refine wl_op rfl rfl (ow_vr (vr_move (v := str _) rfl) ?_)
      refine wl_op rfl rfl (ow_vr (vr_buildA (vs := [(0, str _), (1, str _)]) (cs := [str _, str _]) zr_62 Try.underlying62 sz_9 rfl rfl) ?_)
      refine wl_op rfl rfl (ow_buildSliceD (m := 2) (len := 6) (vs := [.agg #[str _, str _], .agg #[str _, str _], .agg #[str _, str _], .agg #[str _, str _], .agg #[str _, str _], .agg #[str _, str _]]) (cs := [str _, str _, str _, str _, str _, str _, str _, str _, str _, str _, str _, str _]) hS Try.underlying63 if_62 rfl (by decide) (by decide) rfl rfl (by simp [Value.cells]) rfl ?_)
      clear hS; intro b148 w hS
      first | (refine wl_op rfl rfl (ow_vr (vr_len_sl Try.underlying63 rfl) ?_)) | (refine wl_op rfl rfl (ow_vr (vr_len_v Try.underlying63 rfl (by first | assumption | (refine Own.view ?_ (by assumption); exact fun _ => rfl) | exact OwnB.view (by assumption))) ?_))
      refine wl_op rfl rfl (ow_vr (vr_move (v := .int .i64 0) rfl) ?_)
      refine wl_nil ?_
      have hv : View 2 encP (.slice (some ⟨b148, 0, none⟩) 6 6) [([], b), (b, []), ([], b), (b, []), (raw, []), (raw, [])] [(b148, .cells [str [], str b, str b, str [], str [], str b, str b, str [], str raw, str [], str raw, str []].toArray 62 (0, 0))] := View.lits rfl rfl rfl
      have hps : ∀ p ∈ [([], b), (b, []), ([], b), (b, []), (raw, []), (raw, [])], p.1.length ≤ 1000 ∧ p.2.length ≤ 1000 := by simp only [List.mem_cons, List.not_mem_nil, or_false]; rintro p (rfl | rfl | rfl | rfl | rfl | rfl) <;> first | exact ⟨by simp; try omega, by simp; try omega⟩ | exact ⟨by omega, by omega⟩
      have hpl : [([], b), (b, []), ([], b), (b, []), (raw, []), (raw, [])].length = 6 := rfl
      generalize hD : [(b148, Obj.cells [str [], str b, str b, str [], str [], str b, str b, str [], str raw, str [], str raw, str []].toArray 62 (0, 0))] = D0 at hv hS
      generalize [([], b), (b, []), ([], b), (b, []), (raw, []), (raw, [])] = ps at hv hps hpl
      clear hD
      replace hS : Sat E (D0 :: F) w := hS.front1.tail1.front1.tail1.front1.tail1
      refine hK17 _ _ ?_
      refine cw_block ?_
      refine cw_loop (fun m f w => ∃ (k : Nat) (v148 : Value) (D148 : Chunk) (g : Nat → Value), f = (upd (upd (upd (upd g 4 (str raw)) 148 (v148)) 149 (.int .i64 6)) 150 (.int .i64 (k : Int))) ∧ (k ≤ 6 ∧ View 2 encP v148 ps D148) ∧ m = 6 - k ∧ Sat E (D148 :: F) w) ⟨0, _, D0, _, (reb (reb (reb (reb rfl rfl) rfl) rfl) rfl), ?_, rfl, hS⟩ ?_
      · exact ⟨by omega, hv⟩
      clear hS; rintro m f w ⟨k, v148, D148, g, rfl, hI0, rfl, hS⟩
      obtain ⟨hk, hv148⟩ := hI0
      have hI0 := (⟨hk, hv148⟩ : k ≤ 6 ∧ View 2 encP v148 ps D148)
      refine cw_seq fun K18 hK18 => ?_
      refine cw_region ?_
      refine wl_op rfl rfl (ow_vr (vr_lss rfl rfl) ?_)
      refine wl_nil ?_
      refine hK18 _ _ ?_
      refine cw_seq fun K19 hK19 => ?_
      refine cw_cond rfl rfl (fun hc => ?_) (fun hc => ?_)
      · (try simp only [decide_eq_true_eq, decide_eq_false_iff_not, Bool.not_eq_true, Bool.not_eq_false, Bool.not_eq_true', Bool.not_eq_false', Bool.and_eq_true, Bool.or_eq_true, Bool.and_eq_false_iff, Bool.or_eq_false_iff, Int.not_lt, Int.not_le, gt_iff_lt, ge_iff_le, ne_eq, Decidable.not_not, beq_iff_eq] at hc)
        have hc4 := hc; clear hc
        refine cw_skip ?_
        refine hK19 _ _ ?_
        refine cw_seq fun K20 hK20 => ?_
        refine cw_block ?_
        refine cw_seq fun K21 hK21 => ?_
        obtain ⟨p, hp⟩ := get_lt (xs := ps) (k := k) (by omega)
        have hp2 := hps p (List.mem_of_getElem? hp)
        refine cw_region ?_
        first | (refine wl_op rfl rfl (ow_vr (vr_indexAddr Try.underlying63 sz_62 rfl rfl (by omega) (by omega)) ?_)) | (refine wl_op rfl rfl (ow_vr (vr_indexV (v := v148) Try.underlying63 sz_62 rfl (by first | assumption | (refine Own.view ?_ (by assumption); exact fun _ => rfl) | exact OwnB.view (by assumption)) rfl (by omega) (by first | omega | (simp <;> omega))) ?_))
        refine wl_op rfl rfl (ow_lr (S := Sat _ _) (lr_loadVA (cs := [str _, str _]) Try.underlying62 rfl sz_62 rfl (by first | assumption | (refine Own.view ?_ (by assumption); exact fun _ => rfl) | exact OwnB.view (by assumption)) (by first | exact List.Mem.head _ | exact List.Mem.tail _ (List.Mem.head _) | exact List.Mem.tail _ (List.Mem.tail _ (List.Mem.head _)) | exact List.Mem.tail _ (List.Mem.tail _ (List.Mem.tail _ (List.Mem.head _))) | exact List.Mem.tail _ (List.Mem.tail _ (List.Mem.tail _ (List.Mem.tail _ (List.Mem.head _)))) | exact List.Mem.tail _ (List.Mem.tail _ (List.Mem.tail _ (List.Mem.tail _ (List.Mem.tail _ (List.Mem.head _))))) | exact List.Mem.tail _ (List.Mem.tail _ (List.Mem.tail _ (List.Mem.tail _ (List.Mem.tail _ (List.Mem.tail _ (List.Mem.head _)))))) | exact List.Mem.tail _ (List.Mem.tail _ (List.Mem.tail _ (List.Mem.tail _ (List.Mem.tail _ (List.Mem.tail _ (List.Mem.tail _ (List.Mem.head _))))))) | exact List.Mem.tail _ (List.Mem.tail _ (List.Mem.tail _ (List.Mem.tail _ (List.Mem.tail _ (List.Mem.tail _ (List.Mem.tail _ (List.Mem.tail _ (List.Mem.head _)))))))) | exact (by assumption) | exact List.Mem.tail _ ((by assumption)) | exact List.Mem.tail _ (List.Mem.tail _ ((by assumption))) | exact List.Mem.tail _ (List.Mem.tail _ (List.Mem.tail _ ((by assumption)))) | exact List.Mem.tail _ (List.Mem.tail _ (List.Mem.tail _ (List.Mem.tail _ ((by assumption))))) | exact List.Mem.tail _ (List.Mem.tail _ (List.Mem.tail _ (List.Mem.tail _ (List.Mem.tail _ ((by assumption))))))) (hp) (by exact fun _ => rfl) (by rfl)) hS ?_)
        refine wl_op rfl rfl (ow_alloc (cs := [_, _]) hS zr_62 rfl ?_)
        clear hS; intro b20 w hS
        refine wl_op rfl rfl (ow_storeA (vs := [str _, str _]) hS sz_62 rfl rfl rfl rfl (by first | exact Has.here | exact Has.there (Has.here) | exact Has.there (Has.there (Has.here)) | exact Has.there (Has.there (Has.there (Has.here))) | exact Has.there (Has.there (Has.there (Has.there (Has.here)))) | exact Has.there (Has.there (Has.there (Has.there (Has.there (Has.here))))) | exact Has.there (Has.there (Has.there (Has.there (Has.there (Has.there (Has.here)))))) | exact Has.there (Has.there (Has.there (Has.there (Has.there (Has.there (Has.there (Has.here)))))))) (by simp) ?_)
        clear hS; intro w hS; try simp only [putAt, List.set_cons_zero, List.set_cons_succ] at hS
        refine wl_nil ?_
        refine hK21 _ _ ?_
        refine cw_seq fun K22 hK22 => ?_
        refine cw_region ?_
        refine wl_op rfl rfl (ow_vr (vr_indexAddrA Try.underlying62 sz_9 rfl rfl (by omega) (by omega)) ?_)
        refine wl_op rfl rfl (ow_lr (S := Sat _ _) (lr_load1 Try.underlying9 rfl rfl (by first | exact Has.here | exact Has.there (Has.here) | exact Has.there (Has.there (Has.here)) | exact Has.there (Has.there (Has.there (Has.here))) | exact Has.there (Has.there (Has.there (Has.there (Has.here)))) | exact Has.there (Has.there (Has.there (Has.there (Has.there (Has.here))))) | exact Has.there (Has.there (Has.there (Has.there (Has.there (Has.there (Has.here)))))) | exact Has.there (Has.there (Has.there (Has.there (Has.there (Has.there (Has.there (Has.here)))))))) rfl) hS ?_)
        refine wl_op rfl rfl (ow_vr (vr_indexAddrA Try.underlying62 sz_9 rfl rfl (by omega) (by omega)) ?_)
        refine wl_op rfl rfl (ow_lr (S := Sat _ _) (lr_load1 Try.underlying9 rfl rfl (by first | exact Has.here | exact Has.there (Has.here) | exact Has.there (Has.there (Has.here)) | exact Has.there (Has.there (Has.there (Has.here))) | exact Has.there (Has.there (Has.there (Has.there (Has.here)))) | exact Has.there (Has.there (Has.there (Has.there (Has.there (Has.here))))) | exact Has.there (Has.there (Has.there (Has.there (Has.there (Has.there (Has.here)))))) | exact Has.there (Has.there (Has.there (Has.there (Has.there (Has.there (Has.there (Has.here)))))))) rfl) hS ?_)
        refine wl_op rfl rfl (ow_fn (vs := [str _, str _]) en_53 rfl hS (crown_Newer p.1 p.2 hp2.1 hp2.2) ?_)
        clear hS; rintro _ _ w ⟨rfl, rfl⟩ hS; (try simp only [List.cons_append, List.nil_append] at hS)
        refine wl_op rfl rfl (ow_vr (vr_move (v := .tuple _) rfl) ?_)
        refine wl_op rfl rfl (ow_vr (vr_extract (v := .agg _) rfl rfl) ?_)
        refine wl_op rfl rfl (ow_vr (vr_extract (v := .int .i64 _) rfl rfl) ?_)
        refine wl_op rfl rfl (ow_vr (vr_extract (v := .bool _) rfl rfl) ?_)
        refine wl_op rfl rfl (ow_alloc (cs := [_, _, _, _, _]) hS zr_55 rfl ?_)
        clear hS; intro b21 w hS
        refine wl_op rfl rfl (ow_storeA (vs := [.int .i64 _, .int .i64 _, .int .i64 _, .int .i64 _, .int .i64 _]) hS sz_55 rfl rfl rfl rfl (by first | exact Has.here | exact Has.there (Has.here) | exact Has.there (Has.there (Has.here)) | exact Has.there (Has.there (Has.there (Has.here))) | exact Has.there (Has.there (Has.there (Has.there (Has.here)))) | exact Has.there (Has.there (Has.there (Has.there (Has.there (Has.here))))) | exact Has.there (Has.there (Has.there (Has.there (Has.there (Has.there (Has.here)))))) | exact Has.there (Has.there (Has.there (Has.there (Has.there (Has.there (Has.there (Has.here)))))))) (by simp) ?_)
        clear hS; intro w hS; try simp only [putAt, List.set_cons_zero, List.set_cons_succ] at hS
        refine wl_op rfl rfl (ow_vr (vr_assign (v := .int .i64 _) rfl) ?_)
        refine wl_op rfl rfl (ow_vr (vr_assign (v := .bool _) rfl) ?_)
        refine wl_nil ?_
        refine hK22 _ _ ?_
        refine cw_seq fun K23 hK23 => ?_
        refine cw_region ?_
        refine wl_op rfl rfl (ow_vr (vr_indexAddrA Try.underlying62 sz_9 rfl rfl (by omega) (by omega)) ?_)
        refine wl_op rfl rfl (ow_lr (S := Sat _ _) (lr_load1 Try.underlying9 rfl rfl (by first | exact Has.here | exact Has.there (Has.here) | exact Has.there (Has.there (Has.here)) | exact Has.there (Has.there (Has.there (Has.here))) | exact Has.there (Has.there (Has.there (Has.there (Has.here)))) | exact Has.there (Has.there (Has.there (Has.there (Has.there (Has.here))))) | exact Has.there (Has.there (Has.there (Has.there (Has.there (Has.there (Has.here)))))) | exact Has.there (Has.there (Has.there (Has.there (Has.there (Has.there (Has.there (Has.here)))))))) rfl) hS ?_)
        refine wl_op rfl rfl (ow_vr (vr_indexAddrA Try.underlying62 sz_9 rfl rfl (by omega) (by omega)) ?_)
        refine wl_op rfl rfl (ow_lr (S := Sat _ _) (lr_load1 Try.underlying9 rfl rfl (by first | exact Has.here | exact Has.there (Has.here) | exact Has.there (Has.there (Has.here)) | exact Has.there (Has.there (Has.there (Has.here))) | exact Has.there (Has.there (Has.there (Has.there (Has.here)))) | exact Has.there (Has.there (Has.there (Has.there (Has.there (Has.here))))) | exact Has.there (Has.there (Has.there (Has.there (Has.there (Has.there (Has.here)))))) | exact Has.there (Has.there (Has.there (Has.there (Has.there (Has.there (Has.there (Has.here)))))))) rfl) hS ?_)
        refine wl_op rfl rfl (ow_fn (vs := [str _, str _]) en_54 rfl hS (ref_Newer p.1 p.2 hp2.1 hp2.2) ?_)
        clear hS; rintro _ _ w ⟨rfl, rfl⟩ hS; (try simp only [List.cons_append, List.nil_append] at hS)
        refine wl_op rfl rfl (ow_vr (vr_move (v := .tuple _) rfl) ?_)
        refine wl_op rfl rfl (ow_vr (vr_extract (v := .agg _) rfl rfl) ?_)
        refine wl_op rfl rfl (ow_vr (vr_extract (v := .int .i64 _) rfl rfl) ?_)
        refine wl_op rfl rfl (ow_vr (vr_extract (v := .bool _) rfl rfl) ?_)
        refine wl_op rfl rfl (ow_alloc (cs := [_, _, _, _, _]) hS zr_55 rfl ?_)
        clear hS; intro b24 w hS
        refine wl_op rfl rfl (ow_storeA (vs := [.int .i64 _, .int .i64 _, .int .i64 _, .int .i64 _, .int .i64 _]) hS sz_55 rfl rfl rfl rfl (by first | exact Has.here | exact Has.there (Has.here) | exact Has.there (Has.there (Has.here)) | exact Has.there (Has.there (Has.there (Has.here))) | exact Has.there (Has.there (Has.there (Has.there (Has.here)))) | exact Has.there (Has.there (Has.there (Has.there (Has.there (Has.here))))) | exact Has.there (Has.there (Has.there (Has.there (Has.there (Has.there (Has.here)))))) | exact Has.there (Has.there (Has.there (Has.there (Has.there (Has.there (Has.there (Has.here)))))))) (by simp) ?_)
        clear hS; intro w hS; try simp only [putAt, List.set_cons_zero, List.set_cons_succ] at hS
        refine wl_op rfl rfl (ow_vr (vr_assign (v := .int .i64 _) rfl) ?_)
        refine wl_op rfl rfl (ow_vr (vr_assign (v := .bool _) rfl) ?_)
        refine wl_nil ?_
        refine hK23 _ _ ?_
        refine cw_seq fun K24 hK24 => ?_
        refine cw_region ?_
        refine wl_op rfl rfl (ow_lr (S := Sat _ _) (lr_loadA (vs := [.int .i64 _, .int .i64 _, .int .i64 _, .int .i64 _, .int .i64 _]) Try.underlying55 rfl sz_55 rfl (by first | exact Has.here | exact Has.there (Has.here) | exact Has.there (Has.there (Has.here)) | exact Has.there (Has.there (Has.there (Has.here))) | exact Has.there (Has.there (Has.there (Has.there (Has.here)))) | exact Has.there (Has.there (Has.there (Has.there (Has.there (Has.here))))) | exact Has.there (Has.there (Has.there (Has.there (Has.there (Has.there (Has.here)))))) | exact Has.there (Has.there (Has.there (Has.there (Has.there (Has.there (Has.there (Has.here)))))))) rfl rfl) hS ?_)
        refine wl_op rfl rfl (ow_lr (S := Sat _ _) (lr_loadA (vs := [.int .i64 _, .int .i64 _, .int .i64 _, .int .i64 _, .int .i64 _]) Try.underlying55 rfl sz_55 rfl (by first | exact Has.here | exact Has.there (Has.here) | exact Has.there (Has.there (Has.here)) | exact Has.there (Has.there (Has.there (Has.here))) | exact Has.there (Has.there (Has.there (Has.there (Has.here)))) | exact Has.there (Has.there (Has.there (Has.there (Has.there (Has.here))))) | exact Has.there (Has.there (Has.there (Has.there (Has.there (Has.there (Has.here)))))) | exact Has.there (Has.there (Has.there (Has.there (Has.there (Has.there (Has.there (Has.here)))))))) rfl rfl) hS ?_)
        refine wl_op rfl rfl (ow_vr (vr_neq_st eg_55 rfl rfl (eq_55 _ _ _ _ _ _ _ _ _ _)) ?_)
        refine wl_op rfl rfl (ow_vr (vr_move (v := .bool _) rfl) ?_)
        refine wl_known 175 rfl (c := false) (by simp) ?_
        refine wl_yes rfl rfl rfl rfl rfl (ow_vr (vr_move (v := .int .i64 _) rfl) ?_)
        refine wl_yes rfl rfl rfl rfl rfl (ow_vr (vr_move (v := .int .i64 _) rfl) ?_)
        refine wl_yes rfl rfl rfl rfl rfl (ow_vr (vr_neq rfl rfl) ?_)
        refine wl_op rfl rfl (ow_vr (vr_pick (b := false) (v := .bool _) rfl rfl) ?_)
        refine wl_op rfl rfl (ow_vr (vr_move (v := .bool _) rfl) ?_)
        refine wl_known 180 rfl (c := false) (by simp) ?_
        refine wl_yes rfl rfl rfl rfl rfl (ow_vr (vr_move (v := .bool _) rfl) ?_)
        refine wl_yes rfl rfl rfl rfl rfl (ow_vr (vr_move (v := .bool _) rfl) ?_)
        refine wl_yes rfl rfl rfl rfl rfl (ow_vr (vr_neqb Try.underlying4 rfl rfl) ?_)
        refine wl_op rfl rfl (ow_vr (vr_pick (b := false) (v := .bool _) rfl rfl) ?_)
        refine wl_nil ?_
        refine hK24 _ _ ?_
        refine cw_cond_f rfl rfl (by simp) ?_
        refine cw_skip ?_
        refine hK20 _ _ ?_
        replace hS := hS.tail1.tail1.tail1
        refine cw_region ?_
        first | (refine wl_op rfl rfl (ow_vr (vr_addi rfl rfl (by unfold inI64; omega)) ?_)) | (refine wl_op rfl rfl (ow_vr (vr_add rfl rfl) ?_))
        refine wl_op rfl rfl (ow_vr (vr_move (v := .int .i64 _) rfl) ?_)
        refine wl_nil ?_
        refine thenF_normal ⟨_, ?_, k + 1, v148, D148, _, (reb (reb (reb (reb rfl rfl) rfl) rfl) rfl), ?_, rfl, hS⟩
        · omega
        · exact ⟨by omega, hI0.2⟩
      · (try simp only [decide_eq_true_eq, decide_eq_false_iff_not, Bool.not_eq_true, Bool.not_eq_false, Bool.not_eq_true', Bool.not_eq_false', Bool.and_eq_true, Bool.or_eq_true, Bool.and_eq_false_iff, Bool.or_eq_false_iff, Int.not_lt, Int.not_le, gt_iff_lt, ge_iff_le, ne_eq, Decidable.not_not, beq_iff_eq] at hc)
        have hc4 := hc; clear hc
        refine cw_exit ?_
        refine hK16 _ _ ?_
        refine cw_seq fun K25 hK25 => ?_
        replace hS := hS.tail1
        refine cw_region ?_
        refine wl_op rfl rfl (ow_vr (vr_move (v := (str raw)) rfl) ?_)
        refine wl_op rfl rfl (ow_fn (vs := [(str raw)]) en_52 rfl hS (crown_Get raw (by omega)) ?_)
        clear hS; rintro _ _ w ⟨rfl, rfl⟩ hS; (try simp only [List.cons_append, List.nil_append] at hS)
        refine wl_op rfl rfl (ow_vr (vr_move (v := .tuple _) rfl) ?_)
        refine wl_op rfl rfl (ow_vr (vr_extract (v := .agg _) rfl rfl) ?_)
        refine wl_op rfl rfl (ow_vr (vr_extract (v := .bool _) rfl rfl) ?_)
        refine wl_op rfl rfl (ow_alloc (cs := [_, _, _, _, _]) hS zr_55 rfl ?_)
        clear hS; intro b27 w hS
        refine wl_op rfl rfl (ow_storeA (vs := [.int .i64 _, .int .i64 _, .int .i64 _, .int .i64 _, .int .i64 _]) hS sz_55 rfl rfl rfl rfl (by first | exact Has.here | exact Has.there (Has.here) | exact Has.there (Has.there (Has.here)) | exact Has.there (Has.there (Has.there (Has.here))) | exact Has.there (Has.there (Has.there (Has.there (Has.here)))) | exact Has.there (Has.there (Has.there (Has.there (Has.there (Has.here))))) | exact Has.there (Has.there (Has.there (Has.there (Has.there (Has.there (Has.here)))))) | exact Has.there (Has.there (Has.there (Has.there (Has.there (Has.there (Has.there (Has.here)))))))) (by simp) ?_)
        clear hS; intro w hS; try simp only [putAt, List.set_cons_zero, List.set_cons_succ] at hS
        refine wl_op rfl rfl (ow_vr (vr_assign (v := .bool _) rfl) ?_)
        refine wl_nil ?_
        refine hK25 _ _ ?_
        refine cw_seq fun K26 hK26 => ?_
        refine cw_region ?_
        refine wl_op rfl rfl (ow_vr (vr_move (v := (str raw)) rfl) ?_)
        refine wl_op rfl rfl (ow_fn (vs := [(str raw)]) en_55 rfl hS (ref_Crowned raw (by omega)) ?_)
        clear hS; rintro _ _ w ⟨rfl, rfl⟩ hS; (try simp only [List.cons_append, List.nil_append] at hS)
        refine wl_op rfl rfl (ow_vr (vr_move (v := .tuple _) rfl) ?_)
        refine wl_op rfl rfl (ow_vr (vr_extract (v := .agg _) rfl rfl) ?_)
        refine wl_op rfl rfl (ow_vr (vr_extract (v := .bool _) rfl rfl) ?_)
        refine wl_op rfl rfl (ow_alloc (cs := [_, _, _, _, _]) hS zr_55 rfl ?_)
        clear hS; intro b29 w hS
        refine wl_op rfl rfl (ow_storeA (vs := [.int .i64 _, .int .i64 _, .int .i64 _, .int .i64 _, .int .i64 _]) hS sz_55 rfl rfl rfl rfl (by first | exact Has.here | exact Has.there (Has.here) | exact Has.there (Has.there (Has.here)) | exact Has.there (Has.there (Has.there (Has.here))) | exact Has.there (Has.there (Has.there (Has.there (Has.here)))) | exact Has.there (Has.there (Has.there (Has.there (Has.there (Has.here))))) | exact Has.there (Has.there (Has.there (Has.there (Has.there (Has.there (Has.here)))))) | exact Has.there (Has.there (Has.there (Has.there (Has.there (Has.there (Has.there (Has.here)))))))) (by simp) ?_)
        clear hS; intro w hS; try simp only [putAt, List.set_cons_zero, List.set_cons_succ] at hS
        refine wl_op rfl rfl (ow_vr (vr_assign (v := .bool _) rfl) ?_)
        refine wl_nil ?_
        refine hK26 _ _ ?_
        refine cw_seq fun K27 hK27 => ?_
        refine cw_region ?_
        refine wl_op rfl rfl (ow_lr (S := Sat _ _) (lr_loadA (vs := [.int .i64 _, .int .i64 _, .int .i64 _, .int .i64 _, .int .i64 _]) Try.underlying55 rfl sz_55 rfl (by first | exact Has.here | exact Has.there (Has.here) | exact Has.there (Has.there (Has.here)) | exact Has.there (Has.there (Has.there (Has.here))) | exact Has.there (Has.there (Has.there (Has.there (Has.here)))) | exact Has.there (Has.there (Has.there (Has.there (Has.there (Has.here))))) | exact Has.there (Has.there (Has.there (Has.there (Has.there (Has.there (Has.here)))))) | exact Has.there (Has.there (Has.there (Has.there (Has.there (Has.there (Has.there (Has.here)))))))) rfl rfl) hS ?_)
        refine wl_op rfl rfl (ow_lr (S := Sat _ _) (lr_loadA (vs := [.int .i64 _, .int .i64 _, .int .i64 _, .int .i64 _, .int .i64 _]) Try.underlying55 rfl sz_55 rfl (by first | exact Has.here | exact Has.there (Has.here) | exact Has.there (Has.there (Has.here)) | exact Has.there (Has.there (Has.there (Has.here))) | exact Has.there (Has.there (Has.there (Has.there (Has.here)))) | exact Has.there (Has.there (Has.there (Has.there (Has.there (Has.here))))) | exact Has.there (Has.there (Has.there (Has.there (Has.there (Has.there (Has.here)))))) | exact Has.there (Has.there (Has.there (Has.there (Has.there (Has.there (Has.there (Has.here)))))))) rfl rfl) hS ?_)
        refine wl_op rfl rfl (ow_vr (vr_eql_st eg_55 rfl rfl (eq_55 _ _ _ _ _ _ _ _ _ _)) ?_)
        refine wl_op rfl rfl (ow_vr (vr_move (v := .bool _) rfl) ?_)
        refine wl_known 199 rfl (c := true) (by simp) ?_
        refine wl_yes rfl rfl rfl rfl rfl (ow_vr (vr_move (v := .bool _) rfl) ?_)
        refine wl_yes rfl rfl rfl rfl rfl (ow_vr (vr_move (v := .bool _) rfl) ?_)
        refine wl_yes rfl rfl rfl rfl rfl (ow_vr (vr_eqlb Try.underlying4 rfl rfl) ?_)
        refine wl_op rfl rfl (ow_vr (vr_pick (b := true) (v := .bool _) rfl rfl) ?_)
        refine wl_op rfl rfl (ow_vr (vr_assign (v := .bool _) rfl) ?_)
        refine wl_nil ?_
        refine hK27 _ _ ?_
        refine cw_ret ?_
        refine ret_one (fn := Try.f12) (n := 204) (t := 10) (.inl rfl) rfl rfl ?_
        exact ⟨congrArg Value.bool (by simp), hS.tail1.tail1⟩
theorem crown_tells (s t : Sup) (at_ : Int) (c : UInt8) (raw : List UInt8) (hraw : raw.length ≤ 9223372036854775807) : FnV Try.prog 12 [supV s, supV t, .int .i64 at_, .int .u8 (c.toNat : Int), str raw] (.bool true) := by
  cases hr : rightS s with
  | true => exact crown_tells_t s t at_ c raw hraw hr
  | false => exact crown_tells_f s t at_ c raw hraw hr
end Go.Proofs.Ytfekgjdahckdhaa
