/- The laws of chapter 8. -/
import Derived.Test.YtfekgjdahckdhaaGeo
namespace Go.Proofs.Ytfekgjdahckdhaa
open Go Go.RowKit
set_option linter.unusedVariables false
set_option linter.unusedSimpArgs false
attribute [local irreducible] actF WL CW OW PL SW VR LR yes Returns Fn
theorem alive8 : FnV Try.prog 16 [] (.bool true) := by
  refine FnV.mk fun E F w hS => ?_
  refine returns_enter Try.func16 rfl Try.ntmps16 rfl ?_
  refine cw_seq fun K1 hK1 => ?_
  refine cw_region ?_
  refine wl_op rfl rfl (ow_vr (vr_assign rfl) ?_)
  refine wl_nil ?_
  refine hK1 _ _ ?_
  refine cw_seq fun K2 hK2 => ?_
  refine cw_region ?_
  refine wl_op rfl rfl (ow_vr (vr_build (vs := [(0, .int .i64 _), (1, .int .i64 _)]) (cs := [_, _]) zr_23 pl_23 rfl rfl) ?_)
  refine wl_op rfl rfl (ow_alloc (cs := [_, _]) hS zr_23 rfl ?_)
  clear hS; intro b1 w hS
  refine wl_op rfl rfl (ow_storeA hS sz_23 rfl rfl rfl rfl (by first | exact Has.here | exact Has.there (Has.here) | exact Has.there (Has.there (Has.here)) | exact Has.there (Has.there (Has.there (Has.here))) | exact Has.there (Has.there (Has.there (Has.there (Has.here)))) | exact Has.there (Has.there (Has.there (Has.there (Has.there (Has.here))))) | exact Has.there (Has.there (Has.there (Has.there (Has.there (Has.there (Has.here)))))) | exact Has.there (Has.there (Has.there (Has.there (Has.there (Has.there (Has.there (Has.here)))))))) (by simp) ?_)
  clear hS; intro w hS; simp only [putAt, List.set_cons_zero, List.set_cons_succ] at hS
  refine wl_nil ?_
  refine hK2 _ _ ?_
  refine cw_seq fun K3 hK3 => ?_
  refine cw_region ?_
  refine wl_op rfl rfl (ow_lr (S := Sat _ _) (lr_loadA Try.underlying23 rfl sz_23 rfl (by first | exact Has.here | exact Has.there (Has.here) | exact Has.there (Has.there (Has.here)) | exact Has.there (Has.there (Has.there (Has.here))) | exact Has.there (Has.there (Has.there (Has.there (Has.here)))) | exact Has.there (Has.there (Has.there (Has.there (Has.there (Has.here))))) | exact Has.there (Has.there (Has.there (Has.there (Has.there (Has.there (Has.here)))))) | exact Has.there (Has.there (Has.there (Has.there (Has.there (Has.there (Has.there (Has.here)))))))) rfl rfl) hS ?_)
  refine wl_op rfl rfl (ow_fn (vs := [.agg _]) en_15 rfl hS (geo_Right 8 4) ?_)
  clear hS; rintro _ _ w ⟨rfl, rfl⟩ hS; (try simp only [List.cons_append, List.nil_append] at hS)
  refine wl_op rfl rfl (ow_vr (vr_move (v := .bool _) rfl) ?_)
  refine wl_known 5 rfl (c := true) (by decide) ?_
  refine wl_yes rfl rfl rfl rfl rfl (ow_lr (S := Sat _ _) (lr_loadA Try.underlying23 rfl sz_23 rfl (by first | exact Has.here | exact Has.there (Has.here) | exact Has.there (Has.there (Has.here)) | exact Has.there (Has.there (Has.there (Has.here))) | exact Has.there (Has.there (Has.there (Has.there (Has.here)))) | exact Has.there (Has.there (Has.there (Has.there (Has.there (Has.here))))) | exact Has.there (Has.there (Has.there (Has.there (Has.there (Has.there (Has.here)))))) | exact Has.there (Has.there (Has.there (Has.there (Has.there (Has.there (Has.there (Has.here)))))))) rfl rfl) hS ?_)
  refine wl_yes rfl rfl rfl rfl rfl (ow_fn (vs := [.agg _]) en_20 rfl hS (geo_Cells 8 4) ?_)
  clear hS; rintro _ _ w ⟨rfl, rfl⟩ hS; (try simp only [List.cons_append, List.nil_append] at hS)
  refine wl_yes rfl rfl rfl rfl rfl (ow_vr (vr_eql rfl rfl) ?_)
  refine wl_op rfl rfl (ow_vr (vr_pick (b := true) rfl rfl) ?_)
  refine wl_op rfl rfl (ow_vr (vr_move (v := .bool _) rfl) ?_)
  refine wl_known 10 rfl (c := true) (by decide) ?_
  refine wl_yes rfl rfl rfl rfl rfl (ow_lr (S := Sat _ _) (lr_loadA Try.underlying23 rfl sz_23 rfl (by first | exact Has.here | exact Has.there (Has.here) | exact Has.there (Has.there (Has.here)) | exact Has.there (Has.there (Has.there (Has.here))) | exact Has.there (Has.there (Has.there (Has.there (Has.here)))) | exact Has.there (Has.there (Has.there (Has.there (Has.there (Has.here))))) | exact Has.there (Has.there (Has.there (Has.there (Has.there (Has.there (Has.here)))))) | exact Has.there (Has.there (Has.there (Has.there (Has.there (Has.there (Has.there (Has.here)))))))) rfl rfl) hS ?_)
  refine wl_yes rfl rfl rfl rfl rfl (ow_fn (vs := [.agg _]) en_18 rfl hS (geo_Pages 8 4) ?_)
  clear hS; rintro _ _ w ⟨rfl, rfl⟩ hS; (try simp only [List.cons_append, List.nil_append] at hS)
  refine wl_yes rfl rfl rfl rfl rfl (ow_vr (vr_eql rfl rfl) ?_)
  refine wl_op rfl rfl (ow_vr (vr_pick (b := true) rfl rfl) ?_)
  refine wl_op rfl rfl (ow_vr (vr_move (v := .bool _) rfl) ?_)
  refine wl_known 15 rfl (c := true) (by decide) ?_
  refine wl_yes rfl rfl rfl rfl rfl (ow_lr (S := Sat _ _) (lr_loadA Try.underlying23 rfl sz_23 rfl (by first | exact Has.here | exact Has.there (Has.here) | exact Has.there (Has.there (Has.here)) | exact Has.there (Has.there (Has.there (Has.here))) | exact Has.there (Has.there (Has.there (Has.there (Has.here)))) | exact Has.there (Has.there (Has.there (Has.there (Has.there (Has.here))))) | exact Has.there (Has.there (Has.there (Has.there (Has.there (Has.there (Has.here)))))) | exact Has.there (Has.there (Has.there (Has.there (Has.there (Has.there (Has.there (Has.here)))))))) rfl rfl) hS ?_)
  refine wl_yes rfl rfl rfl rfl rfl (ow_fn (vs := [.agg _]) en_21 rfl hS (geo_LogAt 8 4) ?_)
  clear hS; rintro _ _ w ⟨rfl, rfl⟩ hS; (try simp only [List.cons_append, List.nil_append] at hS)
  refine wl_yes rfl rfl rfl rfl rfl (ow_vr (vr_eql rfl rfl) ?_)
  refine wl_op rfl rfl (ow_vr (vr_pick (b := true) rfl rfl) ?_)
  refine wl_op rfl rfl (ow_vr (vr_move (v := .bool _) rfl) ?_)
  refine wl_known 20 rfl (c := true) (by decide) ?_
  refine wl_yes rfl rfl rfl rfl rfl (ow_lr (S := Sat _ _) (lr_loadA Try.underlying23 rfl sz_23 rfl (by first | exact Has.here | exact Has.there (Has.here) | exact Has.there (Has.there (Has.here)) | exact Has.there (Has.there (Has.there (Has.here))) | exact Has.there (Has.there (Has.there (Has.there (Has.here)))) | exact Has.there (Has.there (Has.there (Has.there (Has.there (Has.here))))) | exact Has.there (Has.there (Has.there (Has.there (Has.there (Has.there (Has.here)))))) | exact Has.there (Has.there (Has.there (Has.there (Has.there (Has.there (Has.there (Has.here)))))))) rfl rfl) hS ?_)
  refine wl_yes rfl rfl rfl rfl rfl (ow_fn (vs := [.agg _]) en_17 rfl hS (geo_Sectors 8 4) ?_)
  clear hS; rintro _ _ w ⟨rfl, rfl⟩ hS; (try simp only [List.cons_append, List.nil_append] at hS)
  refine wl_yes rfl rfl rfl rfl rfl (ow_vr (vr_eql rfl rfl) ?_)
  refine wl_op rfl rfl (ow_vr (vr_pick (b := true) rfl rfl) ?_)
  refine wl_op rfl rfl (ow_vr (vr_move (v := .bool _) rfl) ?_)
  refine wl_known 25 rfl (c := true) (by decide) ?_
  refine wl_yes rfl rfl rfl rfl rfl (ow_lr (S := Sat _ _) (lr_loadA Try.underlying23 rfl sz_23 rfl (by first | exact Has.here | exact Has.there (Has.here) | exact Has.there (Has.there (Has.here)) | exact Has.there (Has.there (Has.there (Has.here))) | exact Has.there (Has.there (Has.there (Has.there (Has.here)))) | exact Has.there (Has.there (Has.there (Has.there (Has.there (Has.here))))) | exact Has.there (Has.there (Has.there (Has.there (Has.there (Has.there (Has.here)))))) | exact Has.there (Has.there (Has.there (Has.there (Has.there (Has.there (Has.there (Has.here)))))))) rfl rfl) hS ?_)
  refine wl_yes rfl rfl rfl rfl rfl (ow_fn (vs := [.agg _, .int .i64 _]) en_23 rfl hS (geo_Base 8 4 1) ?_)
  clear hS; rintro _ _ w ⟨rfl, rfl⟩ hS; (try simp only [List.cons_append, List.nil_append] at hS)
  refine wl_yes rfl rfl rfl rfl rfl (ow_vr (vr_eql rfl rfl) ?_)
  refine wl_op rfl rfl (ow_vr (vr_pick (b := true) rfl rfl) ?_)
  refine wl_op rfl rfl (ow_vr (vr_assign (v := .bool _) rfl) ?_)
  refine wl_nil ?_
  refine hK3 _ _ ?_
  refine cw_ret ?_
  refine ret_one (fn := Try.f16) (n := 30) (t := 0) (.inl rfl) rfl rfl ?_
  exact ⟨congrArg Value.bool (by decide), hS.tail1⟩
theorem geo_grows (h l half log : Int) (i1 : inI64 h) (i2 : inI64 l) (i3 : inI64 half) (i4 : inI64 log) : FnV Try.prog 3 [.agg #[.int .i64 h, .int .i64 l], .int .i64 half, .int .i64 log] (.bool true) := by
  refine FnV.mk fun E F w hS => ?_
  have hr := @rightB_true h l
  have hr2 := @rightB_true (h + half) (l + log)
  have hb := pagesI_bd h l
  have hb2 := cellsI_bd h l
  have hb3 := logAtI_bd h l
  have hb4 := logAtI_bd (h + half) (l + log)
  have hb5 := cellsI_bd (h + half) (l + log)
  refine returns_enter Try.func3 rfl Try.ntmps3 rfl ?_
  refine cw_seq fun K1 hK1 => ?_
  refine cw_region ?_
  refine wl_op rfl rfl (ow_box (cs := [_, _]) hS rfl rfl ?_)
  clear hS; intro b3 w hS
  refine wl_op rfl rfl (ow_vr (vr_assign rfl) ?_)
  refine wl_nil ?_
  refine hK1 _ _ ?_
  refine cw_seq fun K2 hK2 => ?_
  refine cw_seq fun K3 hK3 => ?_
  refine cw_region ?_
  refine wl_op rfl rfl (ow_lr (S := Sat _ _) (lr_loadA Try.underlying23 rfl sz_23 rfl (by first | exact Has.here | exact Has.there (Has.here) | exact Has.there (Has.there (Has.here)) | exact Has.there (Has.there (Has.there (Has.here))) | exact Has.there (Has.there (Has.there (Has.there (Has.here)))) | exact Has.there (Has.there (Has.there (Has.there (Has.there (Has.here))))) | exact Has.there (Has.there (Has.there (Has.there (Has.there (Has.there (Has.here)))))) | exact Has.there (Has.there (Has.there (Has.there (Has.there (Has.there (Has.there (Has.here)))))))) rfl rfl) hS ?_)
  refine wl_op rfl rfl (ow_fn (vs := [.agg _]) en_15 rfl hS (geo_Right h l) ?_)
  clear hS; rintro _ _ w ⟨rfl, rfl⟩ hS; (try simp only [List.cons_append, List.nil_append] at hS)
  refine wl_op rfl rfl (ow_vr (vr_not rfl) ?_)
  refine wl_op rfl rfl (ow_vr (vr_move (v := .bool _) rfl) ?_)
  refine wl_split 12 rfl (fun hc => ?_) (fun hc => ?_)
  · (try simp only [decide_eq_true_eq, decide_eq_false_iff_not, Bool.not_eq_true, Bool.not_eq_false, Bool.not_eq_true', Bool.not_eq_false', Bool.and_eq_true, Bool.or_eq_true, Bool.and_eq_false_iff, Bool.or_eq_false_iff, Int.not_lt, Int.not_le, gt_iff_lt, ge_iff_le, ne_eq, Decidable.not_not, beq_iff_eq] at hc)
    have hg12 := hc; clear hc
    refine wl_no rfl rfl rfl rfl rfl rfl ?_
    refine wl_no rfl rfl rfl rfl rfl rfl ?_
    refine wl_op rfl rfl (ow_vr (vr_pick (b := true) rfl rfl) ?_)
    refine wl_op rfl rfl (ow_vr (vr_move (v := .bool _) rfl) ?_)
    refine wl_no rfl rfl rfl rfl rfl rfl ?_
    refine wl_no rfl rfl rfl rfl rfl rfl ?_
    refine wl_op rfl rfl (ow_vr (vr_pick (b := true) rfl rfl) ?_)
    refine wl_op rfl rfl (ow_vr (vr_move (v := .bool _) rfl) ?_)
    refine wl_no rfl rfl rfl rfl rfl rfl ?_
    refine wl_no rfl rfl rfl rfl rfl rfl ?_
    refine wl_op rfl rfl (ow_vr (vr_pick (b := true) rfl rfl) ?_)
    refine wl_op rfl rfl (ow_vr (vr_move (v := .bool _) rfl) ?_)
    refine wl_no rfl rfl rfl rfl rfl rfl ?_
    refine wl_no rfl rfl rfl rfl rfl rfl ?_
    refine wl_op rfl rfl (ow_vr (vr_pick (b := true) rfl rfl) ?_)
    refine wl_op rfl rfl (ow_vr (vr_move (v := .bool _) rfl) ?_)
    refine wl_no rfl rfl rfl rfl rfl rfl ?_
    refine wl_no rfl rfl rfl rfl rfl rfl ?_
    refine wl_op rfl rfl (ow_vr (vr_pick (b := true) rfl rfl) ?_)
    refine wl_nil ?_
    refine hK3 _ _ ?_
    refine cw_cond_t rfl rfl (rfl) ?_
    refine cw_seq fun K4 hK4 => ?_
    refine cw_region ?_
    refine wl_op rfl rfl (ow_fn (vs := []) en_16 rfl hS (alive8) ?_)
    clear hS; rintro _ _ w ⟨rfl, rfl⟩ hS; (try simp only [List.cons_append, List.nil_append] at hS)
    refine wl_op rfl rfl (ow_vr (vr_assign (v := .bool _) rfl) ?_)
    refine wl_nil ?_
    refine hK4 _ _ ?_
    refine cw_ret ?_
    refine thenF_ret (?_)
    refine ret_one (fn := Try.f3) (n := 90) (t := 6) (.inl rfl) rfl rfl ?_
    exact ⟨congrArg Value.bool (by first | rfl | (simp [sectorsI, *]; done) | (rw [decide_eq_true_iff]; omega)), by first | exact hS.tail1 | exact hS.tail1.tail1⟩
  · (try simp only [decide_eq_true_eq, decide_eq_false_iff_not, Bool.not_eq_true, Bool.not_eq_false, Bool.not_eq_true', Bool.not_eq_false', Bool.and_eq_true, Bool.or_eq_true, Bool.and_eq_false_iff, Bool.or_eq_false_iff, Int.not_lt, Int.not_le, gt_iff_lt, ge_iff_le, ne_eq, Decidable.not_not, beq_iff_eq] at hc)
    have hg12 := hc; clear hc
    refine wl_yes rfl rfl rfl rfl rfl (ow_vr (vr_move (v := .int .i64 _) rfl) ?_)
    refine wl_yes rfl rfl rfl rfl rfl (ow_vr (vr_lss rfl rfl) ?_)
    refine wl_op rfl rfl (ow_vr (vr_pick (b := false) rfl rfl) ?_)
    refine wl_op rfl rfl (ow_vr (vr_move (v := .bool _) rfl) ?_)
    refine wl_split 16 rfl (fun hc => ?_) (fun hc => ?_)
    · (try simp only [decide_eq_true_eq, decide_eq_false_iff_not, Bool.not_eq_true, Bool.not_eq_false, Bool.not_eq_true', Bool.not_eq_false', Bool.and_eq_true, Bool.or_eq_true, Bool.and_eq_false_iff, Bool.or_eq_false_iff, Int.not_lt, Int.not_le, gt_iff_lt, ge_iff_le, ne_eq, Decidable.not_not, beq_iff_eq] at hc)
      have hg16 := hc; clear hc
      refine wl_no rfl rfl rfl rfl rfl rfl ?_
      refine wl_no rfl rfl rfl rfl rfl rfl ?_
      refine wl_op rfl rfl (ow_vr (vr_pick (b := true) rfl rfl) ?_)
      refine wl_op rfl rfl (ow_vr (vr_move (v := .bool _) rfl) ?_)
      refine wl_no rfl rfl rfl rfl rfl rfl ?_
      refine wl_no rfl rfl rfl rfl rfl rfl ?_
      refine wl_op rfl rfl (ow_vr (vr_pick (b := true) rfl rfl) ?_)
      refine wl_op rfl rfl (ow_vr (vr_move (v := .bool _) rfl) ?_)
      refine wl_no rfl rfl rfl rfl rfl rfl ?_
      refine wl_no rfl rfl rfl rfl rfl rfl ?_
      refine wl_op rfl rfl (ow_vr (vr_pick (b := true) rfl rfl) ?_)
      refine wl_op rfl rfl (ow_vr (vr_move (v := .bool _) rfl) ?_)
      refine wl_no rfl rfl rfl rfl rfl rfl ?_
      refine wl_no rfl rfl rfl rfl rfl rfl ?_
      refine wl_op rfl rfl (ow_vr (vr_pick (b := true) rfl rfl) ?_)
      refine wl_nil ?_
      refine hK3 _ _ ?_
      refine cw_cond_t rfl rfl (rfl) ?_
      refine cw_seq fun K5 hK5 => ?_
      refine cw_region ?_
      refine wl_op rfl rfl (ow_fn (vs := []) en_16 rfl hS (alive8) ?_)
      clear hS; rintro _ _ w ⟨rfl, rfl⟩ hS; (try simp only [List.cons_append, List.nil_append] at hS)
      refine wl_op rfl rfl (ow_vr (vr_assign (v := .bool _) rfl) ?_)
      refine wl_nil ?_
      refine hK5 _ _ ?_
      refine cw_ret ?_
      refine thenF_ret (?_)
      refine ret_one (fn := Try.f3) (n := 90) (t := 6) (.inl rfl) rfl rfl ?_
      exact ⟨congrArg Value.bool (by first | rfl | (simp [sectorsI, *]; done) | (rw [decide_eq_true_iff]; omega)), by first | exact hS.tail1 | exact hS.tail1.tail1⟩
    · (try simp only [decide_eq_true_eq, decide_eq_false_iff_not, Bool.not_eq_true, Bool.not_eq_false, Bool.not_eq_true', Bool.not_eq_false', Bool.and_eq_true, Bool.or_eq_true, Bool.and_eq_false_iff, Bool.or_eq_false_iff, Int.not_lt, Int.not_le, gt_iff_lt, ge_iff_le, ne_eq, Decidable.not_not, beq_iff_eq] at hc)
      have hg16 := hc; clear hc
      refine wl_yes rfl rfl rfl rfl rfl (ow_vr (vr_move (v := .int .i64 _) rfl) ?_)
      refine wl_yes rfl rfl rfl rfl rfl (ow_vr (vr_lss rfl rfl) ?_)
      refine wl_op rfl rfl (ow_vr (vr_pick (b := false) rfl rfl) ?_)
      refine wl_op rfl rfl (ow_vr (vr_move (v := .bool _) rfl) ?_)
      refine wl_split 20 rfl (fun hc => ?_) (fun hc => ?_)
      · (try simp only [decide_eq_true_eq, decide_eq_false_iff_not, Bool.not_eq_true, Bool.not_eq_false, Bool.not_eq_true', Bool.not_eq_false', Bool.and_eq_true, Bool.or_eq_true, Bool.and_eq_false_iff, Bool.or_eq_false_iff, Int.not_lt, Int.not_le, gt_iff_lt, ge_iff_le, ne_eq, Decidable.not_not, beq_iff_eq] at hc)
        have hg20 := hc; clear hc
        refine wl_no rfl rfl rfl rfl rfl rfl ?_
        refine wl_no rfl rfl rfl rfl rfl rfl ?_
        refine wl_op rfl rfl (ow_vr (vr_pick (b := true) rfl rfl) ?_)
        refine wl_op rfl rfl (ow_vr (vr_move (v := .bool _) rfl) ?_)
        refine wl_no rfl rfl rfl rfl rfl rfl ?_
        refine wl_no rfl rfl rfl rfl rfl rfl ?_
        refine wl_op rfl rfl (ow_vr (vr_pick (b := true) rfl rfl) ?_)
        refine wl_op rfl rfl (ow_vr (vr_move (v := .bool _) rfl) ?_)
        refine wl_no rfl rfl rfl rfl rfl rfl ?_
        refine wl_no rfl rfl rfl rfl rfl rfl ?_
        refine wl_op rfl rfl (ow_vr (vr_pick (b := true) rfl rfl) ?_)
        refine wl_nil ?_
        refine hK3 _ _ ?_
        refine cw_cond_t rfl rfl (rfl) ?_
        refine cw_seq fun K6 hK6 => ?_
        refine cw_region ?_
        refine wl_op rfl rfl (ow_fn (vs := []) en_16 rfl hS (alive8) ?_)
        clear hS; rintro _ _ w ⟨rfl, rfl⟩ hS; (try simp only [List.cons_append, List.nil_append] at hS)
        refine wl_op rfl rfl (ow_vr (vr_assign (v := .bool _) rfl) ?_)
        refine wl_nil ?_
        refine hK6 _ _ ?_
        refine cw_ret ?_
        refine thenF_ret (?_)
        refine ret_one (fn := Try.f3) (n := 90) (t := 6) (.inl rfl) rfl rfl ?_
        exact ⟨congrArg Value.bool (by first | rfl | (simp [sectorsI, *]; done) | (rw [decide_eq_true_iff]; omega)), by first | exact hS.tail1 | exact hS.tail1.tail1⟩
      · (try simp only [decide_eq_true_eq, decide_eq_false_iff_not, Bool.not_eq_true, Bool.not_eq_false, Bool.not_eq_true', Bool.not_eq_false', Bool.and_eq_true, Bool.or_eq_true, Bool.and_eq_false_iff, Bool.or_eq_false_iff, Int.not_lt, Int.not_le, gt_iff_lt, ge_iff_le, ne_eq, Decidable.not_not, beq_iff_eq] at hc)
        have hg20 := hc; clear hc
        refine wl_yes rfl rfl rfl rfl rfl (ow_vr (vr_move (v := .int .i64 _) rfl) ?_)
        refine wl_yes rfl rfl rfl rfl rfl (ow_vr (vr_gtr rfl rfl) ?_)
        refine wl_op rfl rfl (ow_vr (vr_pick (b := false) rfl rfl) ?_)
        refine wl_op rfl rfl (ow_vr (vr_move (v := .bool _) rfl) ?_)
        refine wl_split 24 rfl (fun hc => ?_) (fun hc => ?_)
        · (try simp only [decide_eq_true_eq, decide_eq_false_iff_not, Bool.not_eq_true, Bool.not_eq_false, Bool.not_eq_true', Bool.not_eq_false', Bool.and_eq_true, Bool.or_eq_true, Bool.and_eq_false_iff, Bool.or_eq_false_iff, Int.not_lt, Int.not_le, gt_iff_lt, ge_iff_le, ne_eq, Decidable.not_not, beq_iff_eq] at hc)
          have hg24 := hc; clear hc
          refine wl_no rfl rfl rfl rfl rfl rfl ?_
          refine wl_no rfl rfl rfl rfl rfl rfl ?_
          refine wl_op rfl rfl (ow_vr (vr_pick (b := true) rfl rfl) ?_)
          refine wl_op rfl rfl (ow_vr (vr_move (v := .bool _) rfl) ?_)
          refine wl_no rfl rfl rfl rfl rfl rfl ?_
          refine wl_no rfl rfl rfl rfl rfl rfl ?_
          refine wl_op rfl rfl (ow_vr (vr_pick (b := true) rfl rfl) ?_)
          refine wl_nil ?_
          refine hK3 _ _ ?_
          refine cw_cond_t rfl rfl (rfl) ?_
          refine cw_seq fun K7 hK7 => ?_
          refine cw_region ?_
          refine wl_op rfl rfl (ow_fn (vs := []) en_16 rfl hS (alive8) ?_)
          clear hS; rintro _ _ w ⟨rfl, rfl⟩ hS; (try simp only [List.cons_append, List.nil_append] at hS)
          refine wl_op rfl rfl (ow_vr (vr_assign (v := .bool _) rfl) ?_)
          refine wl_nil ?_
          refine hK7 _ _ ?_
          refine cw_ret ?_
          refine thenF_ret (?_)
          refine ret_one (fn := Try.f3) (n := 90) (t := 6) (.inl rfl) rfl rfl ?_
          exact ⟨congrArg Value.bool (by first | rfl | (simp [sectorsI, *]; done) | (rw [decide_eq_true_iff]; omega)), by first | exact hS.tail1 | exact hS.tail1.tail1⟩
        · (try simp only [decide_eq_true_eq, decide_eq_false_iff_not, Bool.not_eq_true, Bool.not_eq_false, Bool.not_eq_true', Bool.not_eq_false', Bool.and_eq_true, Bool.or_eq_true, Bool.and_eq_false_iff, Bool.or_eq_false_iff, Int.not_lt, Int.not_le, gt_iff_lt, ge_iff_le, ne_eq, Decidable.not_not, beq_iff_eq] at hc)
          have hg24 := hc; clear hc
          refine wl_yes rfl rfl rfl rfl rfl (ow_vr (vr_move (v := .int .i64 _) rfl) ?_)
          refine wl_yes rfl rfl rfl rfl rfl (ow_vr (vr_gtr rfl rfl) ?_)
          refine wl_op rfl rfl (ow_vr (vr_pick (b := false) rfl rfl) ?_)
          refine wl_op rfl rfl (ow_vr (vr_move (v := .bool _) rfl) ?_)
          refine wl_split 28 rfl (fun hc => ?_) (fun hc => ?_)
          · (try simp only [decide_eq_true_eq, decide_eq_false_iff_not, Bool.not_eq_true, Bool.not_eq_false, Bool.not_eq_true', Bool.not_eq_false', Bool.and_eq_true, Bool.or_eq_true, Bool.and_eq_false_iff, Bool.or_eq_false_iff, Int.not_lt, Int.not_le, gt_iff_lt, ge_iff_le, ne_eq, Decidable.not_not, beq_iff_eq] at hc)
            have hg28 := hc; clear hc
            refine wl_no rfl rfl rfl rfl rfl rfl ?_
            refine wl_no rfl rfl rfl rfl rfl rfl ?_
            refine wl_op rfl rfl (ow_vr (vr_pick (b := true) rfl rfl) ?_)
            refine wl_nil ?_
            refine hK3 _ _ ?_
            refine cw_cond_t rfl rfl (rfl) ?_
            refine cw_seq fun K8 hK8 => ?_
            refine cw_region ?_
            refine wl_op rfl rfl (ow_fn (vs := []) en_16 rfl hS (alive8) ?_)
            clear hS; rintro _ _ w ⟨rfl, rfl⟩ hS; (try simp only [List.cons_append, List.nil_append] at hS)
            refine wl_op rfl rfl (ow_vr (vr_assign (v := .bool _) rfl) ?_)
            refine wl_nil ?_
            refine hK8 _ _ ?_
            refine cw_ret ?_
            refine thenF_ret (?_)
            refine ret_one (fn := Try.f3) (n := 90) (t := 6) (.inl rfl) rfl rfl ?_
            exact ⟨congrArg Value.bool (by first | rfl | (simp [sectorsI, *]; done) | (rw [decide_eq_true_iff]; omega)), by first | exact hS.tail1 | exact hS.tail1.tail1⟩
          · (try simp only [decide_eq_true_eq, decide_eq_false_iff_not, Bool.not_eq_true, Bool.not_eq_false, Bool.not_eq_true', Bool.not_eq_false', Bool.and_eq_true, Bool.or_eq_true, Bool.and_eq_false_iff, Bool.or_eq_false_iff, Int.not_lt, Int.not_le, gt_iff_lt, ge_iff_le, ne_eq, Decidable.not_not, beq_iff_eq] at hc)
            have hg28 := hc; clear hc
            refine wl_yes rfl rfl rfl rfl rfl (ow_fn (vs := []) en_16 rfl hS (alive8) ?_)
            clear hS; rintro _ _ w ⟨rfl, rfl⟩ hS; (try simp only [List.cons_append, List.nil_append] at hS)
            refine wl_yes rfl rfl rfl rfl rfl (ow_vr (vr_not rfl) ?_)
            refine wl_op rfl rfl (ow_vr (vr_pick (b := false) rfl rfl) ?_)
            refine wl_nil ?_
            refine hK3 _ _ ?_
            refine cw_cond_f rfl rfl (rfl) ?_
            refine cw_skip ?_
            refine hK2 _ _ ?_
            refine cw_seq fun K9 hK9 => ?_
            rw [hr] at hg12
            refine cw_region ?_
            refine wl_op rfl rfl (ow_vr (vr_fieldAddr fo_23_0 rfl) ?_)
            refine wl_op rfl rfl (ow_lr (S := Sat _ _) (lr_load1 Try.underlying3 rfl rfl (by first | exact Has.here | exact Has.there (Has.here) | exact Has.there (Has.there (Has.here)) | exact Has.there (Has.there (Has.there (Has.here))) | exact Has.there (Has.there (Has.there (Has.there (Has.here)))) | exact Has.there (Has.there (Has.there (Has.there (Has.there (Has.here))))) | exact Has.there (Has.there (Has.there (Has.there (Has.there (Has.there (Has.here)))))) | exact Has.there (Has.there (Has.there (Has.there (Has.there (Has.there (Has.there (Has.here)))))))) rfl) hS ?_)
            refine wl_op rfl rfl (ow_vr (vr_move (v := .int .i64 _) rfl) ?_)
            first | (refine wl_op rfl rfl (ow_vr (vr_addi rfl rfl (by unfold inI64; omega)) ?_)) | (refine wl_op rfl rfl (ow_vr (vr_add rfl rfl) ?_))
            refine wl_op rfl rfl (ow_vr (vr_fieldAddr fo_23_1 rfl) ?_)
            refine wl_op rfl rfl (ow_lr (S := Sat _ _) (lr_load1 Try.underlying3 rfl rfl (by first | exact Has.here | exact Has.there (Has.here) | exact Has.there (Has.there (Has.here)) | exact Has.there (Has.there (Has.there (Has.here))) | exact Has.there (Has.there (Has.there (Has.there (Has.here)))) | exact Has.there (Has.there (Has.there (Has.there (Has.there (Has.here))))) | exact Has.there (Has.there (Has.there (Has.there (Has.there (Has.there (Has.here)))))) | exact Has.there (Has.there (Has.there (Has.there (Has.there (Has.there (Has.there (Has.here)))))))) rfl) hS ?_)
            refine wl_op rfl rfl (ow_vr (vr_move (v := .int .i64 _) rfl) ?_)
            first | (refine wl_op rfl rfl (ow_vr (vr_addi rfl rfl (by unfold inI64; omega)) ?_)) | (refine wl_op rfl rfl (ow_vr (vr_add rfl rfl) ?_))
            refine wl_op rfl rfl (ow_vr (vr_build (vs := [(0, .int .i64 _), (1, .int .i64 _)]) (cs := [_, _]) zr_23 pl_23 rfl rfl) ?_)
            refine wl_op rfl rfl (ow_alloc (cs := [_, _]) hS zr_23 rfl ?_)
            clear hS; intro b7 w hS
            refine wl_op rfl rfl (ow_storeA hS sz_23 rfl rfl rfl rfl (by first | exact Has.here | exact Has.there (Has.here) | exact Has.there (Has.there (Has.here)) | exact Has.there (Has.there (Has.there (Has.here))) | exact Has.there (Has.there (Has.there (Has.there (Has.here)))) | exact Has.there (Has.there (Has.there (Has.there (Has.there (Has.here))))) | exact Has.there (Has.there (Has.there (Has.there (Has.there (Has.there (Has.here)))))) | exact Has.there (Has.there (Has.there (Has.there (Has.there (Has.there (Has.there (Has.here)))))))) (by simp) ?_)
            clear hS; intro w hS; simp only [putAt, List.set_cons_zero, List.set_cons_succ] at hS
            refine wl_nil ?_
            refine hK9 _ _ ?_
            refine cw_seq fun K10 hK10 => ?_
            refine cw_seq fun K11 hK11 => ?_
            refine cw_region ?_
            refine wl_op rfl rfl (ow_lr (S := Sat _ _) (lr_loadA Try.underlying23 rfl sz_23 rfl (by first | exact Has.here | exact Has.there (Has.here) | exact Has.there (Has.there (Has.here)) | exact Has.there (Has.there (Has.there (Has.here))) | exact Has.there (Has.there (Has.there (Has.there (Has.here)))) | exact Has.there (Has.there (Has.there (Has.there (Has.there (Has.here))))) | exact Has.there (Has.there (Has.there (Has.there (Has.there (Has.there (Has.here)))))) | exact Has.there (Has.there (Has.there (Has.there (Has.there (Has.there (Has.there (Has.here)))))))) rfl rfl) hS ?_)
            refine wl_op rfl rfl (ow_fn (vs := [.agg _]) en_15 rfl hS (geo_Right (h + half) (l + log)) ?_)
            clear hS; rintro _ _ w ⟨rfl, rfl⟩ hS; (try simp only [List.cons_append, List.nil_append] at hS)
            refine wl_op rfl rfl (ow_vr (vr_not rfl) ?_)
            refine wl_nil ?_
            refine hK11 _ _ ?_
            refine cw_cond rfl rfl (fun hc => ?_) (fun hc => ?_)
            · (try simp only [decide_eq_true_eq, decide_eq_false_iff_not, Bool.not_eq_true, Bool.not_eq_false, Bool.not_eq_true', Bool.not_eq_false', Bool.and_eq_true, Bool.or_eq_true, Bool.and_eq_false_iff, Bool.or_eq_false_iff, Int.not_lt, Int.not_le, gt_iff_lt, ge_iff_le, ne_eq, Decidable.not_not, beq_iff_eq] at hc)
              have hc1 := hc; clear hc
              refine cw_seq fun K12 hK12 => ?_
              refine cw_region ?_
              refine wl_op rfl rfl (ow_lr (S := Sat _ _) (lr_loadA Try.underlying23 rfl sz_23 rfl (by first | exact Has.here | exact Has.there (Has.here) | exact Has.there (Has.there (Has.here)) | exact Has.there (Has.there (Has.there (Has.here))) | exact Has.there (Has.there (Has.there (Has.there (Has.here)))) | exact Has.there (Has.there (Has.there (Has.there (Has.there (Has.here))))) | exact Has.there (Has.there (Has.there (Has.there (Has.there (Has.there (Has.here)))))) | exact Has.there (Has.there (Has.there (Has.there (Has.there (Has.there (Has.there (Has.here)))))))) rfl rfl) hS ?_)
              refine wl_op rfl rfl (ow_fn (vs := [.agg _]) en_17 rfl hS (geo_Sectors (h + half) (l + log)) ?_)
              clear hS; rintro _ _ w ⟨rfl, rfl⟩ hS; (try simp only [List.cons_append, List.nil_append] at hS)
              refine wl_op rfl rfl (ow_vr (vr_eql rfl rfl) ?_)
              refine wl_op rfl rfl (ow_vr (vr_assign (v := .bool _) rfl) ?_)
              refine wl_nil ?_
              refine hK12 _ _ ?_
              refine cw_ret ?_
              refine thenF_ret (?_)
              refine ret_one (fn := Try.f3) (n := 90) (t := 6) (.inl rfl) rfl rfl ?_
              exact ⟨congrArg Value.bool (by first | rfl | (simp [sectorsI, *]; done) | (rw [decide_eq_true_iff]; omega)), by first | exact hS.tail1 | exact hS.tail1.tail1⟩
            · (try simp only [decide_eq_true_eq, decide_eq_false_iff_not, Bool.not_eq_true, Bool.not_eq_false, Bool.not_eq_true', Bool.not_eq_false', Bool.and_eq_true, Bool.or_eq_true, Bool.and_eq_false_iff, Bool.or_eq_false_iff, Int.not_lt, Int.not_le, gt_iff_lt, ge_iff_le, ne_eq, Decidable.not_not, beq_iff_eq] at hc)
              have hc1 := hc; clear hc
              refine cw_skip ?_
              refine hK10 _ _ ?_
              refine cw_seq fun K13 hK13 => ?_
              refine cw_seq fun K14 hK14 => ?_
              refine cw_region ?_
              refine wl_op rfl rfl (ow_vr (vr_assign rfl) ?_)
              refine wl_nil ?_
              refine hK14 _ _ ?_
              refine cw_block ?_
              refine cw_loop (fun m f w => ∃ (k : Int) (g : Nat → Value), f = (upd (upd (upd (upd (upd g 1 (.int .i64 half)) 2 (.int .i64 log)) 3 (.pointer (some ⟨b3, 0, none⟩))) 7 (.pointer (some ⟨b7, 0, none⟩))) 8 (.int .i64 k)) ∧ (1 ≤ k ∧ k ≤ 60) ∧ m = (60 - k).toNat ∧ Sat E ([(b7, .cells #[.int .i64 (h + half), .int .i64 (l + log)] 23  (0, 0))] :: [(b3, .cells #[.int .i64 h, .int .i64 l] 23 (0, 0))] :: F) w) ⟨1, _, (reb (reb (reb (reb (reb rfl rfl) rfl) rfl) rfl) rfl), ?_, rfl, hS⟩ ?_
              · omega
              clear hS; rintro m f w ⟨k, g, rfl, hI0, rfl, hS⟩
              have hb7 := pageAtI_bd h l (k - 1) 1
              refine cw_seq fun K15 hK15 => ?_
              refine cw_seq fun K16 hK16 => ?_
              refine cw_region ?_
              refine wl_op rfl rfl (ow_vr (vr_move (v := .int .i64 _) rfl) ?_)
              refine wl_op rfl rfl (ow_lr (S := Sat _ _) (lr_loadA Try.underlying23 rfl sz_23 rfl (by first | exact Has.here | exact Has.there (Has.here) | exact Has.there (Has.there (Has.here)) | exact Has.there (Has.there (Has.there (Has.here))) | exact Has.there (Has.there (Has.there (Has.there (Has.here)))) | exact Has.there (Has.there (Has.there (Has.there (Has.there (Has.here))))) | exact Has.there (Has.there (Has.there (Has.there (Has.there (Has.there (Has.here)))))) | exact Has.there (Has.there (Has.there (Has.there (Has.there (Has.there (Has.there (Has.here)))))))) rfl rfl) hS ?_)
              refine wl_op rfl rfl (ow_fn (vs := [.agg _]) en_18 rfl hS (geo_Pages h l) ?_)
              clear hS; rintro _ _ w ⟨rfl, rfl⟩ hS; (try simp only [List.cons_append, List.nil_append] at hS)
              refine wl_op rfl rfl (ow_vr (vr_lss rfl rfl) ?_)
              refine wl_nil ?_
              refine hK16 _ _ ?_
              refine cw_cond rfl rfl (fun hc => ?_) (fun hc => ?_)
              · (try simp only [decide_eq_true_eq, decide_eq_false_iff_not, Bool.not_eq_true, Bool.not_eq_false, Bool.not_eq_true', Bool.not_eq_false', Bool.and_eq_true, Bool.or_eq_true, Bool.and_eq_false_iff, Bool.or_eq_false_iff, Int.not_lt, Int.not_le, gt_iff_lt, ge_iff_le, ne_eq, Decidable.not_not, beq_iff_eq] at hc)
                have hc2 := hc; clear hc
                refine cw_skip ?_
                refine hK15 _ _ ?_
                refine cw_seq fun K17 hK17 => ?_
                refine cw_block ?_
                refine cw_seq fun K18 hK18 => ?_
                refine cw_draw_sat hS [(0, 1), (1, 0), (3, 1), (4, 0), (5, 0), (2, 2), (6, 2), (7, 0), (8, 0)] mixed (planFast_ok (by kernel_rfl)) (by rintro _ _ _ ⟨⟩) ?_
                clear hS; intro w hS
                refine pl_load rfl (yes_none rfl) (lr_loadA Try.underlying23 rfl sz_23 rfl (by first | exact Has.here | exact Has.there (Has.here) | exact Has.there (Has.there (Has.here)) | exact Has.there (Has.there (Has.there (Has.here))) | exact Has.there (Has.there (Has.there (Has.there (Has.here)))) | exact Has.there (Has.there (Has.there (Has.there (Has.there (Has.here))))) | exact Has.there (Has.there (Has.there (Has.there (Has.there (Has.there (Has.here)))))) | exact Has.there (Has.there (Has.there (Has.there (Has.there (Has.there (Has.there (Has.here)))))))) rfl rfl) ?_
                refine pl_take rfl (yes_none rfl) (vr_move (v := .int .i64 _) rfl) ?_
                refine pl_load rfl (yes_none rfl) (lr_loadA Try.underlying23 rfl sz_23 rfl (by first | exact Has.here | exact Has.there (Has.here) | exact Has.there (Has.there (Has.here)) | exact Has.there (Has.there (Has.there (Has.here))) | exact Has.there (Has.there (Has.there (Has.there (Has.here)))) | exact Has.there (Has.there (Has.there (Has.there (Has.there (Has.here))))) | exact Has.there (Has.there (Has.there (Has.there (Has.there (Has.there (Has.here)))))) | exact Has.there (Has.there (Has.there (Has.there (Has.there (Has.there (Has.there (Has.here)))))))) rfl rfl) ?_
                refine pl_take rfl (yes_none rfl) (vr_move (v := .int .i64 _) rfl) ?_
                first | (refine pl_take rfl (yes_none rfl) (vr_subi rfl rfl (by unfold inI64; omega)) ?_) | (refine pl_take rfl (yes_none rfl) (vr_sub rfl rfl) ?_)
                refine pl_act rfl (yes_none rfl) (ow_fn (vs := [.agg _, .int .i64 _, .int .i64 _]) en_19 rfl hS (geo_PageAt h l k 0) ?_)
                clear hS; rintro _ _ w ⟨rfl, rfl⟩ hS; (try simp only [List.cons_append, List.nil_append] at hS)
                refine ⟨by first | exact hS | exact hS.tail1 | exact hS.tail1.tail1, ?_⟩
                refine pl_act rfl (yes_none rfl) (ow_fn (vs := [.agg _, .int .i64 _, .int .i64 _]) en_19 rfl hS (geo_PageAt h l (k - 1) 1) ?_)
                clear hS; rintro _ _ w ⟨rfl, rfl⟩ hS; (try simp only [List.cons_append, List.nil_append] at hS)
                refine ⟨by first | exact hS | exact hS.tail1 | exact hS.tail1.tail1, ?_⟩
                first | (refine pl_take rfl (yes_none rfl) (vr_addi rfl rfl (by unfold inI64; omega)) ?_) | (refine pl_take rfl (yes_none rfl) (vr_add rfl rfl) ?_)
                refine pl_take rfl (yes_none rfl) (vr_neq rfl rfl) ?_
                refine pl_nil ?_
                refine hK18 _ _ ?_
                refine cw_cond_f rfl rfl (by unfold pageAtI; rw [if_pos (by omega), if_pos (by omega), decide_eq_false_iff_not]; omega) ?_
                refine cw_skip ?_
                refine hK17 _ _ ?_
                refine cw_region ?_
                refine wl_op rfl rfl (ow_vr (vr_move (v := .int .i64 _) rfl) ?_)
                first | (refine wl_op rfl rfl (ow_vr (vr_addi rfl rfl (by unfold inI64; omega)) ?_)) | (refine wl_op rfl rfl (ow_vr (vr_add rfl rfl) ?_))
                refine wl_op rfl rfl (ow_vr (vr_assign (v := .int .i64 _) rfl) ?_)
                refine wl_nil ?_
                refine thenF_normal ⟨_, ?_, k + 1, _, (reb (reb (reb (reb (reb rfl rfl) rfl) rfl) rfl) rfl), ?_, rfl, hS⟩
                · omega
                · omega
              · (try simp only [decide_eq_true_eq, decide_eq_false_iff_not, Bool.not_eq_true, Bool.not_eq_false, Bool.not_eq_true', Bool.not_eq_false', Bool.and_eq_true, Bool.or_eq_true, Bool.and_eq_false_iff, Bool.or_eq_false_iff, Int.not_lt, Int.not_le, gt_iff_lt, ge_iff_le, ne_eq, Decidable.not_not, beq_iff_eq] at hc)
                have hc2 := hc; clear hc
                refine cw_exit ?_
                refine hK13 _ _ ?_
                refine cw_seq fun K19 hK19 => ?_
                have r1 := hg12
                rw [← hr] at r1
                have hx := hr2.1 hc1
                have e1 : sectorsI (h + half) (l + log) = 2 + 6 * pagesI (h + half) (l + log) + (l + log) := by simp [sectorsI, logAtI, hc1]
                have e2 : sectorsI h l = 2 + 6 * pagesI h l + l := by simp [sectorsI, logAtI, r1]
                have e3 : cellsI (h + half) (l + log) = 16 + 2 * (h + half) := by simp [cellsI, hc1]
                have e4 : cellsI h l = 16 + 2 * h := by simp [cellsI, r1]
                have e5 : logAtI h l = 2 + 6 * pagesI h l := by simp [logAtI, r1]
                have e6 : pagesI h l ≤ pagesI (h + half) (l + log) := by unfold pagesI; omega
                have hb6 := pagesI_bd (h + half) (l + log)
                refine cw_draw_sat hS [(0, 1), (2, 1), (4, 0), (1, 2), (3, 2), (5, 0), (6, 0), (7, 0), (8, 1), (10, 1), (12, 0), (13, 0), (9, 2), (11, 2), (14, 0), (15, 0), (16, 0), (17, 0), (18, 1), (20, 0), (21, 1), (23, 1), (19, 2), (22, 0), (24, 2), (25, 0), (26, 0), (27, 0)] mixed (planFast_ok (by kernel_rfl)) (by rintro _ _ _ ⟨⟩) ?_
                clear hS; intro w hS
                refine pl_load rfl (yes_none rfl) (lr_loadA Try.underlying23 rfl sz_23 rfl (by first | exact Has.here | exact Has.there (Has.here) | exact Has.there (Has.there (Has.here)) | exact Has.there (Has.there (Has.there (Has.here))) | exact Has.there (Has.there (Has.there (Has.there (Has.here)))) | exact Has.there (Has.there (Has.there (Has.there (Has.there (Has.here))))) | exact Has.there (Has.there (Has.there (Has.there (Has.there (Has.there (Has.here)))))) | exact Has.there (Has.there (Has.there (Has.there (Has.there (Has.there (Has.there (Has.here)))))))) rfl rfl) ?_
                refine pl_load rfl (yes_none rfl) (lr_loadA Try.underlying23 rfl sz_23 rfl (by first | exact Has.here | exact Has.there (Has.here) | exact Has.there (Has.there (Has.here)) | exact Has.there (Has.there (Has.there (Has.here))) | exact Has.there (Has.there (Has.there (Has.there (Has.here)))) | exact Has.there (Has.there (Has.there (Has.there (Has.there (Has.here))))) | exact Has.there (Has.there (Has.there (Has.there (Has.there (Has.there (Has.here)))))) | exact Has.there (Has.there (Has.there (Has.there (Has.there (Has.there (Has.there (Has.here)))))))) rfl rfl) ?_
                refine pl_take rfl (yes_none rfl) (vr_move (v := .int .i64 _) rfl) ?_
                refine pl_act rfl (yes_none rfl) (ow_fn (vs := [.agg _]) en_17 rfl hS (geo_Sectors (h + half) (l + log)) ?_)
                clear hS; rintro _ _ w ⟨rfl, rfl⟩ hS; (try simp only [List.cons_append, List.nil_append] at hS)
                refine ⟨by first | exact hS | exact hS.tail1 | exact hS.tail1.tail1, ?_⟩
                refine pl_act rfl (yes_none rfl) (ow_fn (vs := [.agg _]) en_17 rfl hS (geo_Sectors h l) ?_)
                clear hS; rintro _ _ w ⟨rfl, rfl⟩ hS; (try simp only [List.cons_append, List.nil_append] at hS)
                refine ⟨by first | exact hS | exact hS.tail1 | exact hS.tail1.tail1, ?_⟩
                first | (refine pl_take rfl (yes_none rfl) (vr_addi rfl rfl (by unfold inI64; omega)) ?_) | (refine pl_take rfl (yes_none rfl) (vr_add rfl rfl) ?_)
                refine pl_take rfl (yes_none rfl) (vr_geq rfl rfl) ?_
                refine pl_take rfl (yes_none rfl) (vr_move (v := .bool _) rfl) ?_
                refine pl_known 70 rfl (c := true) (by rw [decide_eq_true_iff]; omega) ?_
                refine pl_load rfl (yes_some rfl rfl rfl rfl) (lr_loadA Try.underlying23 rfl sz_23 rfl (by first | exact Has.here | exact Has.there (Has.here) | exact Has.there (Has.there (Has.here)) | exact Has.there (Has.there (Has.there (Has.here))) | exact Has.there (Has.there (Has.there (Has.there (Has.here)))) | exact Has.there (Has.there (Has.there (Has.there (Has.there (Has.here))))) | exact Has.there (Has.there (Has.there (Has.there (Has.there (Has.there (Has.here)))))) | exact Has.there (Has.there (Has.there (Has.there (Has.there (Has.there (Has.there (Has.here)))))))) rfl rfl) ?_
                refine pl_load rfl (yes_some rfl rfl rfl rfl) (lr_loadA Try.underlying23 rfl sz_23 rfl (by first | exact Has.here | exact Has.there (Has.here) | exact Has.there (Has.there (Has.here)) | exact Has.there (Has.there (Has.there (Has.here))) | exact Has.there (Has.there (Has.there (Has.there (Has.here)))) | exact Has.there (Has.there (Has.there (Has.there (Has.there (Has.here))))) | exact Has.there (Has.there (Has.there (Has.there (Has.there (Has.there (Has.here)))))) | exact Has.there (Has.there (Has.there (Has.there (Has.there (Has.there (Has.there (Has.here)))))))) rfl rfl) ?_
                refine pl_take rfl (yes_some rfl rfl rfl rfl) (vr_move (v := .int .i64 _) rfl) ?_
                first | (refine pl_take rfl (yes_some rfl rfl rfl rfl) (vr_muli rfl rfl (by unfold inI64; omega)) ?_) | (refine pl_take rfl (yes_some rfl rfl rfl rfl) (vr_mul rfl rfl) ?_)
                refine pl_act rfl (yes_some rfl rfl rfl rfl) (ow_fn (vs := [.agg _]) en_20 rfl hS (geo_Cells (h + half) (l + log)) ?_)
                clear hS; rintro _ _ w ⟨rfl, rfl⟩ hS; (try simp only [List.cons_append, List.nil_append] at hS)
                refine ⟨by first | exact hS | exact hS.tail1 | exact hS.tail1.tail1, ?_⟩
                refine pl_act rfl (yes_some rfl rfl rfl rfl) (ow_fn (vs := [.agg _]) en_20 rfl hS (geo_Cells h l) ?_)
                clear hS; rintro _ _ w ⟨rfl, rfl⟩ hS; (try simp only [List.cons_append, List.nil_append] at hS)
                refine ⟨by first | exact hS | exact hS.tail1 | exact hS.tail1.tail1, ?_⟩
                first | (refine pl_take rfl (yes_some rfl rfl rfl rfl) (vr_addi rfl rfl (by unfold inI64; omega)) ?_) | (refine pl_take rfl (yes_some rfl rfl rfl rfl) (vr_add rfl rfl) ?_)
                refine pl_take rfl (yes_some rfl rfl rfl rfl) (vr_eql rfl rfl) ?_
                refine pl_take rfl (yes_none rfl) (vr_pick (b := true) rfl rfl) ?_
                refine pl_take rfl (yes_none rfl) (vr_move (v := .bool _) rfl) ?_
                refine pl_known 80 rfl (c := true) (by rw [decide_eq_true_iff]; omega) ?_
                refine pl_load rfl (yes_some rfl rfl rfl rfl) (lr_loadA Try.underlying23 rfl sz_23 rfl (by first | exact Has.here | exact Has.there (Has.here) | exact Has.there (Has.there (Has.here)) | exact Has.there (Has.there (Has.there (Has.here))) | exact Has.there (Has.there (Has.there (Has.there (Has.here)))) | exact Has.there (Has.there (Has.there (Has.there (Has.there (Has.here))))) | exact Has.there (Has.there (Has.there (Has.there (Has.there (Has.there (Has.here)))))) | exact Has.there (Has.there (Has.there (Has.there (Has.there (Has.there (Has.there (Has.here)))))))) rfl rfl) ?_
                refine pl_take rfl (yes_some rfl rfl rfl rfl) (vr_fieldAddr fo_23_1 rfl) ?_
                refine pl_load rfl (yes_some rfl rfl rfl rfl) (lr_load1 Try.underlying3 rfl rfl (by first | exact Has.here | exact Has.there (Has.here) | exact Has.there (Has.there (Has.here)) | exact Has.there (Has.there (Has.there (Has.here))) | exact Has.there (Has.there (Has.there (Has.there (Has.here)))) | exact Has.there (Has.there (Has.there (Has.there (Has.there (Has.here))))) | exact Has.there (Has.there (Has.there (Has.there (Has.there (Has.there (Has.here)))))) | exact Has.there (Has.there (Has.there (Has.there (Has.there (Has.there (Has.there (Has.here)))))))) rfl) ?_
                refine pl_load rfl (yes_some rfl rfl rfl rfl) (lr_loadA Try.underlying23 rfl sz_23 rfl (by first | exact Has.here | exact Has.there (Has.here) | exact Has.there (Has.there (Has.here)) | exact Has.there (Has.there (Has.there (Has.here))) | exact Has.there (Has.there (Has.there (Has.there (Has.here)))) | exact Has.there (Has.there (Has.there (Has.there (Has.there (Has.here))))) | exact Has.there (Has.there (Has.there (Has.there (Has.there (Has.there (Has.here)))))) | exact Has.there (Has.there (Has.there (Has.there (Has.there (Has.there (Has.there (Has.here)))))))) rfl rfl) ?_
                refine pl_act rfl (yes_some rfl rfl rfl rfl) (ow_fn (vs := [.agg _]) en_21 rfl hS (geo_LogAt h l) ?_)
                clear hS; rintro _ _ w ⟨rfl, rfl⟩ hS; (try simp only [List.cons_append, List.nil_append] at hS)
                refine ⟨by first | exact hS | exact hS.tail1 | exact hS.tail1.tail1, ?_⟩
                first | (refine pl_take rfl (yes_some rfl rfl rfl rfl) (vr_addi rfl rfl (by unfold inI64; omega)) ?_) | (refine pl_take rfl (yes_some rfl rfl rfl rfl) (vr_add rfl rfl) ?_)
                refine pl_act rfl (yes_some rfl rfl rfl rfl) (ow_fn (vs := [.agg _]) en_17 rfl hS (geo_Sectors h l) ?_)
                clear hS; rintro _ _ w ⟨rfl, rfl⟩ hS; (try simp only [List.cons_append, List.nil_append] at hS)
                refine ⟨by first | exact hS | exact hS.tail1 | exact hS.tail1.tail1, ?_⟩
                refine pl_take rfl (yes_some rfl rfl rfl rfl) (vr_eql rfl rfl) ?_
                refine pl_take rfl (yes_none rfl) (vr_pick (b := true) rfl rfl) ?_
                refine pl_take rfl (yes_none rfl) (vr_assign (v := .bool _) rfl) ?_
                refine pl_nil ?_
                refine hK19 _ _ ?_
                refine cw_ret ?_
                refine ret_one (fn := Try.f3) (n := 90) (t := 6) (.inl rfl) rfl rfl ?_
                exact ⟨congrArg Value.bool (by first | rfl | (simp [sectorsI, *]; done) | (rw [decide_eq_true_iff]; omega)), by first | exact hS.tail1 | exact hS.tail1.tail1⟩
theorem geo_tells (h l no slot space cell : Int) (i1 : inI64 h) (i2 : inI64 l) : FnV Try.prog 4 [.agg #[.int .i64 h, .int .i64 l], .int .i64 no, .int .i64 slot, .int .i64 space, .int .i64 cell] (.bool true) := by
  refine FnV.mk fun E F w hS => ?_
  have hr := @rightB_true h l
  have hb := pagesI_bd h l
  have hb2 := cellsI_bd h l
  have hb3 := logAtI_bd h l
  refine returns_enter Try.func4 rfl Try.ntmps4 rfl ?_
  refine cw_seq fun K1 hK1 => ?_
  refine cw_region ?_
  refine wl_op rfl rfl (ow_box (cs := [_, _]) hS rfl rfl ?_)
  clear hS; intro b5 w hS
  refine wl_op rfl rfl (ow_vr (vr_assign rfl) ?_)
  refine wl_nil ?_
  refine hK1 _ _ ?_
  refine cw_seq fun K2 hK2 => ?_
  refine cw_seq fun K3 hK3 => ?_
  refine cw_region ?_
  refine wl_op rfl rfl (ow_fn (vs := []) en_16 rfl hS (alive8) ?_)
  clear hS; rintro _ _ w ⟨rfl, rfl⟩ hS; (try simp only [List.cons_append, List.nil_append] at hS)
  refine wl_op rfl rfl (ow_vr (vr_not rfl) ?_)
  refine wl_nil ?_
  refine hK3 _ _ ?_
  refine cw_cond_f rfl rfl (rfl) ?_
  refine cw_skip ?_
  refine hK2 _ _ ?_
  refine cw_seq fun K4 hK4 => ?_
  refine cw_seq fun K5 hK5 => ?_
  refine cw_region ?_
  refine wl_op rfl rfl (ow_lr (S := Sat _ _) (lr_loadA Try.underlying23 rfl sz_23 rfl (by first | exact Has.here | exact Has.there (Has.here) | exact Has.there (Has.there (Has.here)) | exact Has.there (Has.there (Has.there (Has.here))) | exact Has.there (Has.there (Has.there (Has.there (Has.here)))) | exact Has.there (Has.there (Has.there (Has.there (Has.there (Has.here))))) | exact Has.there (Has.there (Has.there (Has.there (Has.there (Has.there (Has.here)))))) | exact Has.there (Has.there (Has.there (Has.there (Has.there (Has.there (Has.there (Has.here)))))))) rfl rfl) hS ?_)
  refine wl_op rfl rfl (ow_fn (vs := [.agg _]) en_22 rfl hS (ref_Geo h l) ?_)
  clear hS; rintro _ _ w ⟨rfl, rfl⟩ hS; (try simp only [List.cons_append, List.nil_append] at hS)
  refine wl_op rfl rfl (ow_vr (vr_not rfl) ?_)
  refine wl_nil ?_
  refine hK5 _ _ ?_
  refine cw_cond rfl rfl (fun hc => ?_) (fun hc => ?_)
  · (try simp only [decide_eq_true_eq, decide_eq_false_iff_not, Bool.not_eq_true, Bool.not_eq_false, Bool.not_eq_true', Bool.not_eq_false', Bool.and_eq_true, Bool.or_eq_true, Bool.and_eq_false_iff, Bool.or_eq_false_iff, Int.not_lt, Int.not_le, gt_iff_lt, ge_iff_le, ne_eq, Decidable.not_not, beq_iff_eq] at hc)
    have hc1 := hc; clear hc
    refine cw_seq fun K6 hK6 => ?_
    have z1 : cellsI h l = 0 := by simp [cellsI, hc1]
    have z2 : pagesI h l = 0 := by simp [pagesI, z1]
    have z3 : pageAtI h l 0 0 = 0 := by simp [pageAtI, z2]
    have z4 : logAtI h l = 0 := by simp [logAtI, hc1]
    have z5 : sectorsI h l = 0 := by simp [sectorsI, hc1]
    have z6 : baseI h l 0 = 0 := by simp [baseI, hc1]
    have z7 : endI h l 0 = 0 := by simp [endI, hc1]
    have z8 : inG h l 0 16 = false := by simp [inG, z6, z7]
    refine cw_draw_sat hS [(0, 1), (1, 2), (2, 0), (3, 0), (4, 1), (6, 1), (9, 1), (12, 1), (15, 1), (18, 1), (21, 1), (5, 2), (7, 2), (8, 0), (10, 2), (11, 0), (13, 2), (14, 0), (16, 2), (17, 0), (19, 2), (20, 0), (22, 2), (23, 0), (24, 0), (25, 0), (26, 0), (27, 1), (28, 2), (29, 0), (30, 0), (31, 0)] mixed (planFast_ok (by kernel_rfl)) (by rintro _ _ _ ⟨⟩) ?_
    clear hS; intro w hS
    refine pl_load rfl (yes_none rfl) (lr_loadA Try.underlying23 rfl sz_23 rfl (by first | exact Has.here | exact Has.there (Has.here) | exact Has.there (Has.there (Has.here)) | exact Has.there (Has.there (Has.there (Has.here))) | exact Has.there (Has.there (Has.there (Has.there (Has.here)))) | exact Has.there (Has.there (Has.there (Has.there (Has.there (Has.here))))) | exact Has.there (Has.there (Has.there (Has.there (Has.there (Has.there (Has.here)))))) | exact Has.there (Has.there (Has.there (Has.there (Has.there (Has.there (Has.there (Has.here)))))))) rfl rfl) ?_
    refine pl_act rfl (yes_none rfl) (ow_fn (vs := [.agg _]) en_15 rfl hS (geo_Right h l) ?_)
    clear hS; rintro _ _ w ⟨rfl, rfl⟩ hS; (try simp only [List.cons_append, List.nil_append] at hS)
    refine ⟨by first | exact hS | exact hS.tail1 | exact hS.tail1.tail1, ?_⟩
    refine pl_take rfl (yes_none rfl) (vr_not rfl) ?_
    refine pl_take rfl (yes_none rfl) (vr_move (v := .bool _) rfl) ?_
    refine pl_known 24 rfl (c := true) (by rw [hc1]; rfl) ?_
    refine pl_load rfl (yes_some rfl rfl rfl rfl) (lr_loadA Try.underlying23 rfl sz_23 rfl (by first | exact Has.here | exact Has.there (Has.here) | exact Has.there (Has.there (Has.here)) | exact Has.there (Has.there (Has.there (Has.here))) | exact Has.there (Has.there (Has.there (Has.there (Has.here)))) | exact Has.there (Has.there (Has.there (Has.there (Has.there (Has.here))))) | exact Has.there (Has.there (Has.there (Has.there (Has.there (Has.there (Has.here)))))) | exact Has.there (Has.there (Has.there (Has.there (Has.there (Has.there (Has.there (Has.here)))))))) rfl rfl) ?_
    refine pl_load rfl (yes_some rfl rfl rfl rfl) (lr_loadA Try.underlying23 rfl sz_23 rfl (by first | exact Has.here | exact Has.there (Has.here) | exact Has.there (Has.there (Has.here)) | exact Has.there (Has.there (Has.there (Has.here))) | exact Has.there (Has.there (Has.there (Has.there (Has.here)))) | exact Has.there (Has.there (Has.there (Has.there (Has.there (Has.here))))) | exact Has.there (Has.there (Has.there (Has.there (Has.there (Has.there (Has.here)))))) | exact Has.there (Has.there (Has.there (Has.there (Has.there (Has.there (Has.there (Has.here)))))))) rfl rfl) ?_
    refine pl_load rfl (yes_some rfl rfl rfl rfl) (lr_loadA Try.underlying23 rfl sz_23 rfl (by first | exact Has.here | exact Has.there (Has.here) | exact Has.there (Has.there (Has.here)) | exact Has.there (Has.there (Has.there (Has.here))) | exact Has.there (Has.there (Has.there (Has.there (Has.here)))) | exact Has.there (Has.there (Has.there (Has.there (Has.there (Has.here))))) | exact Has.there (Has.there (Has.there (Has.there (Has.there (Has.there (Has.here)))))) | exact Has.there (Has.there (Has.there (Has.there (Has.there (Has.there (Has.there (Has.here)))))))) rfl rfl) ?_
    refine pl_load rfl (yes_some rfl rfl rfl rfl) (lr_loadA Try.underlying23 rfl sz_23 rfl (by first | exact Has.here | exact Has.there (Has.here) | exact Has.there (Has.there (Has.here)) | exact Has.there (Has.there (Has.there (Has.here))) | exact Has.there (Has.there (Has.there (Has.there (Has.here)))) | exact Has.there (Has.there (Has.there (Has.there (Has.there (Has.here))))) | exact Has.there (Has.there (Has.there (Has.there (Has.there (Has.there (Has.here)))))) | exact Has.there (Has.there (Has.there (Has.there (Has.there (Has.there (Has.there (Has.here)))))))) rfl rfl) ?_
    refine pl_load rfl (yes_some rfl rfl rfl rfl) (lr_loadA Try.underlying23 rfl sz_23 rfl (by first | exact Has.here | exact Has.there (Has.here) | exact Has.there (Has.there (Has.here)) | exact Has.there (Has.there (Has.there (Has.here))) | exact Has.there (Has.there (Has.there (Has.there (Has.here)))) | exact Has.there (Has.there (Has.there (Has.there (Has.there (Has.here))))) | exact Has.there (Has.there (Has.there (Has.there (Has.there (Has.there (Has.here)))))) | exact Has.there (Has.there (Has.there (Has.there (Has.there (Has.there (Has.there (Has.here)))))))) rfl rfl) ?_
    refine pl_load rfl (yes_some rfl rfl rfl rfl) (lr_loadA Try.underlying23 rfl sz_23 rfl (by first | exact Has.here | exact Has.there (Has.here) | exact Has.there (Has.there (Has.here)) | exact Has.there (Has.there (Has.there (Has.here))) | exact Has.there (Has.there (Has.there (Has.there (Has.here)))) | exact Has.there (Has.there (Has.there (Has.there (Has.there (Has.here))))) | exact Has.there (Has.there (Has.there (Has.there (Has.there (Has.there (Has.here)))))) | exact Has.there (Has.there (Has.there (Has.there (Has.there (Has.there (Has.there (Has.here)))))))) rfl rfl) ?_
    refine pl_load rfl (yes_some rfl rfl rfl rfl) (lr_loadA Try.underlying23 rfl sz_23 rfl (by first | exact Has.here | exact Has.there (Has.here) | exact Has.there (Has.there (Has.here)) | exact Has.there (Has.there (Has.there (Has.here))) | exact Has.there (Has.there (Has.there (Has.there (Has.here)))) | exact Has.there (Has.there (Has.there (Has.there (Has.there (Has.here))))) | exact Has.there (Has.there (Has.there (Has.there (Has.there (Has.there (Has.here)))))) | exact Has.there (Has.there (Has.there (Has.there (Has.there (Has.there (Has.there (Has.here)))))))) rfl rfl) ?_
    refine pl_act rfl (yes_some rfl rfl rfl rfl) (ow_fn (vs := [.agg _]) en_20 rfl hS (geo_Cells h l) ?_)
    clear hS; rintro _ _ w ⟨rfl, rfl⟩ hS; (try simp only [List.cons_append, List.nil_append] at hS)
    refine ⟨by first | exact hS | exact hS.tail1 | exact hS.tail1.tail1, ?_⟩
    refine pl_act rfl (yes_some rfl rfl rfl rfl) (ow_fn (vs := [.agg _]) en_18 rfl hS (geo_Pages h l) ?_)
    clear hS; rintro _ _ w ⟨rfl, rfl⟩ hS; (try simp only [List.cons_append, List.nil_append] at hS)
    refine ⟨by first | exact hS | exact hS.tail1 | exact hS.tail1.tail1, ?_⟩
    first | (refine pl_take rfl (yes_some rfl rfl rfl rfl) (vr_addi rfl rfl (by unfold inI64; omega)) ?_) | (refine pl_take rfl (yes_some rfl rfl rfl rfl) (vr_add rfl rfl) ?_)
    refine pl_act rfl (yes_some rfl rfl rfl rfl) (ow_fn (vs := [.agg _, .int .i64 _, .int .i64 _]) en_19 rfl hS (geo_PageAt h l 0 0) ?_)
    clear hS; rintro _ _ w ⟨rfl, rfl⟩ hS; (try simp only [List.cons_append, List.nil_append] at hS)
    refine ⟨by first | exact hS | exact hS.tail1 | exact hS.tail1.tail1, ?_⟩
    first | (refine pl_take rfl (yes_some rfl rfl rfl rfl) (vr_addi rfl rfl (by unfold inI64; omega)) ?_) | (refine pl_take rfl (yes_some rfl rfl rfl rfl) (vr_add rfl rfl) ?_)
    refine pl_act rfl (yes_some rfl rfl rfl rfl) (ow_fn (vs := [.agg _]) en_21 rfl hS (geo_LogAt h l) ?_)
    clear hS; rintro _ _ w ⟨rfl, rfl⟩ hS; (try simp only [List.cons_append, List.nil_append] at hS)
    refine ⟨by first | exact hS | exact hS.tail1 | exact hS.tail1.tail1, ?_⟩
    first | (refine pl_take rfl (yes_some rfl rfl rfl rfl) (vr_addi rfl rfl (by unfold inI64; omega)) ?_) | (refine pl_take rfl (yes_some rfl rfl rfl rfl) (vr_add rfl rfl) ?_)
    refine pl_act rfl (yes_some rfl rfl rfl rfl) (ow_fn (vs := [.agg _]) en_17 rfl hS (geo_Sectors h l) ?_)
    clear hS; rintro _ _ w ⟨rfl, rfl⟩ hS; (try simp only [List.cons_append, List.nil_append] at hS)
    refine ⟨by first | exact hS | exact hS.tail1 | exact hS.tail1.tail1, ?_⟩
    first | (refine pl_take rfl (yes_some rfl rfl rfl rfl) (vr_addi rfl rfl (by unfold inI64; omega)) ?_) | (refine pl_take rfl (yes_some rfl rfl rfl rfl) (vr_add rfl rfl) ?_)
    refine pl_act rfl (yes_some rfl rfl rfl rfl) (ow_fn (vs := [.agg _, .int .i64 _]) en_23 rfl hS (geo_Base h l 0) ?_)
    clear hS; rintro _ _ w ⟨rfl, rfl⟩ hS; (try simp only [List.cons_append, List.nil_append] at hS)
    refine ⟨by first | exact hS | exact hS.tail1 | exact hS.tail1.tail1, ?_⟩
    first | (refine pl_take rfl (yes_some rfl rfl rfl rfl) (vr_addi rfl rfl (by unfold inI64; omega)) ?_) | (refine pl_take rfl (yes_some rfl rfl rfl rfl) (vr_add rfl rfl) ?_)
    refine pl_act rfl (yes_some rfl rfl rfl rfl) (ow_fn (vs := [.agg _, .int .i64 _]) en_24 rfl hS (geo_End h l 0) ?_)
    clear hS; rintro _ _ w ⟨rfl, rfl⟩ hS; (try simp only [List.cons_append, List.nil_append] at hS)
    refine ⟨by first | exact hS | exact hS.tail1 | exact hS.tail1.tail1, ?_⟩
    first | (refine pl_take rfl (yes_some rfl rfl rfl rfl) (vr_addi rfl rfl (by unfold inI64; omega)) ?_) | (refine pl_take rfl (yes_some rfl rfl rfl rfl) (vr_add rfl rfl) ?_)
    refine pl_take rfl (yes_some rfl rfl rfl rfl) (vr_eql rfl rfl) ?_
    refine pl_take rfl (yes_none rfl) (vr_pick (b := true) rfl rfl) ?_
    refine pl_take rfl (yes_none rfl) (vr_move (v := .bool _) rfl) ?_
    refine pl_known 47 rfl (c := true) (by rw [decide_eq_true_iff]; omega) ?_
    refine pl_load rfl (yes_some rfl rfl rfl rfl) (lr_loadA Try.underlying23 rfl sz_23 rfl (by first | exact Has.here | exact Has.there (Has.here) | exact Has.there (Has.there (Has.here)) | exact Has.there (Has.there (Has.there (Has.here))) | exact Has.there (Has.there (Has.there (Has.there (Has.here)))) | exact Has.there (Has.there (Has.there (Has.there (Has.there (Has.here))))) | exact Has.there (Has.there (Has.there (Has.there (Has.there (Has.there (Has.here)))))) | exact Has.there (Has.there (Has.there (Has.there (Has.there (Has.there (Has.there (Has.here)))))))) rfl rfl) ?_
    refine pl_act rfl (yes_some rfl rfl rfl rfl) (ow_fn (vs := [.agg _, .int .i64 _, .int .i64 _]) en_25 rfl hS (geo_In h l 0 16) ?_)
    clear hS; rintro _ _ w ⟨rfl, rfl⟩ hS; (try simp only [List.cons_append, List.nil_append] at hS)
    refine ⟨by first | exact hS | exact hS.tail1 | exact hS.tail1.tail1, ?_⟩
    refine pl_take rfl (yes_some rfl rfl rfl rfl) (vr_not rfl) ?_
    refine pl_take rfl (yes_none rfl) (vr_pick (b := true) rfl rfl) ?_
    refine pl_take rfl (yes_none rfl) (vr_assign (v := .bool _) rfl) ?_
    refine pl_nil ?_
    refine hK6 _ _ ?_
    refine cw_ret ?_
    refine thenF_ret (?_)
    refine ret_one (fn := Try.f4) (n := 155) (t := 10) (.inl rfl) rfl rfl ?_
    refine ⟨congrArg Value.bool ?_, hS.tail1⟩
    first | (rw [z8]; rfl) | simp
  · (try simp only [decide_eq_true_eq, decide_eq_false_iff_not, Bool.not_eq_true, Bool.not_eq_false, Bool.not_eq_true', Bool.not_eq_false', Bool.and_eq_true, Bool.or_eq_true, Bool.and_eq_false_iff, Bool.or_eq_false_iff, Int.not_lt, Int.not_le, gt_iff_lt, ge_iff_le, ne_eq, Decidable.not_not, beq_iff_eq] at hc)
    have hc1 := hc; clear hc
    refine cw_skip ?_
    refine hK4 _ _ ?_
    refine cw_seq fun K7 hK7 => ?_
    refine cw_region ?_
    refine wl_op rfl rfl (ow_lr (S := Sat _ _) (lr_loadA Try.underlying23 rfl sz_23 rfl (by first | exact Has.here | exact Has.there (Has.here) | exact Has.there (Has.there (Has.here)) | exact Has.there (Has.there (Has.there (Has.here))) | exact Has.there (Has.there (Has.there (Has.there (Has.here)))) | exact Has.there (Has.there (Has.there (Has.there (Has.there (Has.here))))) | exact Has.there (Has.there (Has.there (Has.there (Has.there (Has.there (Has.here)))))) | exact Has.there (Has.there (Has.there (Has.there (Has.there (Has.there (Has.there (Has.here)))))))) rfl rfl) hS ?_)
    refine wl_op rfl rfl (ow_fn (vs := [.agg _]) en_26 rfl hS (ref_Pages h l hc1) ?_)
    clear hS; rintro _ _ w ⟨rfl, rfl⟩ hS; (try simp only [List.cons_append, List.nil_append] at hS)
    refine wl_op rfl rfl (ow_vr (vr_assign (v := .int .i64 _) rfl) ?_)
    refine wl_nil ?_
    refine hK7 _ _ ?_
    refine cw_seq fun K8 hK8 => ?_
    refine cw_region ?_
    refine wl_op rfl rfl (ow_vr (vr_assign rfl) ?_)
    refine wl_nil ?_
    refine hK8 _ _ ?_
    refine cw_seq fun K9 hK9 => ?_
    have hJK9 : ∀ f w, (∃ (pa : Int) (g : Nat → Value), f = (upd (upd (upd (upd (upd (upd (upd g 1 (.int .i64 no)) 2 (.int .i64 slot)) 3 (.int .i64 space)) 4 (.int .i64 cell)) 5 (.pointer (some ⟨b5, 0, none⟩))) 11 (.int .i64 (pagesI h l))) 12 (.int .i64 pa)) ∧ (pa = pageAtI h l no slot) ∧ Sat E ([(b5, .cells #[.int .i64 h, .int .i64 l] 23 (0, 0))] :: F) w) → K9 f w := by
      clear hS; rintro f w ⟨pa, g, rfl, hj9, hS⟩
      refine hK9 _ _ ?_
      refine cw_seq fun K10 hK10 => ?_
      have hb4 := baseI_bd h l space
      have hx := hr.1 hc1
      refine cw_region ?_
      refine wl_op rfl rfl (ow_vr (vr_assign rfl) ?_)
      refine wl_op rfl rfl (ow_vr (vr_assign rfl) ?_)
      refine wl_op rfl rfl (ow_vr (vr_assign rfl) ?_)
      refine wl_nil ?_
      refine hK10 _ _ ?_
      refine cw_seq fun K11 hK11 => ?_
      have hJK11 : ∀ f w, (∃ (ba : Int) (en : Int) (iin : Bool) (g : Nat → Value), f = (upd (upd (upd (upd (upd (upd (upd (upd (upd (upd g 1 (.int .i64 no)) 2 (.int .i64 slot)) 3 (.int .i64 space)) 4 (.int .i64 cell)) 5 (.pointer (some ⟨b5, 0, none⟩))) 11 (.int .i64 (pagesI h l))) 12 (.int .i64 pa)) 13 (.int .i64 ba)) 14 (.int .i64 en)) 15 (.bool iin)) ∧ (ba = baseI h l space ∧ en = endI h l space ∧ iin = inG h l space cell) ∧ Sat E ([(b5, .cells #[.int .i64 h, .int .i64 l] 23 (0, 0))] :: F) w) → K11 f w := by
        clear hS; rintro f w ⟨ba, en, iin, g, rfl, hj14, hS⟩
        refine hK11 _ _ ?_
        refine cw_seq fun K12 hK12 => ?_
        obtain ⟨rfl, rfl, rfl⟩ := hj14
        subst hj9
        refine cw_draw_sat hS [(0, 1), (1, 2), (2, 0), (3, 1), (5, 1), (4, 2), (6, 2), (7, 0), (8, 0), (9, 0), (10, 1), (12, 0), (11, 2), (13, 0), (14, 0), (15, 0), (16, 1), (17, 0), (18, 0), (20, 0), (19, 2), (21, 0), (22, 0), (23, 0), (24, 1), (26, 1), (25, 2), (27, 2), (28, 0), (29, 0), (30, 0), (31, 1), (33, 1), (32, 2), (34, 2), (35, 0), (36, 0), (37, 0), (38, 1), (39, 0), (41, 0), (40, 2), (42, 0), (43, 0), (44, 0), (45, 1), (46, 0), (48, 0), (47, 2), (49, 0), (50, 0), (51, 0), (52, 1), (53, 0), (54, 0), (56, 0), (55, 2), (57, 0), (58, 0), (59, 0)] mixed (planFast_ok (by kernel_rfl)) (by rintro _ _ _ ⟨⟩) ?_
        clear hS; intro w hS
        refine pl_load rfl (yes_none rfl) (lr_loadA Try.underlying23 rfl sz_23 rfl (by first | exact Has.here | exact Has.there (Has.here) | exact Has.there (Has.there (Has.here)) | exact Has.there (Has.there (Has.there (Has.here))) | exact Has.there (Has.there (Has.there (Has.there (Has.here)))) | exact Has.there (Has.there (Has.there (Has.there (Has.there (Has.here))))) | exact Has.there (Has.there (Has.there (Has.there (Has.there (Has.there (Has.here)))))) | exact Has.there (Has.there (Has.there (Has.there (Has.there (Has.there (Has.there (Has.here)))))))) rfl rfl) ?_
        refine pl_act rfl (yes_none rfl) (ow_fn (vs := [.agg _]) en_15 rfl hS (geo_Right h l) ?_)
        clear hS; rintro _ _ w ⟨rfl, rfl⟩ hS; (try simp only [List.cons_append, List.nil_append] at hS)
        refine ⟨by first | exact hS | exact hS.tail1 | exact hS.tail1.tail1, ?_⟩
        refine pl_take rfl (yes_none rfl) (vr_move (v := .bool _) rfl) ?_
        refine pl_known 98 rfl (c := true) (hc1) ?_
        refine pl_load rfl (yes_some rfl rfl rfl rfl) (lr_loadA Try.underlying23 rfl sz_23 rfl (by first | exact Has.here | exact Has.there (Has.here) | exact Has.there (Has.there (Has.here)) | exact Has.there (Has.there (Has.there (Has.here))) | exact Has.there (Has.there (Has.there (Has.there (Has.here)))) | exact Has.there (Has.there (Has.there (Has.there (Has.there (Has.here))))) | exact Has.there (Has.there (Has.there (Has.there (Has.there (Has.there (Has.here)))))) | exact Has.there (Has.there (Has.there (Has.there (Has.there (Has.there (Has.there (Has.here)))))))) rfl rfl) ?_
        refine pl_load rfl (yes_some rfl rfl rfl rfl) (lr_loadA Try.underlying23 rfl sz_23 rfl (by first | exact Has.here | exact Has.there (Has.here) | exact Has.there (Has.there (Has.here)) | exact Has.there (Has.there (Has.there (Has.here))) | exact Has.there (Has.there (Has.there (Has.there (Has.here)))) | exact Has.there (Has.there (Has.there (Has.there (Has.there (Has.here))))) | exact Has.there (Has.there (Has.there (Has.there (Has.there (Has.there (Has.here)))))) | exact Has.there (Has.there (Has.there (Has.there (Has.there (Has.there (Has.there (Has.here)))))))) rfl rfl) ?_
        refine pl_act rfl (yes_some rfl rfl rfl rfl) (ow_fn (vs := [.agg _]) en_20 rfl hS (geo_Cells h l) ?_)
        clear hS; rintro _ _ w ⟨rfl, rfl⟩ hS; (try simp only [List.cons_append, List.nil_append] at hS)
        refine ⟨by first | exact hS | exact hS.tail1 | exact hS.tail1.tail1, ?_⟩
        refine pl_act rfl (yes_some rfl rfl rfl rfl) (ow_fn (vs := [.agg _]) en_28 rfl hS (ref_Cells h l hc1) ?_)
        clear hS; rintro _ _ w ⟨rfl, rfl⟩ hS; (try simp only [List.cons_append, List.nil_append] at hS)
        refine ⟨by first | exact hS | exact hS.tail1 | exact hS.tail1.tail1, ?_⟩
        refine pl_take rfl (yes_some rfl rfl rfl rfl) (vr_eql rfl rfl) ?_
        refine pl_take rfl (yes_none rfl) (vr_pick (b := true) rfl rfl) ?_
        refine pl_take rfl (yes_none rfl) (vr_move (v := .bool _) rfl) ?_
        refine pl_known 105 rfl (c := true) (by simp) ?_
        refine pl_load rfl (yes_some rfl rfl rfl rfl) (lr_loadA Try.underlying23 rfl sz_23 rfl (by first | exact Has.here | exact Has.there (Has.here) | exact Has.there (Has.there (Has.here)) | exact Has.there (Has.there (Has.there (Has.here))) | exact Has.there (Has.there (Has.there (Has.there (Has.here)))) | exact Has.there (Has.there (Has.there (Has.there (Has.there (Has.here))))) | exact Has.there (Has.there (Has.there (Has.there (Has.there (Has.there (Has.here)))))) | exact Has.there (Has.there (Has.there (Has.there (Has.there (Has.there (Has.there (Has.here)))))))) rfl rfl) ?_
        refine pl_take rfl (yes_some rfl rfl rfl rfl) (vr_move (v := .int .i64 _) rfl) ?_
        refine pl_act rfl (yes_some rfl rfl rfl rfl) (ow_fn (vs := [.agg _]) en_18 rfl hS (geo_Pages h l) ?_)
        clear hS; rintro _ _ w ⟨rfl, rfl⟩ hS; (try simp only [List.cons_append, List.nil_append] at hS)
        refine ⟨by first | exact hS | exact hS.tail1 | exact hS.tail1.tail1, ?_⟩
        refine pl_take rfl (yes_some rfl rfl rfl rfl) (vr_eql rfl rfl) ?_
        refine pl_take rfl (yes_none rfl) (vr_pick (b := true) rfl rfl) ?_
        refine pl_take rfl (yes_none rfl) (vr_move (v := .bool _) rfl) ?_
        refine pl_known 111 rfl (c := true) (by simp) ?_
        refine pl_load rfl (yes_some rfl rfl rfl rfl) (lr_loadA Try.underlying23 rfl sz_23 rfl (by first | exact Has.here | exact Has.there (Has.here) | exact Has.there (Has.there (Has.here)) | exact Has.there (Has.there (Has.there (Has.here))) | exact Has.there (Has.there (Has.there (Has.there (Has.here)))) | exact Has.there (Has.there (Has.there (Has.there (Has.there (Has.here))))) | exact Has.there (Has.there (Has.there (Has.there (Has.there (Has.there (Has.here)))))) | exact Has.there (Has.there (Has.there (Has.there (Has.there (Has.there (Has.there (Has.here)))))))) rfl rfl) ?_
        refine pl_take rfl (yes_some rfl rfl rfl rfl) (vr_move (v := .int .i64 _) rfl) ?_
        refine pl_take rfl (yes_some rfl rfl rfl rfl) (vr_move (v := .int .i64 _) rfl) ?_
        refine pl_take rfl (yes_some rfl rfl rfl rfl) (vr_move (v := .int .i64 _) rfl) ?_
        refine pl_act rfl (yes_some rfl rfl rfl rfl) (ow_fn (vs := [.agg _, .int .i64 _, .int .i64 _]) en_19 rfl hS (geo_PageAt h l no slot) ?_)
        clear hS; rintro _ _ w ⟨rfl, rfl⟩ hS; (try simp only [List.cons_append, List.nil_append] at hS)
        refine ⟨by first | exact hS | exact hS.tail1 | exact hS.tail1.tail1, ?_⟩
        refine pl_take rfl (yes_some rfl rfl rfl rfl) (vr_eql rfl rfl) ?_
        refine pl_take rfl (yes_none rfl) (vr_pick (b := true) rfl rfl) ?_
        refine pl_take rfl (yes_none rfl) (vr_move (v := .bool _) rfl) ?_
        refine pl_known 119 rfl (c := true) (by simp) ?_
        refine pl_load rfl (yes_some rfl rfl rfl rfl) (lr_loadA Try.underlying23 rfl sz_23 rfl (by first | exact Has.here | exact Has.there (Has.here) | exact Has.there (Has.there (Has.here)) | exact Has.there (Has.there (Has.there (Has.here))) | exact Has.there (Has.there (Has.there (Has.there (Has.here)))) | exact Has.there (Has.there (Has.there (Has.there (Has.there (Has.here))))) | exact Has.there (Has.there (Has.there (Has.there (Has.there (Has.there (Has.here)))))) | exact Has.there (Has.there (Has.there (Has.there (Has.there (Has.there (Has.there (Has.here)))))))) rfl rfl) ?_
        refine pl_load rfl (yes_some rfl rfl rfl rfl) (lr_loadA Try.underlying23 rfl sz_23 rfl (by first | exact Has.here | exact Has.there (Has.here) | exact Has.there (Has.there (Has.here)) | exact Has.there (Has.there (Has.there (Has.here))) | exact Has.there (Has.there (Has.there (Has.there (Has.here)))) | exact Has.there (Has.there (Has.there (Has.there (Has.there (Has.here))))) | exact Has.there (Has.there (Has.there (Has.there (Has.there (Has.there (Has.here)))))) | exact Has.there (Has.there (Has.there (Has.there (Has.there (Has.there (Has.there (Has.here)))))))) rfl rfl) ?_
        refine pl_act rfl (yes_some rfl rfl rfl rfl) (ow_fn (vs := [.agg _]) en_21 rfl hS (geo_LogAt h l) ?_)
        clear hS; rintro _ _ w ⟨rfl, rfl⟩ hS; (try simp only [List.cons_append, List.nil_append] at hS)
        refine ⟨by first | exact hS | exact hS.tail1 | exact hS.tail1.tail1, ?_⟩
        refine pl_act rfl (yes_some rfl rfl rfl rfl) (ow_fn (vs := [.agg _]) en_29 rfl hS (ref_LogAt h l hc1) ?_)
        clear hS; rintro _ _ w ⟨rfl, rfl⟩ hS; (try simp only [List.cons_append, List.nil_append] at hS)
        refine ⟨by first | exact hS | exact hS.tail1 | exact hS.tail1.tail1, ?_⟩
        refine pl_take rfl (yes_some rfl rfl rfl rfl) (vr_eql rfl rfl) ?_
        refine pl_take rfl (yes_none rfl) (vr_pick (b := true) rfl rfl) ?_
        refine pl_take rfl (yes_none rfl) (vr_move (v := .bool _) rfl) ?_
        refine pl_known 126 rfl (c := true) (by simp) ?_
        refine pl_load rfl (yes_some rfl rfl rfl rfl) (lr_loadA Try.underlying23 rfl sz_23 rfl (by first | exact Has.here | exact Has.there (Has.here) | exact Has.there (Has.there (Has.here)) | exact Has.there (Has.there (Has.there (Has.here))) | exact Has.there (Has.there (Has.there (Has.there (Has.here)))) | exact Has.there (Has.there (Has.there (Has.there (Has.there (Has.here))))) | exact Has.there (Has.there (Has.there (Has.there (Has.there (Has.there (Has.here)))))) | exact Has.there (Has.there (Has.there (Has.there (Has.there (Has.there (Has.there (Has.here)))))))) rfl rfl) ?_
        refine pl_load rfl (yes_some rfl rfl rfl rfl) (lr_loadA Try.underlying23 rfl sz_23 rfl (by first | exact Has.here | exact Has.there (Has.here) | exact Has.there (Has.there (Has.here)) | exact Has.there (Has.there (Has.there (Has.here))) | exact Has.there (Has.there (Has.there (Has.there (Has.here)))) | exact Has.there (Has.there (Has.there (Has.there (Has.there (Has.here))))) | exact Has.there (Has.there (Has.there (Has.there (Has.there (Has.there (Has.here)))))) | exact Has.there (Has.there (Has.there (Has.there (Has.there (Has.there (Has.there (Has.here)))))))) rfl rfl) ?_
        refine pl_act rfl (yes_some rfl rfl rfl rfl) (ow_fn (vs := [.agg _]) en_17 rfl hS (geo_Sectors h l) ?_)
        clear hS; rintro _ _ w ⟨rfl, rfl⟩ hS; (try simp only [List.cons_append, List.nil_append] at hS)
        refine ⟨by first | exact hS | exact hS.tail1 | exact hS.tail1.tail1, ?_⟩
        refine pl_act rfl (yes_some rfl rfl rfl rfl) (ow_fn (vs := [.agg _]) en_30 rfl hS (ref_Sectors h l hc1) ?_)
        clear hS; rintro _ _ w ⟨rfl, rfl⟩ hS; (try simp only [List.cons_append, List.nil_append] at hS)
        refine ⟨by first | exact hS | exact hS.tail1 | exact hS.tail1.tail1, ?_⟩
        refine pl_take rfl (yes_some rfl rfl rfl rfl) (vr_eql rfl rfl) ?_
        refine pl_take rfl (yes_none rfl) (vr_pick (b := true) rfl rfl) ?_
        refine pl_take rfl (yes_none rfl) (vr_move (v := .bool _) rfl) ?_
        refine pl_known 133 rfl (c := true) (by simp) ?_
        refine pl_load rfl (yes_some rfl rfl rfl rfl) (lr_loadA Try.underlying23 rfl sz_23 rfl (by first | exact Has.here | exact Has.there (Has.here) | exact Has.there (Has.there (Has.here)) | exact Has.there (Has.there (Has.there (Has.here))) | exact Has.there (Has.there (Has.there (Has.there (Has.here)))) | exact Has.there (Has.there (Has.there (Has.there (Has.there (Has.here))))) | exact Has.there (Has.there (Has.there (Has.there (Has.there (Has.there (Has.here)))))) | exact Has.there (Has.there (Has.there (Has.there (Has.there (Has.there (Has.there (Has.here)))))))) rfl rfl) ?_
        refine pl_take rfl (yes_some rfl rfl rfl rfl) (vr_move (v := .int .i64 _) rfl) ?_
        refine pl_take rfl (yes_some rfl rfl rfl rfl) (vr_move (v := .int .i64 _) rfl) ?_
        refine pl_act rfl (yes_some rfl rfl rfl rfl) (ow_fn (vs := [.agg _, .int .i64 _]) en_23 rfl hS (geo_Base h l space) ?_)
        clear hS; rintro _ _ w ⟨rfl, rfl⟩ hS; (try simp only [List.cons_append, List.nil_append] at hS)
        refine ⟨by first | exact hS | exact hS.tail1 | exact hS.tail1.tail1, ?_⟩
        refine pl_take rfl (yes_some rfl rfl rfl rfl) (vr_eql rfl rfl) ?_
        refine pl_take rfl (yes_none rfl) (vr_pick (b := true) rfl rfl) ?_
        refine pl_take rfl (yes_none rfl) (vr_move (v := .bool _) rfl) ?_
        refine pl_known 140 rfl (c := true) (by simp) ?_
        refine pl_load rfl (yes_some rfl rfl rfl rfl) (lr_loadA Try.underlying23 rfl sz_23 rfl (by first | exact Has.here | exact Has.there (Has.here) | exact Has.there (Has.there (Has.here)) | exact Has.there (Has.there (Has.there (Has.here))) | exact Has.there (Has.there (Has.there (Has.there (Has.here)))) | exact Has.there (Has.there (Has.there (Has.there (Has.there (Has.here))))) | exact Has.there (Has.there (Has.there (Has.there (Has.there (Has.there (Has.here)))))) | exact Has.there (Has.there (Has.there (Has.there (Has.there (Has.there (Has.there (Has.here)))))))) rfl rfl) ?_
        refine pl_take rfl (yes_some rfl rfl rfl rfl) (vr_move (v := .int .i64 _) rfl) ?_
        refine pl_take rfl (yes_some rfl rfl rfl rfl) (vr_move (v := .int .i64 _) rfl) ?_
        refine pl_act rfl (yes_some rfl rfl rfl rfl) (ow_fn (vs := [.agg _, .int .i64 _]) en_24 rfl hS (geo_End h l space) ?_)
        clear hS; rintro _ _ w ⟨rfl, rfl⟩ hS; (try simp only [List.cons_append, List.nil_append] at hS)
        refine ⟨by first | exact hS | exact hS.tail1 | exact hS.tail1.tail1, ?_⟩
        refine pl_take rfl (yes_some rfl rfl rfl rfl) (vr_eql rfl rfl) ?_
        refine pl_take rfl (yes_none rfl) (vr_pick (b := true) rfl rfl) ?_
        refine pl_take rfl (yes_none rfl) (vr_move (v := .bool _) rfl) ?_
        refine pl_known 147 rfl (c := true) (by simp) ?_
        refine pl_load rfl (yes_some rfl rfl rfl rfl) (lr_loadA Try.underlying23 rfl sz_23 rfl (by first | exact Has.here | exact Has.there (Has.here) | exact Has.there (Has.there (Has.here)) | exact Has.there (Has.there (Has.there (Has.here))) | exact Has.there (Has.there (Has.there (Has.there (Has.here)))) | exact Has.there (Has.there (Has.there (Has.there (Has.there (Has.here))))) | exact Has.there (Has.there (Has.there (Has.there (Has.there (Has.there (Has.here)))))) | exact Has.there (Has.there (Has.there (Has.there (Has.there (Has.there (Has.there (Has.here)))))))) rfl rfl) ?_
        refine pl_take rfl (yes_some rfl rfl rfl rfl) (vr_move (v := .int .i64 _) rfl) ?_
        refine pl_take rfl (yes_some rfl rfl rfl rfl) (vr_move (v := .int .i64 _) rfl) ?_
        refine pl_take rfl (yes_some rfl rfl rfl rfl) (vr_move (v := .bool _) rfl) ?_
        refine pl_act rfl (yes_some rfl rfl rfl rfl) (ow_fn (vs := [.agg _, .int .i64 _, .int .i64 _]) en_25 rfl hS (geo_In h l space cell) ?_)
        clear hS; rintro _ _ w ⟨rfl, rfl⟩ hS; (try simp only [List.cons_append, List.nil_append] at hS)
        refine ⟨by first | exact hS | exact hS.tail1 | exact hS.tail1.tail1, ?_⟩
        refine pl_take rfl (yes_some rfl rfl rfl rfl) (vr_eqlb Try.underlying4 rfl rfl) ?_
        refine pl_take rfl (yes_none rfl) (vr_pick (b := true) rfl rfl) ?_
        refine pl_take rfl (yes_none rfl) (vr_assign (v := .bool _) rfl) ?_
        refine pl_nil ?_
        refine hK12 _ _ ?_
        refine cw_ret ?_
        refine ret_one (fn := Try.f4) (n := 155) (t := 10) (.inl rfl) rfl rfl ?_
        refine ⟨congrArg Value.bool ?_, hS.tail1⟩
        first | (rw [z8]; rfl) | simp
      refine cw_seq fun K13 hK13 => ?_
      refine cw_region ?_
      refine wl_op rfl rfl (ow_vr (vr_move (v := .int .i64 _) rfl) ?_)
      refine wl_op rfl rfl (ow_vr (vr_eql rfl rfl) ?_)
      refine wl_op rfl rfl (ow_vr (vr_move (v := .bool _) rfl) ?_)
      refine wl_split 77 rfl (fun hc => ?_) (fun hc => ?_)
      · (try simp only [decide_eq_true_eq, decide_eq_false_iff_not, Bool.not_eq_true, Bool.not_eq_false, Bool.not_eq_true', Bool.not_eq_false', Bool.and_eq_true, Bool.or_eq_true, Bool.and_eq_false_iff, Bool.or_eq_false_iff, Int.not_lt, Int.not_le, gt_iff_lt, ge_iff_le, ne_eq, Decidable.not_not, beq_iff_eq] at hc)
        have hg77 := hc; clear hc
        refine wl_no rfl rfl rfl rfl rfl rfl ?_
        refine wl_no rfl rfl rfl rfl rfl rfl ?_
        refine wl_op rfl rfl (ow_vr (vr_pick (b := true) rfl rfl) ?_)
        refine wl_nil ?_
        refine hK13 _ _ ?_
        refine cw_cond_t rfl rfl (rfl) ?_
        refine cw_seq fun K14 hK14 => ?_
        refine cw_region ?_
        refine wl_op rfl rfl (ow_lr (S := Sat _ _) (lr_loadA Try.underlying23 rfl sz_23 rfl (by first | exact Has.here | exact Has.there (Has.here) | exact Has.there (Has.there (Has.here)) | exact Has.there (Has.there (Has.there (Has.here))) | exact Has.there (Has.there (Has.there (Has.there (Has.here)))) | exact Has.there (Has.there (Has.there (Has.there (Has.there (Has.here))))) | exact Has.there (Has.there (Has.there (Has.there (Has.there (Has.there (Has.here)))))) | exact Has.there (Has.there (Has.there (Has.there (Has.there (Has.there (Has.there (Has.here)))))))) rfl rfl) hS ?_)
        refine wl_op rfl rfl (ow_vr (vr_move (v := .int .i64 _) rfl) ?_)
        refine wl_op rfl rfl (ow_fn (vs := [.agg _, .int .i64 _]) en_27 rfl hS (ref_Base h l space hc1 (by omega) (by omega)) ?_)
        clear hS; rintro _ _ w ⟨rfl, rfl⟩ hS; (try simp only [List.cons_append, List.nil_append] at hS)
        refine wl_op rfl rfl (ow_vr (vr_assign (v := .int .i64 _) rfl) ?_)
        refine wl_nil ?_
        refine hK14 _ _ ?_
        refine cw_seq fun K15 hK15 => ?_
        refine cw_region ?_
        refine wl_op rfl rfl (ow_vr (vr_move (v := .int .i64 _) rfl) ?_)
        refine wl_op rfl rfl (ow_vr (vr_fieldAddr fo_23_0 rfl) ?_)
        refine wl_op rfl rfl (ow_lr (S := Sat _ _) (lr_load1 Try.underlying3 rfl rfl (by first | exact Has.here | exact Has.there (Has.here) | exact Has.there (Has.there (Has.here)) | exact Has.there (Has.there (Has.there (Has.here))) | exact Has.there (Has.there (Has.there (Has.there (Has.here)))) | exact Has.there (Has.there (Has.there (Has.there (Has.there (Has.here))))) | exact Has.there (Has.there (Has.there (Has.there (Has.there (Has.there (Has.here)))))) | exact Has.there (Has.there (Has.there (Has.there (Has.there (Has.there (Has.there (Has.here)))))))) rfl) hS ?_)
        first | (refine wl_op rfl rfl (ow_vr (vr_addi rfl rfl (by unfold inI64; omega)) ?_)) | (refine wl_op rfl rfl (ow_vr (vr_add rfl rfl) ?_))
        refine wl_op rfl rfl (ow_vr (vr_assign (v := .int .i64 _) rfl) ?_)
        refine wl_nil ?_
        refine hK15 _ _ ?_
        refine cw_region ?_
        refine wl_op rfl rfl (ow_vr (vr_move (v := .int .i64 _) rfl) ?_)
        refine wl_op rfl rfl (ow_vr (vr_move (v := .int .i64 _) rfl) ?_)
        refine wl_op rfl rfl (ow_vr (vr_geq rfl rfl) ?_)
        refine wl_op rfl rfl (ow_vr (vr_move (v := .bool _) rfl) ?_)
        refine wl_split 91 rfl (fun hc => ?_) (fun hc => ?_)
        · (try simp only [decide_eq_true_eq, decide_eq_false_iff_not, Bool.not_eq_true, Bool.not_eq_false, Bool.not_eq_true', Bool.not_eq_false', Bool.and_eq_true, Bool.or_eq_true, Bool.and_eq_false_iff, Bool.or_eq_false_iff, Int.not_lt, Int.not_le, gt_iff_lt, ge_iff_le, ne_eq, Decidable.not_not, beq_iff_eq] at hc)
          have hg91 := hc; clear hc
          refine wl_yes rfl rfl rfl rfl rfl (ow_vr (vr_move (v := .int .i64 _) rfl) ?_)
          refine wl_yes rfl rfl rfl rfl rfl (ow_vr (vr_move (v := .int .i64 _) rfl) ?_)
          refine wl_yes rfl rfl rfl rfl rfl (ow_vr (vr_lss rfl rfl) ?_)
          refine wl_op rfl rfl (ow_vr (vr_pick (b := true) rfl rfl) ?_)
          refine wl_op rfl rfl (ow_vr (vr_assign (v := .bool _) rfl) ?_)
          refine wl_nil ?_
          refine hJK11 _ _ ⟨_, _, _, _, (reb (reb (reb (reb (reb (reb (reb (reb (reb (reb rfl rfl) rfl) rfl) rfl) rfl) rfl) rfl) rfl) rfl) rfl), ?_, hS⟩
          first
          | (have ee : endI h l space = baseI h l space + h := by (unfold endI; rw [if_pos ⟨hc1, by omega, by omega⟩])
             refine ⟨rfl, ee.symm, ?_⟩; first | (simp [inG, ee, *]; done) | (simp [inG, ee]; omega))
          | (have e1 : endI h l space = 0 := by (unfold endI; rw [if_neg (by rintro ⟨_, _, _⟩; omega)])
             have e2 : baseI h l space = 0 := by (unfold baseI; rw [if_neg (by rintro ⟨_, _, _⟩; omega)])
             refine ⟨e2.symm, e1.symm, ?_⟩; first | (simp [inG, e1, e2]; done) | (simp [inG, e1, e2]; omega))
        · (try simp only [decide_eq_true_eq, decide_eq_false_iff_not, Bool.not_eq_true, Bool.not_eq_false, Bool.not_eq_true', Bool.not_eq_false', Bool.and_eq_true, Bool.or_eq_true, Bool.and_eq_false_iff, Bool.or_eq_false_iff, Int.not_lt, Int.not_le, gt_iff_lt, ge_iff_le, ne_eq, Decidable.not_not, beq_iff_eq] at hc)
          have hg91 := hc; clear hc
          refine wl_no rfl rfl rfl rfl rfl rfl ?_
          refine wl_no rfl rfl rfl rfl rfl rfl ?_
          refine wl_no rfl rfl rfl rfl rfl rfl ?_
          refine wl_op rfl rfl (ow_vr (vr_pick (b := false) rfl rfl) ?_)
          refine wl_op rfl rfl (ow_vr (vr_assign (v := .bool _) rfl) ?_)
          refine wl_nil ?_
          refine hJK11 _ _ ⟨_, _, _, _, (reb (reb (reb (reb (reb (reb (reb (reb (reb (reb rfl rfl) rfl) rfl) rfl) rfl) rfl) rfl) rfl) rfl) rfl), ?_, hS⟩
          first
          | (have ee : endI h l space = baseI h l space + h := by (unfold endI; rw [if_pos ⟨hc1, by omega, by omega⟩])
             refine ⟨rfl, ee.symm, ?_⟩; first | (simp [inG, ee, *]; done) | (simp [inG, ee]; omega))
          | (have e1 : endI h l space = 0 := by (unfold endI; rw [if_neg (by rintro ⟨_, _, _⟩; omega)])
             have e2 : baseI h l space = 0 := by (unfold baseI; rw [if_neg (by rintro ⟨_, _, _⟩; omega)])
             refine ⟨e2.symm, e1.symm, ?_⟩; first | (simp [inG, e1, e2]; done) | (simp [inG, e1, e2]; omega))
      · (try simp only [decide_eq_true_eq, decide_eq_false_iff_not, Bool.not_eq_true, Bool.not_eq_false, Bool.not_eq_true', Bool.not_eq_false', Bool.and_eq_true, Bool.or_eq_true, Bool.and_eq_false_iff, Bool.or_eq_false_iff, Int.not_lt, Int.not_le, gt_iff_lt, ge_iff_le, ne_eq, Decidable.not_not, beq_iff_eq] at hc)
        have hg77 := hc; clear hc
        refine wl_yes rfl rfl rfl rfl rfl (ow_vr (vr_move (v := .int .i64 _) rfl) ?_)
        refine wl_yes rfl rfl rfl rfl rfl (ow_vr (vr_eql rfl rfl) ?_)
        refine wl_op rfl rfl (ow_vr (vr_pick (b := false) rfl rfl) ?_)
        refine wl_nil ?_
        refine hK13 _ _ ?_
        refine cw_cond rfl rfl (fun hc => ?_) (fun hc => ?_)
        · (try simp only [decide_eq_true_eq, decide_eq_false_iff_not, Bool.not_eq_true, Bool.not_eq_false, Bool.not_eq_true', Bool.not_eq_false', Bool.and_eq_true, Bool.or_eq_true, Bool.and_eq_false_iff, Bool.or_eq_false_iff, Int.not_lt, Int.not_le, gt_iff_lt, ge_iff_le, ne_eq, Decidable.not_not, beq_iff_eq] at hc)
          have hc3 := hc; clear hc
          refine cw_seq fun K16 hK16 => ?_
          refine cw_region ?_
          refine wl_op rfl rfl (ow_lr (S := Sat _ _) (lr_loadA Try.underlying23 rfl sz_23 rfl (by first | exact Has.here | exact Has.there (Has.here) | exact Has.there (Has.there (Has.here)) | exact Has.there (Has.there (Has.there (Has.here))) | exact Has.there (Has.there (Has.there (Has.there (Has.here)))) | exact Has.there (Has.there (Has.there (Has.there (Has.there (Has.here))))) | exact Has.there (Has.there (Has.there (Has.there (Has.there (Has.there (Has.here)))))) | exact Has.there (Has.there (Has.there (Has.there (Has.there (Has.there (Has.there (Has.here)))))))) rfl rfl) hS ?_)
          refine wl_op rfl rfl (ow_vr (vr_move (v := .int .i64 _) rfl) ?_)
          refine wl_op rfl rfl (ow_fn (vs := [.agg _, .int .i64 _]) en_27 rfl hS (ref_Base h l space hc1 (by omega) (by omega)) ?_)
          clear hS; rintro _ _ w ⟨rfl, rfl⟩ hS; (try simp only [List.cons_append, List.nil_append] at hS)
          refine wl_op rfl rfl (ow_vr (vr_assign (v := .int .i64 _) rfl) ?_)
          refine wl_nil ?_
          refine hK16 _ _ ?_
          refine cw_seq fun K17 hK17 => ?_
          refine cw_region ?_
          refine wl_op rfl rfl (ow_vr (vr_move (v := .int .i64 _) rfl) ?_)
          refine wl_op rfl rfl (ow_vr (vr_fieldAddr fo_23_0 rfl) ?_)
          refine wl_op rfl rfl (ow_lr (S := Sat _ _) (lr_load1 Try.underlying3 rfl rfl (by first | exact Has.here | exact Has.there (Has.here) | exact Has.there (Has.there (Has.here)) | exact Has.there (Has.there (Has.there (Has.here))) | exact Has.there (Has.there (Has.there (Has.there (Has.here)))) | exact Has.there (Has.there (Has.there (Has.there (Has.there (Has.here))))) | exact Has.there (Has.there (Has.there (Has.there (Has.there (Has.there (Has.here)))))) | exact Has.there (Has.there (Has.there (Has.there (Has.there (Has.there (Has.there (Has.here)))))))) rfl) hS ?_)
          first | (refine wl_op rfl rfl (ow_vr (vr_addi rfl rfl (by unfold inI64; omega)) ?_)) | (refine wl_op rfl rfl (ow_vr (vr_add rfl rfl) ?_))
          refine wl_op rfl rfl (ow_vr (vr_assign (v := .int .i64 _) rfl) ?_)
          refine wl_nil ?_
          refine hK17 _ _ ?_
          refine cw_region ?_
          refine wl_op rfl rfl (ow_vr (vr_move (v := .int .i64 _) rfl) ?_)
          refine wl_op rfl rfl (ow_vr (vr_move (v := .int .i64 _) rfl) ?_)
          refine wl_op rfl rfl (ow_vr (vr_geq rfl rfl) ?_)
          refine wl_op rfl rfl (ow_vr (vr_move (v := .bool _) rfl) ?_)
          refine wl_split 91 rfl (fun hc => ?_) (fun hc => ?_)
          · (try simp only [decide_eq_true_eq, decide_eq_false_iff_not, Bool.not_eq_true, Bool.not_eq_false, Bool.not_eq_true', Bool.not_eq_false', Bool.and_eq_true, Bool.or_eq_true, Bool.and_eq_false_iff, Bool.or_eq_false_iff, Int.not_lt, Int.not_le, gt_iff_lt, ge_iff_le, ne_eq, Decidable.not_not, beq_iff_eq] at hc)
            have hg91 := hc; clear hc
            refine wl_yes rfl rfl rfl rfl rfl (ow_vr (vr_move (v := .int .i64 _) rfl) ?_)
            refine wl_yes rfl rfl rfl rfl rfl (ow_vr (vr_move (v := .int .i64 _) rfl) ?_)
            refine wl_yes rfl rfl rfl rfl rfl (ow_vr (vr_lss rfl rfl) ?_)
            refine wl_op rfl rfl (ow_vr (vr_pick (b := true) rfl rfl) ?_)
            refine wl_op rfl rfl (ow_vr (vr_assign (v := .bool _) rfl) ?_)
            refine wl_nil ?_
            refine hJK11 _ _ ⟨_, _, _, _, (reb (reb (reb (reb (reb (reb (reb (reb (reb (reb rfl rfl) rfl) rfl) rfl) rfl) rfl) rfl) rfl) rfl) rfl), ?_, hS⟩
            first
            | (have ee : endI h l space = baseI h l space + h := by (unfold endI; rw [if_pos ⟨hc1, by omega, by omega⟩])
               refine ⟨rfl, ee.symm, ?_⟩; first | (simp [inG, ee, *]; done) | (simp [inG, ee]; omega))
            | (have e1 : endI h l space = 0 := by (unfold endI; rw [if_neg (by rintro ⟨_, _, _⟩; omega)])
               have e2 : baseI h l space = 0 := by (unfold baseI; rw [if_neg (by rintro ⟨_, _, _⟩; omega)])
               refine ⟨e2.symm, e1.symm, ?_⟩; first | (simp [inG, e1, e2]; done) | (simp [inG, e1, e2]; omega))
          · (try simp only [decide_eq_true_eq, decide_eq_false_iff_not, Bool.not_eq_true, Bool.not_eq_false, Bool.not_eq_true', Bool.not_eq_false', Bool.and_eq_true, Bool.or_eq_true, Bool.and_eq_false_iff, Bool.or_eq_false_iff, Int.not_lt, Int.not_le, gt_iff_lt, ge_iff_le, ne_eq, Decidable.not_not, beq_iff_eq] at hc)
            have hg91 := hc; clear hc
            refine wl_no rfl rfl rfl rfl rfl rfl ?_
            refine wl_no rfl rfl rfl rfl rfl rfl ?_
            refine wl_no rfl rfl rfl rfl rfl rfl ?_
            refine wl_op rfl rfl (ow_vr (vr_pick (b := false) rfl rfl) ?_)
            refine wl_op rfl rfl (ow_vr (vr_assign (v := .bool _) rfl) ?_)
            refine wl_nil ?_
            refine hJK11 _ _ ⟨_, _, _, _, (reb (reb (reb (reb (reb (reb (reb (reb (reb (reb rfl rfl) rfl) rfl) rfl) rfl) rfl) rfl) rfl) rfl) rfl), ?_, hS⟩
            first
            | (have ee : endI h l space = baseI h l space + h := by (unfold endI; rw [if_pos ⟨hc1, by omega, by omega⟩])
               refine ⟨rfl, ee.symm, ?_⟩; first | (simp [inG, ee, *]; done) | (simp [inG, ee]; omega))
            | (have e1 : endI h l space = 0 := by (unfold endI; rw [if_neg (by rintro ⟨_, _, _⟩; omega)])
               have e2 : baseI h l space = 0 := by (unfold baseI; rw [if_neg (by rintro ⟨_, _, _⟩; omega)])
               refine ⟨e2.symm, e1.symm, ?_⟩; first | (simp [inG, e1, e2]; done) | (simp [inG, e1, e2]; omega))
        · (try simp only [decide_eq_true_eq, decide_eq_false_iff_not, Bool.not_eq_true, Bool.not_eq_false, Bool.not_eq_true', Bool.not_eq_false', Bool.and_eq_true, Bool.or_eq_true, Bool.and_eq_false_iff, Bool.or_eq_false_iff, Int.not_lt, Int.not_le, gt_iff_lt, ge_iff_le, ne_eq, Decidable.not_not, beq_iff_eq] at hc)
          have hc3 := hc; clear hc
          refine cw_skip ?_
          refine hJK11 _ _ ⟨_, _, _, _, (reb (reb (reb (reb (reb (reb (reb (reb (reb (reb rfl rfl) rfl) rfl) rfl) rfl) rfl) rfl) rfl) rfl) rfl), ?_, hS⟩
          first
          | (have ee : endI h l space = baseI h l space + h := by (unfold endI; rw [if_pos ⟨hc1, by omega, by omega⟩])
             refine ⟨rfl, ee.symm, ?_⟩; first | (simp [inG, ee, *]; done) | (simp [inG, ee]; omega))
          | (have e1 : endI h l space = 0 := by (unfold endI; rw [if_neg (by rintro ⟨_, _, _⟩; omega)])
             have e2 : baseI h l space = 0 := by (unfold baseI; rw [if_neg (by rintro ⟨_, _, _⟩; omega)])
             refine ⟨e2.symm, e1.symm, ?_⟩; first | (simp [inG, e1, e2]; done) | (simp [inG, e1, e2]; omega))
    refine cw_seq fun K18 hK18 => ?_
    refine cw_region ?_
    refine wl_op rfl rfl (ow_vr (vr_move (v := .int .i64 _) rfl) ?_)
    refine wl_op rfl rfl (ow_vr (vr_geq rfl rfl) ?_)
    refine wl_op rfl rfl (ow_vr (vr_move (v := .bool _) rfl) ?_)
    refine wl_split 56 rfl (fun hc => ?_) (fun hc => ?_)
    · (try simp only [decide_eq_true_eq, decide_eq_false_iff_not, Bool.not_eq_true, Bool.not_eq_false, Bool.not_eq_true', Bool.not_eq_false', Bool.and_eq_true, Bool.or_eq_true, Bool.and_eq_false_iff, Bool.or_eq_false_iff, Int.not_lt, Int.not_le, gt_iff_lt, ge_iff_le, ne_eq, Decidable.not_not, beq_iff_eq] at hc)
      have hg56 := hc; clear hc
      refine wl_yes rfl rfl rfl rfl rfl (ow_vr (vr_move (v := .int .i64 _) rfl) ?_)
      refine wl_yes rfl rfl rfl rfl rfl (ow_vr (vr_move (v := .int .i64 _) rfl) ?_)
      refine wl_yes rfl rfl rfl rfl rfl (ow_vr (vr_lss rfl rfl) ?_)
      refine wl_op rfl rfl (ow_vr (vr_pick (b := true) rfl rfl) ?_)
      refine wl_op rfl rfl (ow_vr (vr_move (v := .bool _) rfl) ?_)
      refine wl_split 61 rfl (fun hc => ?_) (fun hc => ?_)
      · (try simp only [decide_eq_true_eq, decide_eq_false_iff_not, Bool.not_eq_true, Bool.not_eq_false, Bool.not_eq_true', Bool.not_eq_false', Bool.and_eq_true, Bool.or_eq_true, Bool.and_eq_false_iff, Bool.or_eq_false_iff, Int.not_lt, Int.not_le, gt_iff_lt, ge_iff_le, ne_eq, Decidable.not_not, beq_iff_eq] at hc)
        have hg61 := hc; clear hc
        refine wl_yes rfl rfl rfl rfl rfl (ow_vr (vr_move (v := .int .i64 _) rfl) ?_)
        refine wl_yes rfl rfl rfl rfl rfl (ow_vr (vr_eql rfl rfl) ?_)
        refine wl_yes rfl rfl rfl rfl rfl (ow_vr (vr_move (v := .bool _) rfl) ?_)
        refine wl_split 64 rfl (fun hc => ?_) (fun hc => ?_)
        · (try simp only [decide_eq_true_eq, decide_eq_false_iff_not, Bool.not_eq_true, Bool.not_eq_false, Bool.not_eq_true', Bool.not_eq_false', Bool.and_eq_true, Bool.or_eq_true, Bool.and_eq_false_iff, Bool.or_eq_false_iff, Int.not_lt, Int.not_le, gt_iff_lt, ge_iff_le, ne_eq, Decidable.not_not, beq_iff_eq] at hc)
          have hg64 := hc; clear hc
          refine wl_no rfl rfl rfl rfl rfl rfl ?_
          refine wl_no rfl rfl rfl rfl rfl rfl ?_
          refine wl_yes rfl rfl rfl rfl rfl (ow_vr (vr_pick (b := true) rfl rfl) ?_)
          refine wl_op rfl rfl (ow_vr (vr_pick (b := true) rfl rfl) ?_)
          refine wl_nil ?_
          refine hK18 _ _ ?_
          refine cw_cond_t rfl rfl (rfl) ?_
          refine cw_region ?_
          refine wl_op rfl rfl (ow_vr (vr_move (v := .int .i64 _) rfl) ?_)
          first | (refine wl_op rfl rfl (ow_vr (vr_muli rfl rfl (by unfold inI64; omega)) ?_)) | (refine wl_op rfl rfl (ow_vr (vr_mul rfl rfl) ?_))
          first | (refine wl_op rfl rfl (ow_vr (vr_addi rfl rfl (by unfold inI64; omega)) ?_)) | (refine wl_op rfl rfl (ow_vr (vr_add rfl rfl) ?_))
          refine wl_op rfl rfl (ow_vr (vr_move (v := .int .i64 _) rfl) ?_)
          first | (refine wl_op rfl rfl (ow_vr (vr_muli rfl rfl (by unfold inI64; omega)) ?_)) | (refine wl_op rfl rfl (ow_vr (vr_mul rfl rfl) ?_))
          first | (refine wl_op rfl rfl (ow_vr (vr_addi rfl rfl (by unfold inI64; omega)) ?_)) | (refine wl_op rfl rfl (ow_vr (vr_add rfl rfl) ?_))
          refine wl_op rfl rfl (ow_vr (vr_assign (v := .int .i64 _) rfl) ?_)
          refine wl_nil ?_
          refine hJK9 _ _ ⟨_, _, (reb (reb (reb (reb (reb (reb (reb rfl rfl) rfl) rfl) rfl) rfl) rfl) rfl), ?_, hS⟩
          unfold pageAtI; first | rw [if_pos (by omega)] | rw [if_neg (by omega)]
        · (try simp only [decide_eq_true_eq, decide_eq_false_iff_not, Bool.not_eq_true, Bool.not_eq_false, Bool.not_eq_true', Bool.not_eq_false', Bool.and_eq_true, Bool.or_eq_true, Bool.and_eq_false_iff, Bool.or_eq_false_iff, Int.not_lt, Int.not_le, gt_iff_lt, ge_iff_le, ne_eq, Decidable.not_not, beq_iff_eq] at hc)
          have hg64 := hc; clear hc
          refine wl_yes rfl rfl rfl rfl rfl (ow_vr (vr_move (v := .int .i64 _) rfl) ?_)
          refine wl_yes rfl rfl rfl rfl rfl (ow_vr (vr_eql rfl rfl) ?_)
          refine wl_yes rfl rfl rfl rfl rfl (ow_vr (vr_pick (b := false) rfl rfl) ?_)
          refine wl_op rfl rfl (ow_vr (vr_pick (b := true) rfl rfl) ?_)
          refine wl_nil ?_
          refine hK18 _ _ ?_
          refine cw_cond rfl rfl (fun hc => ?_) (fun hc => ?_)
          · (try simp only [decide_eq_true_eq, decide_eq_false_iff_not, Bool.not_eq_true, Bool.not_eq_false, Bool.not_eq_true', Bool.not_eq_false', Bool.and_eq_true, Bool.or_eq_true, Bool.and_eq_false_iff, Bool.or_eq_false_iff, Int.not_lt, Int.not_le, gt_iff_lt, ge_iff_le, ne_eq, Decidable.not_not, beq_iff_eq] at hc)
            have hc2 := hc; clear hc
            refine cw_region ?_
            refine wl_op rfl rfl (ow_vr (vr_move (v := .int .i64 _) rfl) ?_)
            first | (refine wl_op rfl rfl (ow_vr (vr_muli rfl rfl (by unfold inI64; omega)) ?_)) | (refine wl_op rfl rfl (ow_vr (vr_mul rfl rfl) ?_))
            first | (refine wl_op rfl rfl (ow_vr (vr_addi rfl rfl (by unfold inI64; omega)) ?_)) | (refine wl_op rfl rfl (ow_vr (vr_add rfl rfl) ?_))
            refine wl_op rfl rfl (ow_vr (vr_move (v := .int .i64 _) rfl) ?_)
            first | (refine wl_op rfl rfl (ow_vr (vr_muli rfl rfl (by unfold inI64; omega)) ?_)) | (refine wl_op rfl rfl (ow_vr (vr_mul rfl rfl) ?_))
            first | (refine wl_op rfl rfl (ow_vr (vr_addi rfl rfl (by unfold inI64; omega)) ?_)) | (refine wl_op rfl rfl (ow_vr (vr_add rfl rfl) ?_))
            refine wl_op rfl rfl (ow_vr (vr_assign (v := .int .i64 _) rfl) ?_)
            refine wl_nil ?_
            refine hJK9 _ _ ⟨_, _, (reb (reb (reb (reb (reb (reb (reb rfl rfl) rfl) rfl) rfl) rfl) rfl) rfl), ?_, hS⟩
            unfold pageAtI; first | rw [if_pos (by omega)] | rw [if_neg (by omega)]
          · (try simp only [decide_eq_true_eq, decide_eq_false_iff_not, Bool.not_eq_true, Bool.not_eq_false, Bool.not_eq_true', Bool.not_eq_false', Bool.and_eq_true, Bool.or_eq_true, Bool.and_eq_false_iff, Bool.or_eq_false_iff, Int.not_lt, Int.not_le, gt_iff_lt, ge_iff_le, ne_eq, Decidable.not_not, beq_iff_eq] at hc)
            have hc2 := hc; clear hc
            refine cw_skip ?_
            refine hJK9 _ _ ⟨_, _, (reb (reb (reb (reb (reb (reb (reb rfl rfl) rfl) rfl) rfl) rfl) rfl) rfl), ?_, hS⟩
            unfold pageAtI; first | rw [if_pos (by omega)] | rw [if_neg (by omega)]
      · (try simp only [decide_eq_true_eq, decide_eq_false_iff_not, Bool.not_eq_true, Bool.not_eq_false, Bool.not_eq_true', Bool.not_eq_false', Bool.and_eq_true, Bool.or_eq_true, Bool.and_eq_false_iff, Bool.or_eq_false_iff, Int.not_lt, Int.not_le, gt_iff_lt, ge_iff_le, ne_eq, Decidable.not_not, beq_iff_eq] at hc)
        have hg61 := hc; clear hc
        refine wl_no rfl rfl rfl rfl rfl rfl ?_
        refine wl_no rfl rfl rfl rfl rfl rfl ?_
        refine wl_no rfl rfl rfl rfl rfl rfl ?_
        refine wl_un rfl rfl rfl rfl rfl ?_
        refine wl_un rfl rfl rfl rfl rfl ?_
        refine wl_no rfl rfl rfl rfl rfl rfl ?_
        refine wl_op rfl rfl (ow_vr (vr_pick (b := false) rfl rfl) ?_)
        refine wl_nil ?_
        refine hK18 _ _ ?_
        refine cw_cond_f rfl rfl (rfl) ?_
        refine cw_skip ?_
        refine hJK9 _ _ ⟨_, _, (reb (reb (reb (reb (reb (reb (reb rfl rfl) rfl) rfl) rfl) rfl) rfl) rfl), ?_, hS⟩
        unfold pageAtI; first | rw [if_pos (by omega)] | rw [if_neg (by omega)]
    · (try simp only [decide_eq_true_eq, decide_eq_false_iff_not, Bool.not_eq_true, Bool.not_eq_false, Bool.not_eq_true', Bool.not_eq_false', Bool.and_eq_true, Bool.or_eq_true, Bool.and_eq_false_iff, Bool.or_eq_false_iff, Int.not_lt, Int.not_le, gt_iff_lt, ge_iff_le, ne_eq, Decidable.not_not, beq_iff_eq] at hc)
      have hg56 := hc; clear hc
      refine wl_no rfl rfl rfl rfl rfl rfl ?_
      refine wl_no rfl rfl rfl rfl rfl rfl ?_
      refine wl_no rfl rfl rfl rfl rfl rfl ?_
      refine wl_op rfl rfl (ow_vr (vr_pick (b := false) rfl rfl) ?_)
      refine wl_op rfl rfl (ow_vr (vr_move (v := .bool _) rfl) ?_)
      refine wl_no rfl rfl rfl rfl rfl rfl ?_
      refine wl_no rfl rfl rfl rfl rfl rfl ?_
      refine wl_no rfl rfl rfl rfl rfl rfl ?_
      refine wl_un rfl rfl rfl rfl rfl ?_
      refine wl_un rfl rfl rfl rfl rfl ?_
      refine wl_no rfl rfl rfl rfl rfl rfl ?_
      refine wl_op rfl rfl (ow_vr (vr_pick (b := false) rfl rfl) ?_)
      refine wl_nil ?_
      refine hK18 _ _ ?_
      refine cw_cond_f rfl rfl (rfl) ?_
      refine cw_skip ?_
      refine hJK9 _ _ ⟨_, _, (reb (reb (reb (reb (reb (reb (reb rfl rfl) rfl) rfl) rfl) rfl) rfl) rfl), ?_, hS⟩
      unfold pageAtI; first | rw [if_pos (by omega)] | rw [if_neg (by omega)]
/-! GeoApart: the row of Bools: the first c of N are true. -/
def bcells (N : Nat) (c : Int) : List Value := (List.range N).map fun (k : Nat) => Value.bool (decide ((k : Int) < c))
theorem bcells_length (N : Nat) (c : Int) : (bcells N c).length = N := by simp [bcells]
theorem bcells_zero (N : Nat) : List.replicate N (Value.bool false) = bcells N 0 := by
  apply List.ext_getElem
  · simp [bcells]
  · intro i h1 h2; simp [bcells]
theorem bcells_get {N : Nat} {c : Int} {i : Nat} (h : i < N) : (bcells N c)[i]? = some (.bool (decide ((i : Int) < c))) := by simp [bcells, h]
theorem bcells_set {N : Nat} {c : Int} {i : Nat} (h : (i : Int) = c) : (bcells N c).set i (.bool true) = bcells N (c + 1) := by
  apply List.ext_getElem
  · simp [bcells]
  · intro j h1 h2
    simp only [bcells, List.getElem_set, List.getElem_map, List.getElem_range]
    split
    · subst_vars; simp; omega
    · congr 1; rw [decide_eq_decide]; omega
theorem geo_apart (h l : Int) (i1 : inI64 h) (i2 : inI64 l) : FnV Try.prog 5 [.agg #[.int .i64 h, .int .i64 l]] (.bool true) := by
  refine FnV.mk fun E F w hS => ?_
  have hr := @rightB_true h l
  have hb := pagesI_bd h l
  have hb2 := cellsI_bd h l
  have hb3 := logAtI_bd h l
  obtain ⟨N, hN⟩ : ∃ N : Nat, sectorsI h l = N := Int.eq_ofNat_of_zero_le (by
    unfold sectorsI; split
    · rename_i hx; rw [hr] at hx; omega
    · omega)
  have hN2 : N ≤ 608 := by
    have : sectorsI h l ≤ 608 := by
      unfold sectorsI; split
      · rename_i hx; rw [hr] at hx; omega
      · omega
    omega
  refine returns_enter Try.func5 rfl Try.ntmps5 rfl ?_
  refine cw_seq fun K1 hK1 => ?_
  refine cw_region ?_
  refine wl_op rfl rfl (ow_box (cs := [_, _]) hS rfl rfl ?_)
  clear hS; intro b1 w hS
  refine wl_op rfl rfl (ow_vr (vr_assign rfl) ?_)
  refine wl_nil ?_
  refine hK1 _ _ ?_
  refine cw_seq fun K2 hK2 => ?_
  refine cw_seq fun K3 hK3 => ?_
  refine cw_region ?_
  refine wl_op rfl rfl (ow_lr (S := Sat _ _) (lr_loadA Try.underlying23 rfl sz_23 rfl (by first | exact Has.here | exact Has.there (Has.here) | exact Has.there (Has.there (Has.here)) | exact Has.there (Has.there (Has.there (Has.here))) | exact Has.there (Has.there (Has.there (Has.there (Has.here)))) | exact Has.there (Has.there (Has.there (Has.there (Has.there (Has.here))))) | exact Has.there (Has.there (Has.there (Has.there (Has.there (Has.there (Has.here)))))) | exact Has.there (Has.there (Has.there (Has.there (Has.there (Has.there (Has.there (Has.here)))))))) rfl rfl) hS ?_)
  refine wl_op rfl rfl (ow_fn (vs := [.agg _]) en_15 rfl hS (geo_Right h l) ?_)
  clear hS; rintro _ _ w ⟨rfl, rfl⟩ hS; (try simp only [List.cons_append, List.nil_append] at hS)
  refine wl_op rfl rfl (ow_vr (vr_not rfl) ?_)
  refine wl_op rfl rfl (ow_vr (vr_move (v := .bool _) rfl) ?_)
  refine wl_split 17 rfl (fun hc => ?_) (fun hc => ?_)
  · (try simp only [decide_eq_true_eq, decide_eq_false_iff_not, Bool.not_eq_true, Bool.not_eq_false, Bool.not_eq_true', Bool.not_eq_false', Bool.and_eq_true, Bool.or_eq_true, Bool.and_eq_false_iff, Bool.or_eq_false_iff, Int.not_lt, Int.not_le, gt_iff_lt, ge_iff_le, ne_eq, Decidable.not_not, beq_iff_eq] at hc)
    have hg17 := hc; clear hc
    refine wl_no rfl rfl rfl rfl rfl rfl ?_
    refine wl_no rfl rfl rfl rfl rfl rfl ?_
    refine wl_op rfl rfl (ow_vr (vr_pick (b := true) rfl rfl) ?_)
    refine wl_nil ?_
    refine hK3 _ _ ?_
    refine cw_cond_t rfl rfl (rfl) ?_
    refine cw_seq fun K4 hK4 => ?_
    refine cw_region ?_
    refine wl_op rfl rfl (ow_fn (vs := []) en_16 rfl hS (alive8) ?_)
    clear hS; rintro _ _ w ⟨rfl, rfl⟩ hS; (try simp only [List.cons_append, List.nil_append] at hS)
    refine wl_op rfl rfl (ow_vr (vr_assign (v := .bool _) rfl) ?_)
    refine wl_nil ?_
    refine hK4 _ _ ?_
    refine cw_ret ?_
    refine thenF_ret (?_)
    refine ret_one (fn := Try.f5) (n := 127) (t := 2) (.inl rfl) rfl rfl ?_
    exact ⟨congrArg Value.bool (by first | rfl | (unfold pagesI; simp [hg17]; omega)), by first | exact hS.tail1 | exact hS.tail1.tail1⟩
  · (try simp only [decide_eq_true_eq, decide_eq_false_iff_not, Bool.not_eq_true, Bool.not_eq_false, Bool.not_eq_true', Bool.not_eq_false', Bool.and_eq_true, Bool.or_eq_true, Bool.and_eq_false_iff, Bool.or_eq_false_iff, Int.not_lt, Int.not_le, gt_iff_lt, ge_iff_le, ne_eq, Decidable.not_not, beq_iff_eq] at hc)
    have hg17 := hc; clear hc
    refine wl_yes rfl rfl rfl rfl rfl (ow_fn (vs := []) en_16 rfl hS (alive8) ?_)
    clear hS; rintro _ _ w ⟨rfl, rfl⟩ hS; (try simp only [List.cons_append, List.nil_append] at hS)
    refine wl_yes rfl rfl rfl rfl rfl (ow_vr (vr_not rfl) ?_)
    refine wl_op rfl rfl (ow_vr (vr_pick (b := false) rfl rfl) ?_)
    refine wl_nil ?_
    refine hK3 _ _ ?_
    refine cw_cond rfl rfl (fun hc => ?_) (fun hc => ?_)
    · (try simp only [decide_eq_true_eq, decide_eq_false_iff_not, Bool.not_eq_true, Bool.not_eq_false, Bool.not_eq_true', Bool.not_eq_false', Bool.and_eq_true, Bool.or_eq_true, Bool.and_eq_false_iff, Bool.or_eq_false_iff, Int.not_lt, Int.not_le, gt_iff_lt, ge_iff_le, ne_eq, Decidable.not_not, beq_iff_eq] at hc)
      have hc0 := hc; clear hc
      refine cw_seq fun K5 hK5 => ?_
      refine cw_region ?_
      refine wl_op rfl rfl (ow_fn (vs := []) en_16 rfl hS (alive8) ?_)
      clear hS; rintro _ _ w ⟨rfl, rfl⟩ hS; (try simp only [List.cons_append, List.nil_append] at hS)
      refine wl_op rfl rfl (ow_vr (vr_assign (v := .bool _) rfl) ?_)
      refine wl_nil ?_
      refine hK5 _ _ ?_
      refine cw_ret ?_
      refine thenF_ret (?_)
      refine ret_one (fn := Try.f5) (n := 127) (t := 2) (.inl rfl) rfl rfl ?_
      exact ⟨congrArg Value.bool (by first | rfl | (unfold pagesI; simp [hg17]; omega)), by first | exact hS.tail1 | exact hS.tail1.tail1⟩
    · (try simp only [decide_eq_true_eq, decide_eq_false_iff_not, Bool.not_eq_true, Bool.not_eq_false, Bool.not_eq_true', Bool.not_eq_false', Bool.and_eq_true, Bool.or_eq_true, Bool.and_eq_false_iff, Bool.or_eq_false_iff, Int.not_lt, Int.not_le, gt_iff_lt, ge_iff_le, ne_eq, Decidable.not_not, beq_iff_eq] at hc)
      have hc0 := hc; clear hc
      refine cw_skip ?_
      refine hK2 _ _ ?_
      refine cw_seq fun K6 hK6 => ?_
      have r1 := hg17
      rw [hr] at r1
      have hL : logAtI h l = 2 + 6 * pagesI h l := by simp [logAtI, hg17]
      have hNs : (N : Int) = 2 + 6 * pagesI h l + l := by rw [← hN]; simp [sectorsI, hg17, hL]
      have hpa : ∀ no slot : Int, 0 ≤ no → no < pagesI h l → 0 ≤ slot → slot < 2 → pageAtI h l no slot = 2 + 6 * no + 3 * slot := fun no slot a b c d => by unfold pageAtI; rw [if_pos ⟨a, b, c, d⟩]
      refine cw_region ?_
      refine wl_op rfl rfl (ow_lr (S := Sat _ _) (lr_loadA Try.underlying23 rfl sz_23 rfl (by first | exact Has.here | exact Has.there (Has.here) | exact Has.there (Has.there (Has.here)) | exact Has.there (Has.there (Has.there (Has.here))) | exact Has.there (Has.there (Has.there (Has.there (Has.here)))) | exact Has.there (Has.there (Has.there (Has.there (Has.there (Has.here))))) | exact Has.there (Has.there (Has.there (Has.there (Has.there (Has.there (Has.here)))))) | exact Has.there (Has.there (Has.there (Has.there (Has.there (Has.there (Has.there (Has.here)))))))) rfl rfl) hS ?_)
      refine wl_op rfl rfl (ow_fn (vs := [.agg _]) en_17 rfl hS ((by have := geo_Sectors h l; rw [hN] at this; exact this)) ?_)
      clear hS; rintro _ _ w ⟨rfl, rfl⟩ hS; (try simp only [List.cons_append, List.nil_append] at hS)
      refine wl_op rfl rfl (ow_vr (vr_assign (v := .int .i64 _) rfl) ?_)
      refine wl_nil ?_
      refine hK6 _ _ ?_
      refine cw_seq fun K7 hK7 => ?_
      refine cw_region ?_
      refine wl_op rfl rfl (ow_vr (vr_move (v := .int .i64 _) rfl) ?_)
      refine wl_op rfl rfl (ow_makeSlice1 hS Try.underlying31 if_4 rfl rfl rfl (by omega) (by omega) ?_)
      clear hS; intro b25 w hS
      refine wl_op rfl rfl (ow_vr (vr_assign (v := .slice _ _ _) rfl) ?_)
      refine wl_nil ?_
      refine hK7 _ _ ?_
      refine cw_seq fun K8 hK8 => ?_
      refine cw_seq fun K9 hK9 => ?_
      rw [bcells_zero] at hS
      refine cw_region ?_
      refine wl_op rfl rfl (ow_vr (vr_assign rfl) ?_)
      refine wl_nil ?_
      refine hK9 _ _ ?_
      refine cw_block ?_
      refine cw_loop (fun m f w => ∃ (k : Int) (g : Nat → Value), f = (upd (upd (upd (upd g 1 (.pointer (some ⟨b1, 0, none⟩))) 3 (.int .i64 N)) 4 (.slice (some ⟨b25, 0, none⟩) N N)) 5 (.int .i64 k)) ∧ (0 ≤ k ∧ k ≤ 2) ∧ m = (2 - k).toNat ∧ Sat E ([(b25, .cells (bcells N (k)).toArray 4 (0, 0))] :: [(b1, .cells #[.int .i64 h, .int .i64 l] 23 (0, 0))] :: F) w) ⟨0, _, (reb (reb (reb (reb rfl rfl) rfl) rfl) rfl), ?_, rfl, hS⟩ ?_
      · omega
      clear hS; rintro m f w ⟨k, g, rfl, hI0, rfl, hS⟩
      refine cw_seq fun K10 hK10 => ?_
      refine cw_seq fun K11 hK11 => ?_
      refine cw_region ?_
      refine wl_op rfl rfl (ow_vr (vr_move (v := .int .i64 _) rfl) ?_)
      refine wl_op rfl rfl (ow_vr (vr_lss rfl rfl) ?_)
      refine wl_nil ?_
      refine hK11 _ _ ?_
      refine cw_cond rfl rfl (fun hc => ?_) (fun hc => ?_)
      · (try simp only [decide_eq_true_eq, decide_eq_false_iff_not, Bool.not_eq_true, Bool.not_eq_false, Bool.not_eq_true', Bool.not_eq_false', Bool.and_eq_true, Bool.or_eq_true, Bool.and_eq_false_iff, Bool.or_eq_false_iff, Int.not_lt, Int.not_le, gt_iff_lt, ge_iff_le, ne_eq, Decidable.not_not, beq_iff_eq] at hc)
        have hc1 := hc; clear hc
        refine cw_skip ?_
        refine hK10 _ _ ?_
        refine cw_seq fun K12 hK12 => ?_
        refine cw_block ?_
        refine cw_region ?_
        refine wl_op rfl rfl (ow_vr (vr_move (v := .slice _ _ _) rfl) ?_)
        refine wl_op rfl rfl (ow_vr (vr_move (v := .int .i64 _) rfl) ?_)
        refine wl_op rfl rfl (ow_vr (vr_indexAddr Try.underlying31 sz_4 rfl rfl (by omega) (by omega)) ?_)
        refine wl_op rfl rfl (ow_store1 (v := .bool _) hS sz_4 rfl rfl rfl (by first | exact Has.here | exact Has.there (Has.here) | exact Has.there (Has.there (Has.here)) | exact Has.there (Has.there (Has.there (Has.here))) | exact Has.there (Has.there (Has.there (Has.there (Has.here)))) | exact Has.there (Has.there (Has.there (Has.there (Has.there (Has.here))))) | exact Has.there (Has.there (Has.there (Has.there (Has.there (Has.there (Has.here)))))) | exact Has.there (Has.there (Has.there (Has.there (Has.there (Has.there (Has.there (Has.here)))))))) (by rw [bcells_length]; omega) ?_)
        clear hS; intro w hS; try simp only [List.set_cons_zero, List.set_cons_succ] at hS
        rw [bcells_set (c := k) (by omega)] at hS
        refine wl_nil ?_
        refine hK12 _ _ ?_
        refine cw_region ?_
        refine wl_op rfl rfl (ow_vr (vr_move (v := .int .i64 _) rfl) ?_)
        first | (refine wl_op rfl rfl (ow_vr (vr_addi rfl rfl (by unfold inI64; omega)) ?_)) | (refine wl_op rfl rfl (ow_vr (vr_add rfl rfl) ?_))
        refine wl_op rfl rfl (ow_vr (vr_assign (v := .int .i64 _) rfl) ?_)
        refine wl_nil ?_
        refine thenF_normal ⟨_, ?_, k + 1, _, (reb (reb (reb (reb rfl rfl) rfl) rfl) rfl), ?_, rfl, hS⟩
        · omega
        · omega
      · (try simp only [decide_eq_true_eq, decide_eq_false_iff_not, Bool.not_eq_true, Bool.not_eq_false, Bool.not_eq_true', Bool.not_eq_false', Bool.and_eq_true, Bool.or_eq_true, Bool.and_eq_false_iff, Bool.or_eq_false_iff, Int.not_lt, Int.not_le, gt_iff_lt, ge_iff_le, ne_eq, Decidable.not_not, beq_iff_eq] at hc)
        have hc1 := hc; clear hc
        refine cw_exit ?_
        refine hK8 _ _ ?_
        refine cw_seq fun K13 hK13 => ?_
        refine cw_seq fun K14 hK14 => ?_
        rw [show k = 2 + 6 * 0 by omega] at hS
        refine cw_region ?_
        refine wl_op rfl rfl (ow_vr (vr_assign rfl) ?_)
        refine wl_nil ?_
        refine hK14 _ _ ?_
        refine cw_block ?_
        refine cw_loop (fun m f w => ∃ (no : Int) (g : Nat → Value), f = (upd (upd (upd (upd g 1 (.pointer (some ⟨b1, 0, none⟩))) 3 (.int .i64 N)) 4 (.slice (some ⟨b25, 0, none⟩) N N)) 6 (.int .i64 no)) ∧ (0 ≤ no ∧ no ≤ pagesI h l) ∧ m = (pagesI h l - no).toNat ∧ Sat E ([(b25, .cells (bcells N (2 + 6 * no)).toArray 4 (0, 0))] :: [(b1, .cells #[.int .i64 h, .int .i64 l] 23 (0, 0))] :: F) w) ⟨0, _, (reb (reb (reb (reb rfl rfl) rfl) rfl) rfl), ?_, rfl, hS⟩ ?_
        · omega
        clear hS; rintro m f w ⟨no, g, rfl, hI1, rfl, hS⟩
        refine cw_seq fun K15 hK15 => ?_
        refine cw_seq fun K16 hK16 => ?_
        refine cw_region ?_
        refine wl_op rfl rfl (ow_vr (vr_move (v := .int .i64 _) rfl) ?_)
        refine wl_op rfl rfl (ow_lr (S := Sat _ _) (lr_loadA Try.underlying23 rfl sz_23 rfl (by first | exact Has.here | exact Has.there (Has.here) | exact Has.there (Has.there (Has.here)) | exact Has.there (Has.there (Has.there (Has.here))) | exact Has.there (Has.there (Has.there (Has.there (Has.here)))) | exact Has.there (Has.there (Has.there (Has.there (Has.there (Has.here))))) | exact Has.there (Has.there (Has.there (Has.there (Has.there (Has.there (Has.here)))))) | exact Has.there (Has.there (Has.there (Has.there (Has.there (Has.there (Has.there (Has.here)))))))) rfl rfl) hS ?_)
        refine wl_op rfl rfl (ow_fn (vs := [.agg _]) en_18 rfl hS (geo_Pages h l) ?_)
        clear hS; rintro _ _ w ⟨rfl, rfl⟩ hS; (try simp only [List.cons_append, List.nil_append] at hS)
        refine wl_op rfl rfl (ow_vr (vr_lss rfl rfl) ?_)
        refine wl_nil ?_
        refine hK16 _ _ ?_
        refine cw_cond rfl rfl (fun hc => ?_) (fun hc => ?_)
        · (try simp only [decide_eq_true_eq, decide_eq_false_iff_not, Bool.not_eq_true, Bool.not_eq_false, Bool.not_eq_true', Bool.not_eq_false', Bool.and_eq_true, Bool.or_eq_true, Bool.and_eq_false_iff, Bool.or_eq_false_iff, Int.not_lt, Int.not_le, gt_iff_lt, ge_iff_le, ne_eq, Decidable.not_not, beq_iff_eq] at hc)
          have hc2 := hc; clear hc
          refine cw_skip ?_
          refine hK15 _ _ ?_
          refine cw_seq fun K17 hK17 => ?_
          refine cw_block ?_
          refine cw_seq fun K18 hK18 => ?_
          rw [show 2 + 6 * no = 2 + 6 * no + 3 * 0 by omega] at hS
          refine cw_region ?_
          refine wl_op rfl rfl (ow_vr (vr_assign rfl) ?_)
          refine wl_nil ?_
          refine hK18 _ _ ?_
          refine cw_block ?_
          refine cw_loop (fun m f w => ∃ (slot : Int) (g : Nat → Value), f = (upd (upd (upd (upd (upd g 1 (.pointer (some ⟨b1, 0, none⟩))) 3 (.int .i64 N)) 4 (.slice (some ⟨b25, 0, none⟩) N N)) 6 (.int .i64 no)) 7 (.int .i64 slot)) ∧ (0 ≤ slot ∧ slot ≤ 2) ∧ m = (2 - slot).toNat ∧ Sat E ([(b25, .cells (bcells N (2 + 6 * no + 3 * slot)).toArray 4 (0, 0))] :: [(b1, .cells #[.int .i64 h, .int .i64 l] 23 (0, 0))] :: F) w) ⟨0, _, (reb (reb (reb (reb (reb rfl rfl) rfl) rfl) rfl) rfl), ?_, rfl, hS⟩ ?_
          · omega
          clear hS; rintro m f w ⟨slot, g, rfl, hI2, rfl, hS⟩
          refine cw_seq fun K19 hK19 => ?_
          refine cw_seq fun K20 hK20 => ?_
          refine cw_region ?_
          refine wl_op rfl rfl (ow_vr (vr_move (v := .int .i64 _) rfl) ?_)
          refine wl_op rfl rfl (ow_vr (vr_lss rfl rfl) ?_)
          refine wl_nil ?_
          refine hK20 _ _ ?_
          refine cw_cond rfl rfl (fun hc => ?_) (fun hc => ?_)
          · (try simp only [decide_eq_true_eq, decide_eq_false_iff_not, Bool.not_eq_true, Bool.not_eq_false, Bool.not_eq_true', Bool.not_eq_false', Bool.and_eq_true, Bool.or_eq_true, Bool.and_eq_false_iff, Bool.or_eq_false_iff, Int.not_lt, Int.not_le, gt_iff_lt, ge_iff_le, ne_eq, Decidable.not_not, beq_iff_eq] at hc)
            have hc3 := hc; clear hc
            refine cw_skip ?_
            refine hK19 _ _ ?_
            refine cw_seq fun K21 hK21 => ?_
            refine cw_block ?_
            refine cw_seq fun K22 hK22 => ?_
            rw [show 2 + 6 * no + 3 * slot = 2 + 6 * no + 3 * slot + 0 by omega] at hS
            refine cw_region ?_
            refine wl_op rfl rfl (ow_vr (vr_assign rfl) ?_)
            refine wl_nil ?_
            refine hK22 _ _ ?_
            refine cw_block ?_
            refine cw_loop (fun m f w => ∃ (k : Int) (g : Nat → Value), f = (upd (upd (upd (upd (upd (upd g 1 (.pointer (some ⟨b1, 0, none⟩))) 3 (.int .i64 N)) 4 (.slice (some ⟨b25, 0, none⟩) N N)) 6 (.int .i64 no)) 7 (.int .i64 slot)) 8 (.int .i64 k)) ∧ (0 ≤ k ∧ k ≤ 3) ∧ m = (3 - k).toNat ∧ Sat E ([(b25, .cells (bcells N (2 + 6 * no + 3 * slot + k)).toArray 4 (0, 0))] :: [(b1, .cells #[.int .i64 h, .int .i64 l] 23 (0, 0))] :: F) w) ⟨0, _, (reb (reb (reb (reb (reb (reb rfl rfl) rfl) rfl) rfl) rfl) rfl), ?_, rfl, hS⟩ ?_
            · omega
            clear hS; rintro m f w ⟨k, g, rfl, hI3, rfl, hS⟩
            refine cw_seq fun K23 hK23 => ?_
            refine cw_seq fun K24 hK24 => ?_
            refine cw_region ?_
            refine wl_op rfl rfl (ow_vr (vr_move (v := .int .i64 _) rfl) ?_)
            refine wl_op rfl rfl (ow_vr (vr_lss rfl rfl) ?_)
            refine wl_nil ?_
            refine hK24 _ _ ?_
            refine cw_cond rfl rfl (fun hc => ?_) (fun hc => ?_)
            · (try simp only [decide_eq_true_eq, decide_eq_false_iff_not, Bool.not_eq_true, Bool.not_eq_false, Bool.not_eq_true', Bool.not_eq_false', Bool.and_eq_true, Bool.or_eq_true, Bool.and_eq_false_iff, Bool.or_eq_false_iff, Int.not_lt, Int.not_le, gt_iff_lt, ge_iff_le, ne_eq, Decidable.not_not, beq_iff_eq] at hc)
              have hc4 := hc; clear hc
              refine cw_skip ?_
              refine hK23 _ _ ?_
              refine cw_seq fun K25 hK25 => ?_
              refine cw_block ?_
              refine cw_seq fun K26 hK26 => ?_
              have hpp := hpa no slot (by omega) (by omega) (by omega) (by omega)
              refine cw_region ?_
              refine wl_op rfl rfl (ow_lr (S := Sat _ _) (lr_loadA Try.underlying23 rfl sz_23 rfl (by first | exact Has.here | exact Has.there (Has.here) | exact Has.there (Has.there (Has.here)) | exact Has.there (Has.there (Has.there (Has.here))) | exact Has.there (Has.there (Has.there (Has.there (Has.here)))) | exact Has.there (Has.there (Has.there (Has.there (Has.there (Has.here))))) | exact Has.there (Has.there (Has.there (Has.there (Has.there (Has.there (Has.here)))))) | exact Has.there (Has.there (Has.there (Has.there (Has.there (Has.there (Has.there (Has.here)))))))) rfl rfl) hS ?_)
              refine wl_op rfl rfl (ow_vr (vr_move (v := .int .i64 _) rfl) ?_)
              refine wl_op rfl rfl (ow_vr (vr_move (v := .int .i64 _) rfl) ?_)
              refine wl_op rfl rfl (ow_fn (vs := [.agg _, .int .i64 _, .int .i64 _]) en_19 rfl hS (geo_PageAt h l no slot) ?_)
              clear hS; rintro _ _ w ⟨rfl, rfl⟩ hS; (try simp only [List.cons_append, List.nil_append] at hS)
              refine wl_op rfl rfl (ow_vr (vr_move (v := .int .i64 _) rfl) ?_)
              first | (refine wl_op rfl rfl (ow_vr (vr_addi rfl rfl (by unfold inI64; omega)) ?_)) | (refine wl_op rfl rfl (ow_vr (vr_add rfl rfl) ?_))
              refine wl_op rfl rfl (ow_vr (vr_assign (v := .int .i64 _) rfl) ?_)
              refine wl_nil ?_
              refine hK26 _ _ ?_
              refine cw_seq fun K27 hK27 => ?_
              refine cw_seq fun K28 hK28 => ?_
              refine cw_region ?_
              refine wl_op rfl rfl (ow_vr (vr_move (v := .int .i64 _) rfl) ?_)
              refine wl_op rfl rfl (ow_vr (vr_lss rfl rfl) ?_)
              refine wl_op rfl rfl (ow_vr (vr_move (v := .bool _) rfl) ?_)
              refine wl_known 55 rfl (c := false) (by rw [hpp, decide_eq_false_iff_not]; omega) ?_
              refine wl_yes rfl rfl rfl rfl rfl (ow_vr (vr_move (v := .int .i64 _) rfl) ?_)
              refine wl_yes rfl rfl rfl rfl rfl (ow_vr (vr_move (v := .int .i64 _) rfl) ?_)
              refine wl_yes rfl rfl rfl rfl rfl (ow_vr (vr_geq rfl rfl) ?_)
              refine wl_op rfl rfl (ow_vr (vr_pick (b := false) rfl rfl) ?_)
              refine wl_op rfl rfl (ow_vr (vr_move (v := .bool _) rfl) ?_)
              refine wl_known 60 rfl (c := false) (by rw [hpp, decide_eq_false_iff_not]; omega) ?_
              refine wl_yes rfl rfl rfl rfl rfl (ow_vr (vr_move (v := .slice _ _ _) rfl) ?_)
              refine wl_yes rfl rfl rfl rfl rfl (ow_vr (vr_move (v := .int .i64 _) rfl) ?_)
              refine wl_yes rfl rfl rfl rfl rfl (ow_vr (vr_indexAddr Try.underlying31 sz_4 rfl rfl (by omega) (by omega)) ?_)
              refine wl_yes rfl rfl rfl rfl rfl (ow_lr (S := Sat _ _) (lr_load1 (v := .bool _) Try.underlying4 rfl rfl (by first | exact Has.here | exact Has.there (Has.here) | exact Has.there (Has.there (Has.here)) | exact Has.there (Has.there (Has.there (Has.here))) | exact Has.there (Has.there (Has.there (Has.there (Has.here)))) | exact Has.there (Has.there (Has.there (Has.there (Has.there (Has.here))))) | exact Has.there (Has.there (Has.there (Has.there (Has.there (Has.there (Has.here)))))) | exact Has.there (Has.there (Has.there (Has.there (Has.there (Has.there (Has.there (Has.here)))))))) (bcells_get (by rw [hpp]; omega))) hS ?_)
              refine wl_op rfl rfl (ow_vr (vr_pick (b := false) rfl rfl) ?_)
              refine wl_nil ?_
              refine hK28 _ _ ?_
              refine cw_cond_f rfl rfl (by rw [hpp, decide_eq_false_iff_not]; omega) ?_
              refine cw_skip ?_
              refine hK27 _ _ ?_
              refine cw_region ?_
              refine wl_op rfl rfl (ow_vr (vr_move (v := .slice _ _ _) rfl) ?_)
              refine wl_op rfl rfl (ow_vr (vr_move (v := .int .i64 _) rfl) ?_)
              refine wl_op rfl rfl (ow_vr (vr_indexAddr Try.underlying31 sz_4 rfl rfl (by omega) (by omega)) ?_)
              refine wl_op rfl rfl (ow_store1 (v := .bool _) hS sz_4 rfl rfl rfl (by first | exact Has.here | exact Has.there (Has.here) | exact Has.there (Has.there (Has.here)) | exact Has.there (Has.there (Has.there (Has.here))) | exact Has.there (Has.there (Has.there (Has.there (Has.here)))) | exact Has.there (Has.there (Has.there (Has.there (Has.there (Has.here))))) | exact Has.there (Has.there (Has.there (Has.there (Has.there (Has.there (Has.here)))))) | exact Has.there (Has.there (Has.there (Has.there (Has.there (Has.there (Has.there (Has.here)))))))) (by rw [bcells_length]; omega) ?_)
              clear hS; intro w hS; try simp only [List.set_cons_zero, List.set_cons_succ] at hS
              rw [bcells_set (c := 2 + 6 * no + 3 * slot + k) (by omega)] at hS
              refine wl_nil ?_
              refine hK25 _ _ ?_
              rw [show 2 + 6 * no + 3 * slot + k + 1 = 2 + 6 * no + 3 * slot + (k + 1) by omega] at hS
              refine cw_region ?_
              refine wl_op rfl rfl (ow_vr (vr_move (v := .int .i64 _) rfl) ?_)
              first | (refine wl_op rfl rfl (ow_vr (vr_addi rfl rfl (by unfold inI64; omega)) ?_)) | (refine wl_op rfl rfl (ow_vr (vr_add rfl rfl) ?_))
              refine wl_op rfl rfl (ow_vr (vr_assign (v := .int .i64 _) rfl) ?_)
              refine wl_nil ?_
              refine thenF_normal ⟨_, ?_, k + 1, _, (reb (reb (reb (reb (reb (reb rfl rfl) rfl) rfl) rfl) rfl) rfl), ?_, rfl, hS⟩
              · omega
              · omega
            · (try simp only [decide_eq_true_eq, decide_eq_false_iff_not, Bool.not_eq_true, Bool.not_eq_false, Bool.not_eq_true', Bool.not_eq_false', Bool.and_eq_true, Bool.or_eq_true, Bool.and_eq_false_iff, Bool.or_eq_false_iff, Int.not_lt, Int.not_le, gt_iff_lt, ge_iff_le, ne_eq, Decidable.not_not, beq_iff_eq] at hc)
              have hc4 := hc; clear hc
              refine cw_exit ?_
              refine hK21 _ _ ?_
              rw [show 2 + 6 * no + 3 * slot + k = 2 + 6 * no + 3 * (slot + 1) by omega] at hS
              refine cw_region ?_
              refine wl_op rfl rfl (ow_vr (vr_move (v := .int .i64 _) rfl) ?_)
              first | (refine wl_op rfl rfl (ow_vr (vr_addi rfl rfl (by unfold inI64; omega)) ?_)) | (refine wl_op rfl rfl (ow_vr (vr_add rfl rfl) ?_))
              refine wl_op rfl rfl (ow_vr (vr_assign (v := .int .i64 _) rfl) ?_)
              refine wl_nil ?_
              refine thenF_normal ⟨_, ?_, slot + 1, _, (reb (reb (reb (reb (reb rfl rfl) rfl) rfl) rfl) rfl), ?_, rfl, hS⟩
              · omega
              · omega
          · (try simp only [decide_eq_true_eq, decide_eq_false_iff_not, Bool.not_eq_true, Bool.not_eq_false, Bool.not_eq_true', Bool.not_eq_false', Bool.and_eq_true, Bool.or_eq_true, Bool.and_eq_false_iff, Bool.or_eq_false_iff, Int.not_lt, Int.not_le, gt_iff_lt, ge_iff_le, ne_eq, Decidable.not_not, beq_iff_eq] at hc)
            have hc3 := hc; clear hc
            refine cw_exit ?_
            refine hK17 _ _ ?_
            rw [show 2 + 6 * no + 3 * slot = 2 + 6 * (no + 1) by omega] at hS
            refine cw_region ?_
            refine wl_op rfl rfl (ow_vr (vr_move (v := .int .i64 _) rfl) ?_)
            first | (refine wl_op rfl rfl (ow_vr (vr_addi rfl rfl (by unfold inI64; omega)) ?_)) | (refine wl_op rfl rfl (ow_vr (vr_add rfl rfl) ?_))
            refine wl_op rfl rfl (ow_vr (vr_assign (v := .int .i64 _) rfl) ?_)
            refine wl_nil ?_
            refine thenF_normal ⟨_, ?_, no + 1, _, (reb (reb (reb (reb rfl rfl) rfl) rfl) rfl), ?_, rfl, hS⟩
            · omega
            · omega
        · (try simp only [decide_eq_true_eq, decide_eq_false_iff_not, Bool.not_eq_true, Bool.not_eq_false, Bool.not_eq_true', Bool.not_eq_false', Bool.and_eq_true, Bool.or_eq_true, Bool.and_eq_false_iff, Bool.or_eq_false_iff, Int.not_lt, Int.not_le, gt_iff_lt, ge_iff_le, ne_eq, Decidable.not_not, beq_iff_eq] at hc)
          have hc2 := hc; clear hc
          refine cw_exit ?_
          refine hK13 _ _ ?_
          refine cw_seq fun K29 hK29 => ?_
          refine cw_seq fun K30 hK30 => ?_
          rw [show 2 + 6 * no = 2 + 6 * pagesI h l + 0 by omega] at hS
          refine cw_region ?_
          refine wl_op rfl rfl (ow_vr (vr_assign rfl) ?_)
          refine wl_nil ?_
          refine hK30 _ _ ?_
          refine cw_block ?_
          refine cw_loop (fun m f w => ∃ (k : Int) (g : Nat → Value), f = (upd (upd (upd (upd g 1 (.pointer (some ⟨b1, 0, none⟩))) 3 (.int .i64 N)) 4 (.slice (some ⟨b25, 0, none⟩) N N)) 10 (.int .i64 k)) ∧ (0 ≤ k ∧ k ≤ l) ∧ m = (l - k).toNat ∧ Sat E ([(b25, .cells (bcells N (2 + 6 * pagesI h l + k)).toArray 4 (0, 0))] :: [(b1, .cells #[.int .i64 h, .int .i64 l] 23 (0, 0))] :: F) w) ⟨0, _, (reb (reb (reb (reb rfl rfl) rfl) rfl) rfl), ?_, rfl, hS⟩ ?_
          · omega
          clear hS; rintro m f w ⟨k, g, rfl, hI4, rfl, hS⟩
          refine cw_seq fun K31 hK31 => ?_
          refine cw_seq fun K32 hK32 => ?_
          refine cw_region ?_
          refine wl_op rfl rfl (ow_vr (vr_move (v := .int .i64 _) rfl) ?_)
          refine wl_op rfl rfl (ow_vr (vr_fieldAddr fo_23_1 rfl) ?_)
          refine wl_op rfl rfl (ow_lr (S := Sat _ _) (lr_load1 Try.underlying3 rfl rfl (by first | exact Has.here | exact Has.there (Has.here) | exact Has.there (Has.there (Has.here)) | exact Has.there (Has.there (Has.there (Has.here))) | exact Has.there (Has.there (Has.there (Has.there (Has.here)))) | exact Has.there (Has.there (Has.there (Has.there (Has.there (Has.here))))) | exact Has.there (Has.there (Has.there (Has.there (Has.there (Has.there (Has.here)))))) | exact Has.there (Has.there (Has.there (Has.there (Has.there (Has.there (Has.there (Has.here)))))))) rfl) hS ?_)
          refine wl_op rfl rfl (ow_vr (vr_lss rfl rfl) ?_)
          refine wl_nil ?_
          refine hK32 _ _ ?_
          refine cw_cond rfl rfl (fun hc => ?_) (fun hc => ?_)
          · (try simp only [decide_eq_true_eq, decide_eq_false_iff_not, Bool.not_eq_true, Bool.not_eq_false, Bool.not_eq_true', Bool.not_eq_false', Bool.and_eq_true, Bool.or_eq_true, Bool.and_eq_false_iff, Bool.or_eq_false_iff, Int.not_lt, Int.not_le, gt_iff_lt, ge_iff_le, ne_eq, Decidable.not_not, beq_iff_eq] at hc)
            have hc6 := hc; clear hc
            refine cw_skip ?_
            refine hK31 _ _ ?_
            refine cw_seq fun K33 hK33 => ?_
            refine cw_block ?_
            refine cw_seq fun K34 hK34 => ?_
            refine cw_region ?_
            refine wl_op rfl rfl (ow_lr (S := Sat _ _) (lr_loadA Try.underlying23 rfl sz_23 rfl (by first | exact Has.here | exact Has.there (Has.here) | exact Has.there (Has.there (Has.here)) | exact Has.there (Has.there (Has.there (Has.here))) | exact Has.there (Has.there (Has.there (Has.there (Has.here)))) | exact Has.there (Has.there (Has.there (Has.there (Has.there (Has.here))))) | exact Has.there (Has.there (Has.there (Has.there (Has.there (Has.there (Has.here)))))) | exact Has.there (Has.there (Has.there (Has.there (Has.there (Has.there (Has.there (Has.here)))))))) rfl rfl) hS ?_)
            refine wl_op rfl rfl (ow_fn (vs := [.agg _]) en_21 rfl hS (geo_LogAt h l) ?_)
            clear hS; rintro _ _ w ⟨rfl, rfl⟩ hS; (try simp only [List.cons_append, List.nil_append] at hS)
            refine wl_op rfl rfl (ow_vr (vr_move (v := .int .i64 _) rfl) ?_)
            first | (refine wl_op rfl rfl (ow_vr (vr_addi rfl rfl (by unfold inI64; omega)) ?_)) | (refine wl_op rfl rfl (ow_vr (vr_add rfl rfl) ?_))
            refine wl_op rfl rfl (ow_vr (vr_assign (v := .int .i64 _) rfl) ?_)
            refine wl_nil ?_
            refine hK34 _ _ ?_
            refine cw_seq fun K35 hK35 => ?_
            refine cw_seq fun K36 hK36 => ?_
            refine cw_region ?_
            refine wl_op rfl rfl (ow_vr (vr_move (v := .int .i64 _) rfl) ?_)
            refine wl_op rfl rfl (ow_vr (vr_lss rfl rfl) ?_)
            refine wl_op rfl rfl (ow_vr (vr_move (v := .bool _) rfl) ?_)
            refine wl_known 81 rfl (c := false) (by rw [decide_eq_false_iff_not]; omega) ?_
            refine wl_yes rfl rfl rfl rfl rfl (ow_vr (vr_move (v := .int .i64 _) rfl) ?_)
            refine wl_yes rfl rfl rfl rfl rfl (ow_vr (vr_move (v := .int .i64 _) rfl) ?_)
            refine wl_yes rfl rfl rfl rfl rfl (ow_vr (vr_geq rfl rfl) ?_)
            refine wl_op rfl rfl (ow_vr (vr_pick (b := false) rfl rfl) ?_)
            refine wl_op rfl rfl (ow_vr (vr_move (v := .bool _) rfl) ?_)
            refine wl_known 86 rfl (c := false) (by rw [decide_eq_false_iff_not]; omega) ?_
            refine wl_yes rfl rfl rfl rfl rfl (ow_vr (vr_move (v := .slice _ _ _) rfl) ?_)
            refine wl_yes rfl rfl rfl rfl rfl (ow_vr (vr_move (v := .int .i64 _) rfl) ?_)
            refine wl_yes rfl rfl rfl rfl rfl (ow_vr (vr_indexAddr Try.underlying31 sz_4 rfl rfl (by omega) (by omega)) ?_)
            refine wl_yes rfl rfl rfl rfl rfl (ow_lr (S := Sat _ _) (lr_load1 (v := .bool _) Try.underlying4 rfl rfl (by first | exact Has.here | exact Has.there (Has.here) | exact Has.there (Has.there (Has.here)) | exact Has.there (Has.there (Has.there (Has.here))) | exact Has.there (Has.there (Has.there (Has.there (Has.here)))) | exact Has.there (Has.there (Has.there (Has.there (Has.there (Has.here))))) | exact Has.there (Has.there (Has.there (Has.there (Has.there (Has.there (Has.here)))))) | exact Has.there (Has.there (Has.there (Has.there (Has.there (Has.there (Has.there (Has.here)))))))) (bcells_get (by omega))) hS ?_)
            refine wl_op rfl rfl (ow_vr (vr_pick (b := false) rfl rfl) ?_)
            refine wl_nil ?_
            refine hK36 _ _ ?_
            refine cw_cond_f rfl rfl (by rw [decide_eq_false_iff_not]; omega) ?_
            refine cw_skip ?_
            refine hK35 _ _ ?_
            refine cw_region ?_
            refine wl_op rfl rfl (ow_vr (vr_move (v := .slice _ _ _) rfl) ?_)
            refine wl_op rfl rfl (ow_vr (vr_move (v := .int .i64 _) rfl) ?_)
            refine wl_op rfl rfl (ow_vr (vr_indexAddr Try.underlying31 sz_4 rfl rfl (by omega) (by omega)) ?_)
            refine wl_op rfl rfl (ow_store1 (v := .bool _) hS sz_4 rfl rfl rfl (by first | exact Has.here | exact Has.there (Has.here) | exact Has.there (Has.there (Has.here)) | exact Has.there (Has.there (Has.there (Has.here))) | exact Has.there (Has.there (Has.there (Has.there (Has.here)))) | exact Has.there (Has.there (Has.there (Has.there (Has.there (Has.here))))) | exact Has.there (Has.there (Has.there (Has.there (Has.there (Has.there (Has.here)))))) | exact Has.there (Has.there (Has.there (Has.there (Has.there (Has.there (Has.there (Has.here)))))))) (by rw [bcells_length]; omega) ?_)
            clear hS; intro w hS; try simp only [List.set_cons_zero, List.set_cons_succ] at hS
            rw [bcells_set (c := 2 + 6 * pagesI h l + k) (by omega)] at hS
            refine wl_nil ?_
            refine hK33 _ _ ?_
            rw [show 2 + 6 * pagesI h l + k + 1 = 2 + 6 * pagesI h l + (k + 1) by omega] at hS
            refine cw_region ?_
            refine wl_op rfl rfl (ow_vr (vr_move (v := .int .i64 _) rfl) ?_)
            first | (refine wl_op rfl rfl (ow_vr (vr_addi rfl rfl (by unfold inI64; omega)) ?_)) | (refine wl_op rfl rfl (ow_vr (vr_add rfl rfl) ?_))
            refine wl_op rfl rfl (ow_vr (vr_assign (v := .int .i64 _) rfl) ?_)
            refine wl_nil ?_
            refine thenF_normal ⟨_, ?_, k + 1, _, (reb (reb (reb (reb rfl rfl) rfl) rfl) rfl), ?_, rfl, hS⟩
            · omega
            · omega
          · (try simp only [decide_eq_true_eq, decide_eq_false_iff_not, Bool.not_eq_true, Bool.not_eq_false, Bool.not_eq_true', Bool.not_eq_false', Bool.and_eq_true, Bool.or_eq_true, Bool.and_eq_false_iff, Bool.or_eq_false_iff, Int.not_lt, Int.not_le, gt_iff_lt, ge_iff_le, ne_eq, Decidable.not_not, beq_iff_eq] at hc)
            have hc6 := hc; clear hc
            refine cw_exit ?_
            refine hK29 _ _ ?_
            refine cw_seq fun K37 hK37 => ?_
            refine cw_seq fun K38 hK38 => ?_
            rw [show 2 + 6 * pagesI h l + k = N by omega] at hS
            refine cw_region ?_
            refine wl_op rfl rfl (ow_vr (vr_assign rfl) ?_)
            refine wl_nil ?_
            refine hK38 _ _ ?_
            refine cw_block ?_
            refine cw_loop (fun m f w => ∃ (k : Int) (g : Nat → Value), f = (upd (upd (upd (upd g 1 (.pointer (some ⟨b1, 0, none⟩))) 3 (.int .i64 N)) 4 (.slice (some ⟨b25, 0, none⟩) N N)) 12 (.int .i64 k)) ∧ (0 ≤ k ∧ k ≤ N) ∧ m = (N - k).toNat ∧ Sat E ([(b25, .cells (bcells N (N)).toArray 4 (0, 0))] :: [(b1, .cells #[.int .i64 h, .int .i64 l] 23 (0, 0))] :: F) w) ⟨0, _, (reb (reb (reb (reb rfl rfl) rfl) rfl) rfl), ?_, rfl, hS⟩ ?_
            · omega
            clear hS; rintro m f w ⟨k, g, rfl, hI5, rfl, hS⟩
            refine cw_seq fun K39 hK39 => ?_
            refine cw_seq fun K40 hK40 => ?_
            refine cw_region ?_
            refine wl_op rfl rfl (ow_vr (vr_move (v := .int .i64 _) rfl) ?_)
            refine wl_op rfl rfl (ow_vr (vr_move (v := .int .i64 _) rfl) ?_)
            refine wl_op rfl rfl (ow_vr (vr_lss rfl rfl) ?_)
            refine wl_nil ?_
            refine hK40 _ _ ?_
            refine cw_cond rfl rfl (fun hc => ?_) (fun hc => ?_)
            · (try simp only [decide_eq_true_eq, decide_eq_false_iff_not, Bool.not_eq_true, Bool.not_eq_false, Bool.not_eq_true', Bool.not_eq_false', Bool.and_eq_true, Bool.or_eq_true, Bool.and_eq_false_iff, Bool.or_eq_false_iff, Int.not_lt, Int.not_le, gt_iff_lt, ge_iff_le, ne_eq, Decidable.not_not, beq_iff_eq] at hc)
              have hc8 := hc; clear hc
              refine cw_skip ?_
              refine hK39 _ _ ?_
              refine cw_seq fun K41 hK41 => ?_
              refine cw_block ?_
              refine cw_seq fun K42 hK42 => ?_
              refine cw_region ?_
              refine wl_op rfl rfl (ow_vr (vr_move (v := .slice _ _ _) rfl) ?_)
              refine wl_op rfl rfl (ow_vr (vr_move (v := .int .i64 _) rfl) ?_)
              refine wl_op rfl rfl (ow_vr (vr_indexAddr Try.underlying31 sz_4 rfl rfl (by omega) (by omega)) ?_)
              refine wl_op rfl rfl (ow_lr (S := Sat _ _) (lr_load1 (v := .bool _) Try.underlying4 rfl rfl (by first | exact Has.here | exact Has.there (Has.here) | exact Has.there (Has.there (Has.here)) | exact Has.there (Has.there (Has.there (Has.here))) | exact Has.there (Has.there (Has.there (Has.there (Has.here)))) | exact Has.there (Has.there (Has.there (Has.there (Has.there (Has.here))))) | exact Has.there (Has.there (Has.there (Has.there (Has.there (Has.there (Has.here)))))) | exact Has.there (Has.there (Has.there (Has.there (Has.there (Has.there (Has.there (Has.here)))))))) (bcells_get (by omega))) hS ?_)
              refine wl_op rfl rfl (ow_vr (vr_not rfl) ?_)
              refine wl_nil ?_
              refine hK42 _ _ ?_
              refine cw_cond_f rfl rfl (by simp; omega) ?_
              refine cw_skip ?_
              refine hK41 _ _ ?_
              refine cw_region ?_
              refine wl_op rfl rfl (ow_vr (vr_move (v := .int .i64 _) rfl) ?_)
              first | (refine wl_op rfl rfl (ow_vr (vr_addi rfl rfl (by unfold inI64; omega)) ?_)) | (refine wl_op rfl rfl (ow_vr (vr_add rfl rfl) ?_))
              refine wl_op rfl rfl (ow_vr (vr_assign (v := .int .i64 _) rfl) ?_)
              refine wl_nil ?_
              refine thenF_normal ⟨_, ?_, k + 1, _, (reb (reb (reb (reb rfl rfl) rfl) rfl) rfl), ?_, rfl, hS⟩
              · omega
              · omega
            · (try simp only [decide_eq_true_eq, decide_eq_false_iff_not, Bool.not_eq_true, Bool.not_eq_false, Bool.not_eq_true', Bool.not_eq_false', Bool.and_eq_true, Bool.or_eq_true, Bool.and_eq_false_iff, Bool.or_eq_false_iff, Int.not_lt, Int.not_le, gt_iff_lt, ge_iff_le, ne_eq, Decidable.not_not, beq_iff_eq] at hc)
              have hc8 := hc; clear hc
              refine cw_exit ?_
              refine hK37 _ _ ?_
              refine cw_seq fun K43 hK43 => ?_
              refine cw_seq fun K44 hK44 => ?_
              refine cw_region ?_
              refine wl_op rfl rfl (ow_vr (vr_assign rfl) ?_)
              refine wl_nil ?_
              refine hK44 _ _ ?_
              refine cw_block ?_
              refine cw_loop (fun m f w => ∃ (c : Int) (g : Nat → Value), f = (upd (upd (upd (upd g 1 (.pointer (some ⟨b1, 0, none⟩))) 3 (.int .i64 N)) 4 (.slice (some ⟨b25, 0, none⟩) N N)) 13 (.int .i64 c)) ∧ (0 ≤ c ∧ c ≤ cellsI h l) ∧ m = (cellsI h l - c).toNat ∧ Sat E ([(b25, .cells (bcells N (N)).toArray 4 (0, 0))] :: [(b1, .cells #[.int .i64 h, .int .i64 l] 23 (0, 0))] :: F) w) ⟨0, _, (reb (reb (reb (reb rfl rfl) rfl) rfl) rfl), ?_, rfl, hS⟩ ?_
              · omega
              clear hS; rintro m f w ⟨c, g, rfl, hI6, rfl, hS⟩
              refine cw_seq fun K45 hK45 => ?_
              refine cw_seq fun K46 hK46 => ?_
              refine cw_region ?_
              refine wl_op rfl rfl (ow_vr (vr_move (v := .int .i64 _) rfl) ?_)
              refine wl_op rfl rfl (ow_lr (S := Sat _ _) (lr_loadA Try.underlying23 rfl sz_23 rfl (by first | exact Has.here | exact Has.there (Has.here) | exact Has.there (Has.there (Has.here)) | exact Has.there (Has.there (Has.there (Has.here))) | exact Has.there (Has.there (Has.there (Has.there (Has.here)))) | exact Has.there (Has.there (Has.there (Has.there (Has.there (Has.here))))) | exact Has.there (Has.there (Has.there (Has.there (Has.there (Has.there (Has.here)))))) | exact Has.there (Has.there (Has.there (Has.there (Has.there (Has.there (Has.there (Has.here)))))))) rfl rfl) hS ?_)
              refine wl_op rfl rfl (ow_fn (vs := [.agg _]) en_20 rfl hS (geo_Cells h l) ?_)
              clear hS; rintro _ _ w ⟨rfl, rfl⟩ hS; (try simp only [List.cons_append, List.nil_append] at hS)
              refine wl_op rfl rfl (ow_vr (vr_lss rfl rfl) ?_)
              refine wl_nil ?_
              refine hK46 _ _ ?_
              refine cw_cond rfl rfl (fun hc => ?_) (fun hc => ?_)
              · (try simp only [decide_eq_true_eq, decide_eq_false_iff_not, Bool.not_eq_true, Bool.not_eq_false, Bool.not_eq_true', Bool.not_eq_false', Bool.and_eq_true, Bool.or_eq_true, Bool.and_eq_false_iff, Bool.or_eq_false_iff, Int.not_lt, Int.not_le, gt_iff_lt, ge_iff_le, ne_eq, Decidable.not_not, beq_iff_eq] at hc)
                have hc10 := hc; clear hc
                refine cw_skip ?_
                refine hK45 _ _ ?_
                refine cw_seq fun K47 hK47 => ?_
                refine cw_block ?_
                refine cw_seq fun K48 hK48 => ?_
                refine cw_draw_sat hS [(0, 1), (1, 0), (3, 1), (4, 0), (7, 0), (8, 0), (2, 2), (5, 2), (6, 0), (9, 0)] mixed (planFast_ok (by kernel_rfl)) (by rintro _ _ _ ⟨⟩) ?_
                clear hS; intro w hS
                refine pl_load rfl (yes_none rfl) (lr_loadA Try.underlying23 rfl sz_23 rfl (by first | exact Has.here | exact Has.there (Has.here) | exact Has.there (Has.there (Has.here)) | exact Has.there (Has.there (Has.there (Has.here))) | exact Has.there (Has.there (Has.there (Has.there (Has.here)))) | exact Has.there (Has.there (Has.there (Has.there (Has.there (Has.here))))) | exact Has.there (Has.there (Has.there (Has.there (Has.there (Has.there (Has.here)))))) | exact Has.there (Has.there (Has.there (Has.there (Has.there (Has.there (Has.there (Has.here)))))))) rfl rfl) ?_
                refine pl_take rfl (yes_none rfl) (vr_move (v := .int .i64 _) rfl) ?_
                refine pl_load rfl (yes_none rfl) (lr_loadA Try.underlying23 rfl sz_23 rfl (by first | exact Has.here | exact Has.there (Has.here) | exact Has.there (Has.there (Has.here)) | exact Has.there (Has.there (Has.there (Has.here))) | exact Has.there (Has.there (Has.there (Has.there (Has.here)))) | exact Has.there (Has.there (Has.there (Has.there (Has.there (Has.here))))) | exact Has.there (Has.there (Has.there (Has.there (Has.there (Has.there (Has.here)))))) | exact Has.there (Has.there (Has.there (Has.there (Has.there (Has.there (Has.there (Has.here)))))))) rfl rfl) ?_
                refine pl_take rfl (yes_none rfl) (vr_move (v := .int .i64 _) rfl) ?_
                refine pl_take rfl (yes_none rfl) (vr_move (v := .int .i64 _) rfl) ?_
                refine pl_take rfl (yes_none rfl) (vr_geq rfl rfl) ?_
                refine pl_act rfl (yes_none rfl) (ow_fn (vs := [.agg _, .int .i64 _, .int .i64 _]) en_25 rfl hS (geo_In h l 0 c) ?_)
                clear hS; rintro _ _ w ⟨rfl, rfl⟩ hS; (try simp only [List.cons_append, List.nil_append] at hS)
                refine ⟨by first | exact hS | exact hS.tail1 | exact hS.tail1.tail1, ?_⟩
                refine pl_act rfl (yes_none rfl) (ow_fn (vs := [.agg _, .int .i64 _, .int .i64 _]) en_25 rfl hS (geo_In h l 1 c) ?_)
                clear hS; rintro _ _ w ⟨rfl, rfl⟩ hS; (try simp only [List.cons_append, List.nil_append] at hS)
                refine ⟨by first | exact hS | exact hS.tail1 | exact hS.tail1.tail1, ?_⟩
                refine pl_take rfl (yes_none rfl) (vr_neqb Try.underlying4 rfl rfl) ?_
                refine pl_take rfl (yes_none rfl) (vr_neqb Try.underlying4 rfl rfl) ?_
                refine pl_nil ?_
                refine hK48 _ _ ?_
                have e : cellsI h l = 16 + 2 * h := by simp [cellsI, hg17]
                have e0 : inG h l 0 c = (decide (16 ≤ c) && decide (c < 16 + h)) := by simp [inG, baseI, endI, hg17]
                have e1 : inG h l 1 c = (decide (16 + h ≤ c) && decide (c < 16 + h + h)) := by simp [inG, baseI, endI, hg17]
                have e2 : 16 ≤ c → c < 16 + h ∨ 16 + h ≤ c := by omega
                have e3 : ((inG h l 0 c != inG h l 1 c) != decide (c ≥ 16)) = false := by rw [e0, e1]; by_cases h1 : 16 ≤ c <;> by_cases h2 : c < 16 + h <;> by_cases h3 : 16 + h ≤ c <;> by_cases h4 : c < 16 + h + h <;> simp [h1, h2, h3, h4] <;> omega
                refine cw_cond_f rfl rfl (e3) ?_
                refine cw_skip ?_
                refine hK47 _ _ ?_
                refine cw_region ?_
                refine wl_op rfl rfl (ow_vr (vr_move (v := .int .i64 _) rfl) ?_)
                first | (refine wl_op rfl rfl (ow_vr (vr_addi rfl rfl (by unfold inI64; omega)) ?_)) | (refine wl_op rfl rfl (ow_vr (vr_add rfl rfl) ?_))
                refine wl_op rfl rfl (ow_vr (vr_assign (v := .int .i64 _) rfl) ?_)
                refine wl_nil ?_
                refine thenF_normal ⟨_, ?_, c + 1, _, (reb (reb (reb (reb rfl rfl) rfl) rfl) rfl), ?_, rfl, hS⟩
                · omega
                · omega
              · (try simp only [decide_eq_true_eq, decide_eq_false_iff_not, Bool.not_eq_true, Bool.not_eq_false, Bool.not_eq_true', Bool.not_eq_false', Bool.and_eq_true, Bool.or_eq_true, Bool.and_eq_false_iff, Bool.or_eq_false_iff, Int.not_lt, Int.not_le, gt_iff_lt, ge_iff_le, ne_eq, Decidable.not_not, beq_iff_eq] at hc)
                have hc10 := hc; clear hc
                refine cw_exit ?_
                refine hK43 _ _ ?_
                refine cw_seq fun K49 hK49 => ?_
                refine cw_draw_sat hS [(0, 1), (3, 1), (1, 2), (2, 0), (4, 2), (5, 0), (6, 0)] mixed (planFast_ok (by kernel_rfl)) (by rintro _ _ _ ⟨⟩) ?_
                clear hS; intro w hS
                refine pl_load rfl (yes_none rfl) (lr_loadA Try.underlying23 rfl sz_23 rfl (by first | exact Has.here | exact Has.there (Has.here) | exact Has.there (Has.there (Has.here)) | exact Has.there (Has.there (Has.there (Has.here))) | exact Has.there (Has.there (Has.there (Has.there (Has.here)))) | exact Has.there (Has.there (Has.there (Has.there (Has.there (Has.here))))) | exact Has.there (Has.there (Has.there (Has.there (Has.there (Has.there (Has.here)))))) | exact Has.there (Has.there (Has.there (Has.there (Has.there (Has.there (Has.there (Has.here)))))))) rfl rfl) ?_
                refine pl_load rfl (yes_none rfl) (lr_loadA Try.underlying23 rfl sz_23 rfl (by first | exact Has.here | exact Has.there (Has.here) | exact Has.there (Has.there (Has.here)) | exact Has.there (Has.there (Has.there (Has.here))) | exact Has.there (Has.there (Has.there (Has.there (Has.here)))) | exact Has.there (Has.there (Has.there (Has.there (Has.there (Has.here))))) | exact Has.there (Has.there (Has.there (Has.there (Has.there (Has.there (Has.here)))))) | exact Has.there (Has.there (Has.there (Has.there (Has.there (Has.there (Has.there (Has.here)))))))) rfl rfl) ?_
                refine pl_act rfl (yes_none rfl) (ow_fn (vs := [.agg _]) en_18 rfl hS (geo_Pages h l) ?_)
                clear hS; rintro _ _ w ⟨rfl, rfl⟩ hS; (try simp only [List.cons_append, List.nil_append] at hS)
                refine ⟨by first | exact hS | exact hS.tail1 | exact hS.tail1.tail1, ?_⟩
                first | (refine pl_take rfl (yes_none rfl) (vr_muli rfl rfl (by unfold inI64; omega)) ?_) | (refine pl_take rfl (yes_none rfl) (vr_mul rfl rfl) ?_)
                refine pl_act rfl (yes_none rfl) (ow_fn (vs := [.agg _]) en_20 rfl hS (geo_Cells h l) ?_)
                clear hS; rintro _ _ w ⟨rfl, rfl⟩ hS; (try simp only [List.cons_append, List.nil_append] at hS)
                refine ⟨by first | exact hS | exact hS.tail1 | exact hS.tail1.tail1, ?_⟩
                refine pl_take rfl (yes_none rfl) (vr_geq rfl rfl) ?_
                refine pl_take rfl (yes_none rfl) (vr_assign (v := .bool _) rfl) ?_
                refine pl_nil ?_
                refine hK49 _ _ ?_
                refine cw_ret ?_
                refine ret_one (fn := Try.f5) (n := 127) (t := 2) (.inl rfl) rfl rfl ?_
                exact ⟨congrArg Value.bool (by first | rfl | (unfold pagesI; simp [hg17]; omega)), by first | exact hS.tail1 | exact hS.tail1.tail1⟩
end Go.Proofs.Ytfekgjdahckdhaa
