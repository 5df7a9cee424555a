/- EntryTwo. -/
import Derived.Test.YtjhbmogpicddeaaEntrySec
import Derived.Test.YtjhbmogpicddeaaAlive6
import Derived.Test.YtjhbmogpicddeaaConv
namespace Go.Proofs.Ytjhbmogpicddeaa
open Go Go.RowKit
set_option linter.unusedVariables false
set_option linter.unusedSimpArgs false
attribute [local irreducible] actF WL CW OW PL SW VR LR yes Returns Fn
theorem entry_two (s t : Entr) (at_ : Int) (by_ : UInt8) (ha : inI64 at_) : FnV Try.prog 6 [entV s, entV t, .int .i64 at_, .int .u8 (by_.toNat : Int)] (.bool true) := by
  cases hr : rightE s with
  | false =>
    refine FnV.mk fun E F w hS => ?_
    have hput2 := entry_Put t
    generalize (if rightE t then laidB t else []) = b at hput2
    generalize rightE t = ob at hput2
    refine returns_enter Try.func6 rfl Try.ntmps6 rfl ?_
    refine cw_seq fun K1 hK1 => ?_
    refine cw_region ?_
    refine wl_op rfl rfl (ow_box (cs := [_, _, _, _, _]) hS rfl rfl ?_)
    clear hS; intro b4 w hS
    refine wl_op rfl rfl (ow_box (cs := [_, _, _, _, _]) hS rfl rfl ?_)
    clear hS; intro b5 w hS
    refine wl_op rfl rfl (ow_vr (vr_assign (v := .bool false) rfl) ?_)
    refine wl_nil ?_
    refine hK1 _ _ ?_
    refine cw_seq fun K2 hK2 => ?_
    refine cw_region ?_
    first | (refine wl_op rfl rfl (ow_lr (S := Sat _ _) (lr_loadA (vs := [.int .i64 _, .int .i64 _, .int .i64 _, .int .i64 _, .int .i64 _]) Try.underlying38 rfl sz_38 rfl (by first | exact Has.here | exact Has.there (Has.here) | exact Has.there (Has.there (Has.here)) | exact Has.there (Has.there (Has.there (Has.here))) | exact Has.there (Has.there (Has.there (Has.there (Has.here)))) | exact Has.there (Has.there (Has.there (Has.there (Has.there (Has.here))))) | exact Has.there (Has.there (Has.there (Has.there (Has.there (Has.there (Has.here)))))) | exact Has.there (Has.there (Has.there (Has.there (Has.there (Has.there (Has.there (Has.here)))))))) rfl rfl) hS ?_)) | (refine wl_op rfl rfl (ow_lr (S := Sat _ _) (lr_loadA (vs := [_, _, _, _, _]) Try.underlying38 rfl sz_38 rfl (by first | exact Has.here | exact Has.there (Has.here) | exact Has.there (Has.there (Has.here)) | exact Has.there (Has.there (Has.there (Has.here))) | exact Has.there (Has.there (Has.there (Has.there (Has.here)))) | exact Has.there (Has.there (Has.there (Has.there (Has.there (Has.here))))) | exact Has.there (Has.there (Has.there (Has.there (Has.there (Has.there (Has.here)))))) | exact Has.there (Has.there (Has.there (Has.there (Has.there (Has.there (Has.there (Has.here)))))))) rfl rfl) hS ?_))
    refine wl_op rfl rfl (ow_fn (vs := [.agg _]) en_23 rfl hS (entry_PutF hr) ?_)
    clear hS; rintro _ _ w ⟨rfl, rfl⟩ hS; (try simp only [List.cons_append, List.nil_append] at hS)
    refine wl_op rfl rfl (ow_vr (vr_move (v := .tuple _) rfl) ?_)
    refine wl_op rfl rfl (ow_vr (vr_extract (v := str _) rfl rfl) ?_)
    refine wl_op rfl rfl (ow_vr (vr_extract (v := .bool _) rfl rfl) ?_)
    refine wl_op rfl rfl (ow_vr (vr_assign (v := str _) rfl) ?_)
    refine wl_op rfl rfl (ow_vr (vr_assign (v := .bool _) rfl) ?_)
    refine wl_nil ?_
    refine hK2 _ _ ?_
    refine cw_seq fun K3 hK3 => ?_
    refine cw_region ?_
    first | (refine wl_op rfl rfl (ow_lr (S := Sat _ _) (lr_loadA (vs := [.int .i64 _, .int .i64 _, .int .i64 _, .int .i64 _, .int .i64 _]) Try.underlying38 rfl sz_38 rfl (by first | exact Has.here | exact Has.there (Has.here) | exact Has.there (Has.there (Has.here)) | exact Has.there (Has.there (Has.there (Has.here))) | exact Has.there (Has.there (Has.there (Has.there (Has.here)))) | exact Has.there (Has.there (Has.there (Has.there (Has.there (Has.here))))) | exact Has.there (Has.there (Has.there (Has.there (Has.there (Has.there (Has.here)))))) | exact Has.there (Has.there (Has.there (Has.there (Has.there (Has.there (Has.there (Has.here)))))))) rfl rfl) hS ?_)) | (refine wl_op rfl rfl (ow_lr (S := Sat _ _) (lr_loadA (vs := [_, _, _, _, _]) Try.underlying38 rfl sz_38 rfl (by first | exact Has.here | exact Has.there (Has.here) | exact Has.there (Has.there (Has.here)) | exact Has.there (Has.there (Has.there (Has.here))) | exact Has.there (Has.there (Has.there (Has.there (Has.here)))) | exact Has.there (Has.there (Has.there (Has.there (Has.there (Has.here))))) | exact Has.there (Has.there (Has.there (Has.there (Has.there (Has.there (Has.here)))))) | exact Has.there (Has.there (Has.there (Has.there (Has.there (Has.there (Has.there (Has.here)))))))) rfl rfl) hS ?_))
    refine wl_op rfl rfl (ow_fn (vs := [.agg _]) en_23 rfl hS (hput2) ?_)
    clear hS; rintro _ _ w ⟨rfl, rfl⟩ hS; (try simp only [List.cons_append, List.nil_append] at hS)
    refine wl_op rfl rfl (ow_vr (vr_move (v := .tuple _) rfl) ?_)
    refine wl_op rfl rfl (ow_vr (vr_extract (v := str _) rfl rfl) ?_)
    refine wl_op rfl rfl (ow_vr (vr_extract (v := .bool _) rfl rfl) ?_)
    refine wl_op rfl rfl (ow_vr (vr_assign (v := str _) rfl) ?_)
    refine wl_op rfl rfl (ow_vr (vr_assign (v := .bool _) rfl) ?_)
    refine wl_nil ?_
    refine hK3 _ _ ?_
    refine cw_seq fun K4 hK4 => ?_
    refine cw_seq fun K5 hK5 => ?_
    refine cw_region ?_
    refine wl_op rfl rfl (ow_vr (vr_move (v := .bool _) rfl) ?_)
    refine wl_op rfl rfl (ow_vr (vr_not rfl) ?_)
    refine wl_op rfl rfl (ow_vr (vr_move (v := .bool _) rfl) ?_)
    refine wl_known 29 rfl (c := true) (rfl) ?_
    refine wl_noD rfl rfl rfl rfl rfl rfl ?_
    refine wl_noD rfl rfl rfl rfl rfl rfl ?_
    refine wl_op rfl rfl (ow_vr (vr_pick (b := true) (v := .bool _) rfl rfl) ?_)
    refine wl_op rfl rfl (ow_vr (vr_move (v := .bool _) rfl) ?_)
    refine wl_noD rfl rfl rfl rfl rfl rfl ?_
    refine wl_noD rfl rfl rfl rfl rfl rfl ?_
    refine wl_op rfl rfl (ow_vr (vr_pick (b := true) (v := .bool _) rfl rfl) ?_)
    refine wl_op rfl rfl (ow_vr (vr_move (v := .bool _) rfl) ?_)
    refine wl_noD rfl rfl rfl rfl rfl rfl ?_
    refine wl_noD rfl rfl rfl rfl rfl rfl ?_
    refine wl_op rfl rfl (ow_vr (vr_pick (b := true) (v := .bool _) rfl rfl) ?_)
    refine wl_nil ?_
    refine hK5 _ _ ?_
    refine cw_cond_t rfl rfl (rfl) ?_
    refine cw_seq fun K6 hK6 => ?_
    refine cw_region ?_
    refine wl_op rfl rfl (ow_fn (vs := []) en_22 rfl hS (alive6) ?_)
    clear hS; rintro _ _ w ⟨rfl, rfl⟩ hS; (try simp only [List.cons_append, List.nil_append] at hS)
    refine wl_op rfl rfl (ow_vr (vr_assign (v := .bool _) rfl) ?_)
    refine wl_nil ?_
    refine hK6 _ _ ?_
    refine cw_ret ?_
    refine thenF_ret (?_)
    refine ret_one (fn := Try.f6) (n := 81) (t := 8) (.inl rfl) rfl rfl ?_
    exact ⟨rfl, hS.tail1.tail1⟩
  | true =>
    cases hr2 : rightE t with
    | false =>
      refine FnV.mk fun E F w hS => ?_
      refine returns_enter Try.func6 rfl Try.ntmps6 rfl ?_
      refine cw_seq fun K1 hK1 => ?_
      refine cw_region ?_
      refine wl_op rfl rfl (ow_box (cs := [_, _, _, _, _]) hS rfl rfl ?_)
      clear hS; intro b4 w hS
      refine wl_op rfl rfl (ow_box (cs := [_, _, _, _, _]) hS rfl rfl ?_)
      clear hS; intro b5 w hS
      refine wl_op rfl rfl (ow_vr (vr_assign (v := .bool false) rfl) ?_)
      refine wl_nil ?_
      refine hK1 _ _ ?_
      refine cw_seq fun K2 hK2 => ?_
      refine cw_region ?_
      first | (refine wl_op rfl rfl (ow_lr (S := Sat _ _) (lr_loadA (vs := [.int .i64 _, .int .i64 _, .int .i64 _, .int .i64 _, .int .i64 _]) Try.underlying38 rfl sz_38 rfl (by first | exact Has.here | exact Has.there (Has.here) | exact Has.there (Has.there (Has.here)) | exact Has.there (Has.there (Has.there (Has.here))) | exact Has.there (Has.there (Has.there (Has.there (Has.here)))) | exact Has.there (Has.there (Has.there (Has.there (Has.there (Has.here))))) | exact Has.there (Has.there (Has.there (Has.there (Has.there (Has.there (Has.here)))))) | exact Has.there (Has.there (Has.there (Has.there (Has.there (Has.there (Has.there (Has.here)))))))) rfl rfl) hS ?_)) | (refine wl_op rfl rfl (ow_lr (S := Sat _ _) (lr_loadA (vs := [_, _, _, _, _]) Try.underlying38 rfl sz_38 rfl (by first | exact Has.here | exact Has.there (Has.here) | exact Has.there (Has.there (Has.here)) | exact Has.there (Has.there (Has.there (Has.here))) | exact Has.there (Has.there (Has.there (Has.there (Has.here)))) | exact Has.there (Has.there (Has.there (Has.there (Has.there (Has.here))))) | exact Has.there (Has.there (Has.there (Has.there (Has.there (Has.there (Has.here)))))) | exact Has.there (Has.there (Has.there (Has.there (Has.there (Has.there (Has.there (Has.here)))))))) rfl rfl) hS ?_))
      refine wl_op rfl rfl (ow_fn (vs := [.agg _]) en_23 rfl hS (entry_PutT hr) ?_)
      clear hS; rintro _ _ w ⟨rfl, rfl⟩ hS; (try simp only [List.cons_append, List.nil_append] at hS)
      refine wl_op rfl rfl (ow_vr (vr_move (v := .tuple _) rfl) ?_)
      refine wl_op rfl rfl (ow_vr (vr_extract (v := str _) rfl rfl) ?_)
      refine wl_op rfl rfl (ow_vr (vr_extract (v := .bool _) rfl rfl) ?_)
      refine wl_op rfl rfl (ow_vr (vr_assign (v := str _) rfl) ?_)
      refine wl_op rfl rfl (ow_vr (vr_assign (v := .bool _) rfl) ?_)
      refine wl_nil ?_
      refine hK2 _ _ ?_
      refine cw_seq fun K3 hK3 => ?_
      refine cw_region ?_
      first | (refine wl_op rfl rfl (ow_lr (S := Sat _ _) (lr_loadA (vs := [.int .i64 _, .int .i64 _, .int .i64 _, .int .i64 _, .int .i64 _]) Try.underlying38 rfl sz_38 rfl (by first | exact Has.here | exact Has.there (Has.here) | exact Has.there (Has.there (Has.here)) | exact Has.there (Has.there (Has.there (Has.here))) | exact Has.there (Has.there (Has.there (Has.there (Has.here)))) | exact Has.there (Has.there (Has.there (Has.there (Has.there (Has.here))))) | exact Has.there (Has.there (Has.there (Has.there (Has.there (Has.there (Has.here)))))) | exact Has.there (Has.there (Has.there (Has.there (Has.there (Has.there (Has.there (Has.here)))))))) rfl rfl) hS ?_)) | (refine wl_op rfl rfl (ow_lr (S := Sat _ _) (lr_loadA (vs := [_, _, _, _, _]) Try.underlying38 rfl sz_38 rfl (by first | exact Has.here | exact Has.there (Has.here) | exact Has.there (Has.there (Has.here)) | exact Has.there (Has.there (Has.there (Has.here))) | exact Has.there (Has.there (Has.there (Has.there (Has.here)))) | exact Has.there (Has.there (Has.there (Has.there (Has.there (Has.here))))) | exact Has.there (Has.there (Has.there (Has.there (Has.there (Has.there (Has.here)))))) | exact Has.there (Has.there (Has.there (Has.there (Has.there (Has.there (Has.there (Has.here)))))))) rfl rfl) hS ?_))
      refine wl_op rfl rfl (ow_fn (vs := [.agg _]) en_23 rfl hS (entry_PutF hr2) ?_)
      clear hS; rintro _ _ w ⟨rfl, rfl⟩ hS; (try simp only [List.cons_append, List.nil_append] at hS)
      refine wl_op rfl rfl (ow_vr (vr_move (v := .tuple _) rfl) ?_)
      refine wl_op rfl rfl (ow_vr (vr_extract (v := str _) rfl rfl) ?_)
      refine wl_op rfl rfl (ow_vr (vr_extract (v := .bool _) rfl rfl) ?_)
      refine wl_op rfl rfl (ow_vr (vr_assign (v := str _) rfl) ?_)
      refine wl_op rfl rfl (ow_vr (vr_assign (v := .bool _) rfl) ?_)
      refine wl_nil ?_
      refine hK3 _ _ ?_
      refine cw_seq fun K4 hK4 => ?_
      refine cw_seq fun K5 hK5 => ?_
      refine cw_region ?_
      refine wl_op rfl rfl (ow_vr (vr_move (v := .bool _) rfl) ?_)
      refine wl_op rfl rfl (ow_vr (vr_not rfl) ?_)
      refine wl_op rfl rfl (ow_vr (vr_move (v := .bool _) rfl) ?_)
      refine wl_known 29 rfl (c := false) (rfl) ?_
      refine wl_yes rfl rfl rfl rfl rfl (ow_vr (vr_move (v := .bool _) rfl) ?_)
      refine wl_yes rfl rfl rfl rfl rfl (ow_vr (vr_not rfl) ?_)
      refine wl_op rfl rfl (ow_vr (vr_pick (b := false) (v := .bool _) rfl rfl) ?_)
      refine wl_op rfl rfl (ow_vr (vr_move (v := .bool _) rfl) ?_)
      refine wl_known 33 rfl (c := true) (rfl) ?_
      refine wl_noD rfl rfl rfl rfl rfl rfl ?_
      refine wl_noD rfl rfl rfl rfl rfl rfl ?_
      refine wl_op rfl rfl (ow_vr (vr_pick (b := true) (v := .bool _) rfl rfl) ?_)
      refine wl_op rfl rfl (ow_vr (vr_move (v := .bool _) rfl) ?_)
      refine wl_noD rfl rfl rfl rfl rfl rfl ?_
      refine wl_noD rfl rfl rfl rfl rfl rfl ?_
      refine wl_op rfl rfl (ow_vr (vr_pick (b := true) (v := .bool _) rfl rfl) ?_)
      refine wl_nil ?_
      refine hK5 _ _ ?_
      refine cw_cond_t rfl rfl (rfl) ?_
      refine cw_seq fun K6 hK6 => ?_
      refine cw_region ?_
      refine wl_op rfl rfl (ow_fn (vs := []) en_22 rfl hS (alive6) ?_)
      clear hS; rintro _ _ w ⟨rfl, rfl⟩ hS; (try simp only [List.cons_append, List.nil_append] at hS)
      refine wl_op rfl rfl (ow_vr (vr_assign (v := .bool _) rfl) ?_)
      refine wl_nil ?_
      refine hK6 _ _ ?_
      refine cw_ret ?_
      refine thenF_ret (?_)
      refine ret_one (fn := Try.f6) (n := 81) (t := 8) (.inl rfl) rfl rfl ?_
      exact ⟨rfl, hS.tail1.tail1⟩
    | true =>
      refine FnV.mk fun E F w hS => ?_
      have hl := laid_length hr
      have heq : (decide (laidB s = laidB t)) = (s.kind == t.kind && (s.lsn == t.lsn && (s.epoch == t.epoch && (s.cell == t.cell && (s.value == t.value && true))))) := by rw [Bool.eq_iff_iff, entr_eq, decide_eq_true_eq]; exact laid_inj hr hr2
      refine returns_enter Try.func6 rfl Try.ntmps6 rfl ?_
      refine cw_seq fun K1 hK1 => ?_
      refine cw_region ?_
      refine wl_op rfl rfl (ow_box (cs := [_, _, _, _, _]) hS rfl rfl ?_)
      clear hS; intro b4 w hS
      refine wl_op rfl rfl (ow_box (cs := [_, _, _, _, _]) hS rfl rfl ?_)
      clear hS; intro b5 w hS
      refine wl_op rfl rfl (ow_vr (vr_assign (v := .bool false) rfl) ?_)
      refine wl_nil ?_
      refine hK1 _ _ ?_
      refine cw_seq fun K2 hK2 => ?_
      refine cw_region ?_
      first | (refine wl_op rfl rfl (ow_lr (S := Sat _ _) (lr_loadA (vs := [.int .i64 _, .int .i64 _, .int .i64 _, .int .i64 _, .int .i64 _]) Try.underlying38 rfl sz_38 rfl (by first | exact Has.here | exact Has.there (Has.here) | exact Has.there (Has.there (Has.here)) | exact Has.there (Has.there (Has.there (Has.here))) | exact Has.there (Has.there (Has.there (Has.there (Has.here)))) | exact Has.there (Has.there (Has.there (Has.there (Has.there (Has.here))))) | exact Has.there (Has.there (Has.there (Has.there (Has.there (Has.there (Has.here)))))) | exact Has.there (Has.there (Has.there (Has.there (Has.there (Has.there (Has.there (Has.here)))))))) rfl rfl) hS ?_)) | (refine wl_op rfl rfl (ow_lr (S := Sat _ _) (lr_loadA (vs := [_, _, _, _, _]) Try.underlying38 rfl sz_38 rfl (by first | exact Has.here | exact Has.there (Has.here) | exact Has.there (Has.there (Has.here)) | exact Has.there (Has.there (Has.there (Has.here))) | exact Has.there (Has.there (Has.there (Has.there (Has.here)))) | exact Has.there (Has.there (Has.there (Has.there (Has.there (Has.here))))) | exact Has.there (Has.there (Has.there (Has.there (Has.there (Has.there (Has.here)))))) | exact Has.there (Has.there (Has.there (Has.there (Has.there (Has.there (Has.there (Has.here)))))))) rfl rfl) hS ?_))
      refine wl_op rfl rfl (ow_fn (vs := [.agg _]) en_23 rfl hS (entry_PutT hr) ?_)
      clear hS; rintro _ _ w ⟨rfl, rfl⟩ hS; (try simp only [List.cons_append, List.nil_append] at hS)
      refine wl_op rfl rfl (ow_vr (vr_move (v := .tuple _) rfl) ?_)
      refine wl_op rfl rfl (ow_vr (vr_extract (v := str _) rfl rfl) ?_)
      refine wl_op rfl rfl (ow_vr (vr_extract (v := .bool _) rfl rfl) ?_)
      refine wl_op rfl rfl (ow_vr (vr_assign (v := str _) rfl) ?_)
      refine wl_op rfl rfl (ow_vr (vr_assign (v := .bool _) rfl) ?_)
      refine wl_nil ?_
      refine hK2 _ _ ?_
      refine cw_seq fun K3 hK3 => ?_
      refine cw_region ?_
      first | (refine wl_op rfl rfl (ow_lr (S := Sat _ _) (lr_loadA (vs := [.int .i64 _, .int .i64 _, .int .i64 _, .int .i64 _, .int .i64 _]) Try.underlying38 rfl sz_38 rfl (by first | exact Has.here | exact Has.there (Has.here) | exact Has.there (Has.there (Has.here)) | exact Has.there (Has.there (Has.there (Has.here))) | exact Has.there (Has.there (Has.there (Has.there (Has.here)))) | exact Has.there (Has.there (Has.there (Has.there (Has.there (Has.here))))) | exact Has.there (Has.there (Has.there (Has.there (Has.there (Has.there (Has.here)))))) | exact Has.there (Has.there (Has.there (Has.there (Has.there (Has.there (Has.there (Has.here)))))))) rfl rfl) hS ?_)) | (refine wl_op rfl rfl (ow_lr (S := Sat _ _) (lr_loadA (vs := [_, _, _, _, _]) Try.underlying38 rfl sz_38 rfl (by first | exact Has.here | exact Has.there (Has.here) | exact Has.there (Has.there (Has.here)) | exact Has.there (Has.there (Has.there (Has.here))) | exact Has.there (Has.there (Has.there (Has.there (Has.here)))) | exact Has.there (Has.there (Has.there (Has.there (Has.there (Has.here))))) | exact Has.there (Has.there (Has.there (Has.there (Has.there (Has.there (Has.here)))))) | exact Has.there (Has.there (Has.there (Has.there (Has.there (Has.there (Has.there (Has.here)))))))) rfl rfl) hS ?_))
      refine wl_op rfl rfl (ow_fn (vs := [.agg _]) en_23 rfl hS (entry_PutT hr2) ?_)
      clear hS; rintro _ _ w ⟨rfl, rfl⟩ hS; (try simp only [List.cons_append, List.nil_append] at hS)
      refine wl_op rfl rfl (ow_vr (vr_move (v := .tuple _) rfl) ?_)
      refine wl_op rfl rfl (ow_vr (vr_extract (v := str _) rfl rfl) ?_)
      refine wl_op rfl rfl (ow_vr (vr_extract (v := .bool _) rfl rfl) ?_)
      refine wl_op rfl rfl (ow_vr (vr_assign (v := str _) rfl) ?_)
      refine wl_op rfl rfl (ow_vr (vr_assign (v := .bool _) rfl) ?_)
      refine wl_nil ?_
      refine hK3 _ _ ?_
      refine cw_seq fun K4 hK4 => ?_
      refine cw_seq fun K5 hK5 => ?_
      refine cw_region ?_
      refine wl_op rfl rfl (ow_vr (vr_move (v := .bool _) rfl) ?_)
      refine wl_op rfl rfl (ow_vr (vr_not rfl) ?_)
      refine wl_op rfl rfl (ow_vr (vr_move (v := .bool _) rfl) ?_)
      refine wl_known 29 rfl (c := false) (rfl) ?_
      refine wl_yes rfl rfl rfl rfl rfl (ow_vr (vr_move (v := .bool _) rfl) ?_)
      refine wl_yes rfl rfl rfl rfl rfl (ow_vr (vr_not rfl) ?_)
      refine wl_op rfl rfl (ow_vr (vr_pick (b := false) (v := .bool _) rfl rfl) ?_)
      refine wl_op rfl rfl (ow_vr (vr_move (v := .bool _) rfl) ?_)
      refine wl_known 33 rfl (c := false) (rfl) ?_
      refine wl_yes rfl rfl rfl rfl rfl (ow_vr (vr_move (v := .int .u8 _) rfl) ?_)
      refine wl_yes rfl rfl rfl rfl rfl (ow_vr (vr_eql rfl rfl) ?_)
      refine wl_op rfl rfl (ow_vr (vr_pick (b := false) (v := .bool _) rfl rfl) ?_)
      refine wl_op rfl rfl (ow_vr (vr_move (v := .bool _) rfl) ?_)
      refine wl_split 37 rfl (fun hc => ?_) (fun hc => ?_)
      · (try simp only [decide_eq_true_eq, decide_eq_false_iff_not, Bool.not_eq_true, Bool.not_eq_false, Bool.not_eq_true', Bool.not_eq_false', Bool.and_eq_true, Bool.or_eq_true, Bool.and_eq_false_iff, Bool.or_eq_false_iff, Int.not_lt, Int.not_le, gt_iff_lt, ge_iff_le, ne_eq, Decidable.not_not, beq_iff_eq] at hc)
        have hg37 := hc; clear hc
        refine wl_noD rfl rfl rfl rfl rfl rfl ?_
        refine wl_noD rfl rfl rfl rfl rfl rfl ?_
        refine wl_op rfl rfl (ow_vr (vr_pick (b := true) (v := .bool _) rfl rfl) ?_)
        refine wl_nil ?_
        refine hK5 _ _ ?_
        refine cw_cond_t rfl rfl (rfl) ?_
        refine cw_seq fun K6 hK6 => ?_
        refine cw_region ?_
        refine wl_op rfl rfl (ow_fn (vs := []) en_22 rfl hS (alive6) ?_)
        clear hS; rintro _ _ w ⟨rfl, rfl⟩ hS; (try simp only [List.cons_append, List.nil_append] at hS)
        refine wl_op rfl rfl (ow_vr (vr_assign (v := .bool _) rfl) ?_)
        refine wl_nil ?_
        refine hK6 _ _ ?_
        refine cw_ret ?_
        refine thenF_ret (?_)
        refine ret_one (fn := Try.f6) (n := 81) (t := 8) (.inl rfl) rfl rfl ?_
        exact ⟨rfl, hS.tail1.tail1⟩
      · (try simp only [decide_eq_true_eq, decide_eq_false_iff_not, Bool.not_eq_true, Bool.not_eq_false, Bool.not_eq_true', Bool.not_eq_false', Bool.and_eq_true, Bool.or_eq_true, Bool.and_eq_false_iff, Bool.or_eq_false_iff, Int.not_lt, Int.not_le, gt_iff_lt, ge_iff_le, ne_eq, Decidable.not_not, beq_iff_eq] at hc)
        have hg37 := hc; clear hc
        refine wl_yes rfl rfl rfl rfl rfl (ow_fn (vs := []) en_22 rfl hS (alive6) ?_)
        clear hS; rintro _ _ w ⟨rfl, rfl⟩ hS; (try simp only [List.cons_append, List.nil_append] at hS)
        refine wl_yes rfl rfl rfl rfl rfl (ow_vr (vr_not rfl) ?_)
        refine wl_op rfl rfl (ow_vr (vr_pick (b := false) (v := .bool _) rfl rfl) ?_)
        refine wl_nil ?_
        refine hK5 _ _ ?_
        refine cw_cond rfl rfl (fun hc => ?_) (fun hc => ?_)
        · (try simp only [decide_eq_true_eq, decide_eq_false_iff_not, Bool.not_eq_true, Bool.not_eq_false, Bool.not_eq_true', Bool.not_eq_false', Bool.and_eq_true, Bool.or_eq_true, Bool.and_eq_false_iff, Bool.or_eq_false_iff, Int.not_lt, Int.not_le, gt_iff_lt, ge_iff_le, ne_eq, Decidable.not_not, beq_iff_eq] at hc)
          have hc0 := hc; clear hc
          refine cw_seq fun K7 hK7 => ?_
          refine cw_region ?_
          refine wl_op rfl rfl (ow_fn (vs := []) en_22 rfl hS (alive6) ?_)
          clear hS; rintro _ _ w ⟨rfl, rfl⟩ hS; (try simp only [List.cons_append, List.nil_append] at hS)
          refine wl_op rfl rfl (ow_vr (vr_assign (v := .bool _) rfl) ?_)
          refine wl_nil ?_
          refine hK7 _ _ ?_
          refine cw_ret ?_
          refine thenF_ret (?_)
          refine ret_one (fn := Try.f6) (n := 81) (t := 8) (.inl rfl) rfl rfl ?_
          exact ⟨rfl, hS.tail1.tail1⟩
        · (try simp only [decide_eq_true_eq, decide_eq_false_iff_not, Bool.not_eq_true, Bool.not_eq_false, Bool.not_eq_true', Bool.not_eq_false', Bool.and_eq_true, Bool.or_eq_true, Bool.and_eq_false_iff, Bool.or_eq_false_iff, Int.not_lt, Int.not_le, gt_iff_lt, ge_iff_le, ne_eq, Decidable.not_not, beq_iff_eq] at hc)
          have hc0 := hc; clear hc
          refine cw_skip ?_
          refine hK4 _ _ ?_
          refine cw_seq fun K8 hK8 => ?_
          refine cw_seq fun K9 hK9 => ?_
          refine cw_region ?_
          refine wl_op rfl rfl (ow_vr (vr_move (v := str _) rfl) ?_)
          refine wl_op rfl rfl (ow_vr (vr_move (v := str _) rfl) ?_)
          refine wl_op rfl rfl (ow_vr (vr_eql_s rfl rfl) ?_)
          first | (refine wl_op rfl rfl (ow_lr (S := Sat _ _) (lr_loadA (vs := [.int .i64 _, .int .i64 _, .int .i64 _, .int .i64 _, .int .i64 _]) Try.underlying38 rfl sz_38 rfl (by first | exact Has.here | exact Has.there (Has.here) | exact Has.there (Has.there (Has.here)) | exact Has.there (Has.there (Has.there (Has.here))) | exact Has.there (Has.there (Has.there (Has.there (Has.here)))) | exact Has.there (Has.there (Has.there (Has.there (Has.there (Has.here))))) | exact Has.there (Has.there (Has.there (Has.there (Has.there (Has.there (Has.here)))))) | exact Has.there (Has.there (Has.there (Has.there (Has.there (Has.there (Has.there (Has.here)))))))) rfl rfl) hS ?_)) | (refine wl_op rfl rfl (ow_lr (S := Sat _ _) (lr_loadA (vs := [_, _, _, _, _]) Try.underlying38 rfl sz_38 rfl (by first | exact Has.here | exact Has.there (Has.here) | exact Has.there (Has.there (Has.here)) | exact Has.there (Has.there (Has.there (Has.here))) | exact Has.there (Has.there (Has.there (Has.there (Has.here)))) | exact Has.there (Has.there (Has.there (Has.there (Has.there (Has.here))))) | exact Has.there (Has.there (Has.there (Has.there (Has.there (Has.there (Has.here)))))) | exact Has.there (Has.there (Has.there (Has.there (Has.there (Has.there (Has.there (Has.here)))))))) rfl rfl) hS ?_))
          first | (refine wl_op rfl rfl (ow_lr (S := Sat _ _) (lr_loadA (vs := [.int .i64 _, .int .i64 _, .int .i64 _, .int .i64 _, .int .i64 _]) Try.underlying38 rfl sz_38 rfl (by first | exact Has.here | exact Has.there (Has.here) | exact Has.there (Has.there (Has.here)) | exact Has.there (Has.there (Has.there (Has.here))) | exact Has.there (Has.there (Has.there (Has.there (Has.here)))) | exact Has.there (Has.there (Has.there (Has.there (Has.there (Has.here))))) | exact Has.there (Has.there (Has.there (Has.there (Has.there (Has.there (Has.here)))))) | exact Has.there (Has.there (Has.there (Has.there (Has.there (Has.there (Has.there (Has.here)))))))) rfl rfl) hS ?_)) | (refine wl_op rfl rfl (ow_lr (S := Sat _ _) (lr_loadA (vs := [_, _, _, _, _]) Try.underlying38 rfl sz_38 rfl (by first | exact Has.here | exact Has.there (Has.here) | exact Has.there (Has.there (Has.here)) | exact Has.there (Has.there (Has.there (Has.here))) | exact Has.there (Has.there (Has.there (Has.there (Has.here)))) | exact Has.there (Has.there (Has.there (Has.there (Has.there (Has.here))))) | exact Has.there (Has.there (Has.there (Has.there (Has.there (Has.there (Has.here)))))) | exact Has.there (Has.there (Has.there (Has.there (Has.there (Has.there (Has.there (Has.here)))))))) rfl rfl) hS ?_))
          refine wl_op rfl rfl (ow_vr (vr_eql_st eg_38 rfl rfl (eq_38 _ _ _ _ _ _ _ _ _ _)) ?_)
          refine wl_op rfl rfl (ow_vr (vr_neqb Try.underlying4 rfl rfl) ?_)
          refine wl_op rfl rfl (ow_vr (vr_move (v := .bool _) rfl) ?_)
          refine wl_known 49 rfl (c := false) (by rw [heq]; exact bne_self_eq_false _) ?_
          refine wl_yes rfl rfl rfl rfl rfl (ow_vr (vr_move (v := str _) rfl) ?_)
          refine wl_yes rfl rfl rfl rfl rfl (ow_vr (vr_len_s Try.underlying9 rfl) ?_)
          refine wl_yes rfl rfl rfl rfl rfl (ow_vr (vr_neq rfl rfl) ?_)
          refine wl_op rfl rfl (ow_vr (vr_pick (b := false) (v := .bool _) rfl rfl) ?_)
          refine wl_nil ?_
          refine hK9 _ _ ?_
          refine cw_cond_f rfl rfl (by simp; omega) ?_
          refine cw_skip ?_
          refine hK8 _ _ ?_
          refine cw_seq fun K10 hK10 => ?_
          have ht1 := Int.tmod_lt_of_pos at_ (show (0 : Int) < (laidB s).length by omega)
          have ht2 := Int.lt_tmod_of_pos at_ (show (0 : Int) < (laidB s).length by omega)
          have ht3 := Int.tmod_lt_of_pos (at_.tmod (laidB s).length + (laidB s).length) (show (0 : Int) < (laidB s).length by omega)
          have ht4 := Int.tmod_nonneg (a := at_.tmod (laidB s).length + (laidB s).length) ((laidB s).length : Int) (by omega)
          obtain ⟨k, hk⟩ : ∃ k : Nat, (at_.tmod (laidB s).length + (laidB s).length).tmod (laidB s).length = (k : Int) := ⟨((at_.tmod (laidB s).length + (laidB s).length).tmod (laidB s).length).toNat, by omega⟩
          obtain ⟨x, hx⟩ := get_lt (xs := laidB s) (k := k) (by omega)
          have hx0 : by_.toNat ≠ 0 := by simp at *; omega
          refine cw_region ?_
          refine wl_op rfl rfl (ow_vr (vr_move (v := .int .i64 _) rfl) ?_)
          refine wl_op rfl rfl (ow_vr (vr_move (v := str _) rfl) ?_)
          refine wl_op rfl rfl (ow_vr (vr_len_s Try.underlying9 rfl) ?_)
          refine wl_op rfl rfl (ow_vr (vr_remt rfl rfl (by omega)) ?_)
          refine wl_op rfl rfl (ow_vr (vr_move (v := str _) rfl) ?_)
          refine wl_op rfl rfl (ow_vr (vr_len_s Try.underlying9 rfl) ?_)
          first | (refine wl_op rfl rfl (ow_vr (vr_addi rfl rfl (by unfold inI64; omega)) ?_)) | (refine wl_op rfl rfl (ow_vr (vr_add rfl rfl) ?_))
          refine wl_op rfl rfl (ow_vr (vr_move (v := str _) rfl) ?_)
          refine wl_op rfl rfl (ow_vr (vr_len_s Try.underlying9 rfl) ?_)
          refine wl_op rfl rfl (ow_vr (vr_as (vr_remt rfl rfl (by omega)) (congrArg (Value.int .i64) hk)) ?_)
          refine wl_op rfl rfl (ow_vr (vr_assign (v := .int .i64 _) rfl) ?_)
          refine wl_nil ?_
          refine hK10 _ _ ?_
          refine cw_seq fun K11 hK11 => ?_
          refine cw_region ?_
          refine wl_op rfl rfl (ow_vr (vr_move (v := str _) rfl) ?_)
          refine wl_op rfl rfl (ow_strBytes (xs := _) hS Try.underlying9 Try.underlying69 Try.underlying5 rfl ?_)
          clear hS; intro v65 D65 w ho65 hS
          refine wl_op rfl rfl (ow_vr (vr_assign (v := v65) rfl) ?_)
          refine wl_nil ?_
          refine hK11 _ _ ?_
          refine cw_seq fun K12 hK12 => ?_
          refine cw_region ?_
          refine wl_op rfl rfl (ow_vr (vr_move (v := v65) rfl) ?_)
          refine wl_op rfl rfl (ow_vr (vr_move (v := .int .i64 _) rfl) ?_)
          first | (refine wl_op rfl rfl (ow_vr (vr_indexAddr Try.underlying69 sz_5 rfl rfl (by omega) (by omega)) ?_)) | (refine wl_op rfl rfl (ow_vr (vr_indexV (v := v65) Try.underlying69 sz_5 rfl (by first | assumption | (refine Own.view ?_ (by assumption); exact fun _ => rfl) | exact OwnB.view (by assumption)) rfl (by omega) (by first | omega | (simp <;> omega))) ?_))
          refine wl_op rfl rfl (ow_lr (S := Sat _ _) (lr_loadV1 (u := .int .u8 _) Try.underlying5 rfl rfl (by first | assumption | (refine Own.view ?_ (by assumption); exact fun _ => rfl) | exact OwnB.view (by assumption)) (by first | exact List.Mem.head _ | exact List.Mem.tail _ (List.Mem.head _) | exact List.Mem.tail _ (List.Mem.tail _ (List.Mem.head _)) | exact List.Mem.tail _ (List.Mem.tail _ (List.Mem.tail _ (List.Mem.head _))) | exact List.Mem.tail _ (List.Mem.tail _ (List.Mem.tail _ (List.Mem.tail _ (List.Mem.head _)))) | exact List.Mem.tail _ (List.Mem.tail _ (List.Mem.tail _ (List.Mem.tail _ (List.Mem.tail _ (List.Mem.head _))))) | exact List.Mem.tail _ (List.Mem.tail _ (List.Mem.tail _ (List.Mem.tail _ (List.Mem.tail _ (List.Mem.tail _ (List.Mem.head _)))))) | exact List.Mem.tail _ (List.Mem.tail _ (List.Mem.tail _ (List.Mem.tail _ (List.Mem.tail _ (List.Mem.tail _ (List.Mem.tail _ (List.Mem.head _))))))) | exact List.Mem.tail _ (List.Mem.tail _ (List.Mem.tail _ (List.Mem.tail _ (List.Mem.tail _ (List.Mem.tail _ (List.Mem.tail _ (List.Mem.tail _ (List.Mem.head _)))))))) | exact (by assumption) | exact List.Mem.tail _ ((by assumption)) | exact List.Mem.tail _ (List.Mem.tail _ ((by assumption))) | exact List.Mem.tail _ (List.Mem.tail _ (List.Mem.tail _ ((by assumption)))) | exact List.Mem.tail _ (List.Mem.tail _ (List.Mem.tail _ (List.Mem.tail _ ((by assumption))))) | exact List.Mem.tail _ (List.Mem.tail _ (List.Mem.tail _ (List.Mem.tail _ (List.Mem.tail _ ((by assumption))))))) (hx) (by exact fun _ => rfl) (by rfl)) hS ?_)
          refine wl_op rfl rfl (ow_vr (vr_move (v := .int .u8 _) rfl) ?_)
          refine wl_op rfl rfl (ow_vr (vr_as (v' := .int .u8 ((x ^^^ by_).toNat : Int)) (vr_xor_u8 (a := x.toNat) (b := by_.toNat) rfl rfl (by have := x.toNat_lt; omega) (by have := by_.toNat_lt; omega)) (by rw [UInt8.toNat_xor])) ?_)
          first | (refine wl_op rfl rfl (ow_vr (vr_indexAddr Try.underlying69 sz_5 rfl rfl (by omega) (by omega)) ?_)) | (refine wl_op rfl rfl (ow_vr (vr_indexV (v := v65) Try.underlying69 sz_5 rfl (by first | assumption | (refine Own.view ?_ (by assumption); exact fun _ => rfl) | exact OwnB.view (by assumption)) rfl (by omega) (by first | omega | (simp <;> omega))) ?_))
          refine wl_op rfl rfl (ow_storeB (b' := x ^^^ by_) hS sz_5 rfl rfl (by assumption) (by first | exact HasC.here | exact HasC.there (HasC.here) | exact HasC.there (HasC.there (HasC.here)) | exact HasC.there (HasC.there (HasC.there (HasC.here))) | exact HasC.there (HasC.there (HasC.there (HasC.there (HasC.here)))) | exact HasC.there (HasC.there (HasC.there (HasC.there (HasC.there (HasC.here))))) | exact HasC.there (HasC.there (HasC.there (HasC.there (HasC.there (HasC.there (HasC.here)))))) | exact HasC.there (HasC.there (HasC.there (HasC.there (HasC.there (HasC.there (HasC.there (HasC.here))))))) | exact HasC.there (HasC.there (HasC.there (HasC.there (HasC.there (HasC.there (HasC.there (HasC.there (HasC.here))))))))) (by omega) ?_)
          clear hS; intro D9_7 w ho9_7 hS
          refine wl_nil ?_
          rw [Int.toNat_natCast] at ho9_7
          refine hK12 _ _ ?_
          refine cw_seq fun K13 hK13 => ?_
          refine cw_region ?_
          refine wl_op rfl rfl (ow_vr (vr_move (v := v65) rfl) ?_)
          refine wl_op rfl rfl (ow_lr (S := Sat _ _) (lr_bytes_str Try.underlying69 Try.underlying5 Try.underlying9 rfl (by first | assumption | (refine Own.view ?_ (by assumption); exact fun _ => rfl) | exact OwnB.view (by assumption)) (by first | exact List.Mem.head _ | exact List.Mem.tail _ (List.Mem.head _) | exact List.Mem.tail _ (List.Mem.tail _ (List.Mem.head _)) | exact List.Mem.tail _ (List.Mem.tail _ (List.Mem.tail _ (List.Mem.head _))) | exact List.Mem.tail _ (List.Mem.tail _ (List.Mem.tail _ (List.Mem.tail _ (List.Mem.head _)))) | exact List.Mem.tail _ (List.Mem.tail _ (List.Mem.tail _ (List.Mem.tail _ (List.Mem.tail _ (List.Mem.head _))))) | exact List.Mem.tail _ (List.Mem.tail _ (List.Mem.tail _ (List.Mem.tail _ (List.Mem.tail _ (List.Mem.tail _ (List.Mem.head _)))))) | exact List.Mem.tail _ (List.Mem.tail _ (List.Mem.tail _ (List.Mem.tail _ (List.Mem.tail _ (List.Mem.tail _ (List.Mem.tail _ (List.Mem.head _))))))) | exact List.Mem.tail _ (List.Mem.tail _ (List.Mem.tail _ (List.Mem.tail _ (List.Mem.tail _ (List.Mem.tail _ (List.Mem.tail _ (List.Mem.tail _ (List.Mem.head _)))))))) | exact (by assumption) | exact List.Mem.tail _ ((by assumption)) | exact List.Mem.tail _ (List.Mem.tail _ ((by assumption))) | exact List.Mem.tail _ (List.Mem.tail _ (List.Mem.tail _ ((by assumption)))) | exact List.Mem.tail _ (List.Mem.tail _ (List.Mem.tail _ (List.Mem.tail _ ((by assumption))))) | exact List.Mem.tail _ (List.Mem.tail _ (List.Mem.tail _ (List.Mem.tail _ (List.Mem.tail _ ((by assumption)))))))) hS ?_)
          refine wl_op rfl rfl (ow_fn (vs := [str _]) en_27 rfl hS (entry_Get ((laidB s).set k (x ^^^ by_)) (by rw [List.length_set]; omega)) ?_)
          clear hS; rintro _ _ w ⟨rfl, rfl⟩ hS; (try simp only [List.cons_append, List.nil_append] at hS)
          refine wl_op rfl rfl (ow_vr (vr_move (v := .tuple _) rfl) ?_)
          refine wl_op rfl rfl (ow_vr (vr_extract (v := .agg _) rfl rfl) ?_)
          refine wl_op rfl rfl (ow_vr (vr_extract (v := .bool _) rfl rfl) ?_)
          refine wl_op rfl rfl (ow_alloc (cs := [_, _, _, _, _]) hS zr_38 rfl ?_)
          clear hS; intro b15 w hS
          refine wl_op rfl rfl (ow_storeA (vs := [.int .i64 _, .int .i64 _, .int .i64 _, .int .i64 _, .int .i64 _]) hS sz_38 rfl rfl rfl (by first | rfl | (simp only [List.all_cons, List.all_nil, Bool.and_true, Bool.and_eq_true]; repeat (first | refine ⟨by first | rfl | assumption, ?_⟩ | rfl | assumption))) (by first | exact Has.here | exact Has.there (Has.here) | exact Has.there (Has.there (Has.here)) | exact Has.there (Has.there (Has.there (Has.here))) | exact Has.there (Has.there (Has.there (Has.there (Has.here)))) | exact Has.there (Has.there (Has.there (Has.there (Has.there (Has.here))))) | exact Has.there (Has.there (Has.there (Has.there (Has.there (Has.there (Has.here)))))) | exact Has.there (Has.there (Has.there (Has.there (Has.there (Has.there (Has.there (Has.here)))))))) (by simp) ?_)
          clear hS; intro w hS; try simp only [putAt, List.set_cons_zero, List.set_cons_succ] at hS
          refine wl_op rfl rfl (ow_vr (vr_assign (v := .bool _) rfl) ?_)
          refine wl_nil ?_
          refine hK13 _ _ ?_
          refine cw_seq fun K14 hK14 => ?_
          have hno : getOkE ((laidB s).set k (x ^^^ by_)) = false := laid_turned hr k _ (by omega) (by rw [hx]; intro e; exact hx0 (xor_ne (Option.some.inj e)))
          refine cw_region ?_
          refine wl_op rfl rfl (ow_vr (vr_move (v := .bool _) rfl) ?_)
          refine wl_op rfl rfl (ow_vr (vr_not rfl) ?_)
          refine wl_op rfl rfl (ow_vr (vr_assign (v := .bool _) rfl) ?_)
          refine wl_nil ?_
          refine hK14 _ _ ?_
          refine cw_ret ?_
          refine ret_one (fn := Try.f6) (n := 81) (t := 8) (.inl rfl) rfl rfl ?_
          exact ⟨congrArg Value.bool (by rw [hno]; rfl), hS.tail1.tail1.tail1.tail1⟩
end Go.Proofs.Ytjhbmogpicddeaa
