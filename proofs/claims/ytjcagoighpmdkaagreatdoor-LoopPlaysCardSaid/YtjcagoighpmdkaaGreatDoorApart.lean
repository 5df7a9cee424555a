/- The book's lists of which there are none (codes, nodes); all lists: none shares memory with another one. -/
import Derived.Test.YtjcagoighpmdkaaGreatDoorKeptInts
import Derived.Test.YtjcagoighpmdkaaGreatDoorKeptChanges
import Derived.Test.YtjcagoighpmdkaaGreatDoorKeptEntries
import Derived.Test.YtjcagoighpmdkaaGreatDoorKeptTexts
namespace Go.Proofs.YtjcagoighpmdkaaGreatDoor
open Go Go.RowKit
set_option linter.unusedVariables false
set_option linter.unusedSimpArgs false
attribute [local irreducible] actF WL CW OW PL SW VR LR yes Returns Fn
theorem Sat.rot4 {E w : World} {k a b c e : Chunk} {L : List Chunk} (h : Sat E (k :: a :: b :: c :: e :: L) w) : Sat E (k :: b :: c :: e :: a :: L) w :=
  h.perm (flat_cons (flat_swap.trans (flat_cons (flat_swap.trans (flat_cons flat_swap)))))
/-- The book's block, where there are neither codes nor nodes. -/
abbrev bookC (p : Nat) (c0 c1 c2 c3 c4 c5 c6 c7 : Value) : Chunk := [(p, .cells ([c0, c1, c2, c3, c4, c5, c6, c7, .slice none 0 0, .slice none 0 0, .slice none 0 0, .slice none 0 0] : List Value).toArray 37 (0, 0))]
section
variable {p : Nat} {c0 c1 c2 c3 c4 c5 c6 c7 : Value}
theorem book_stillCodes : Fn Tryz.prog 37 [.pointer (some ⟨p, 0, none⟩)] [bookC p c0 c1 c2 c3 c4 c5 c6 c7] (fun r Δs => r = .bool true ∧ Δs = [bookC p c0 c1 c2 c3 c4 c5 c6 c7]) := by
  refine Fn.mk fun E F w hS => ?_
  refine returns_enter Tryz.func37 rfl Tryz.ntmps37 rfl ?_
  refine cw_seq fun K1 hK1 => ?_
  refine cw_region ?_
  refine wl_op rfl rfl (ow_vr (vr_assign (v := .bool false) rfl) ?_)
  refine wl_nil ?_
  refine hK1 _ _ ?_
  refine cw_seq fun K2 hK2 => ?_
  refine cw_seq fun K3 hK3 => ?_
  refine cw_region ?_
  refine wl_op rfl rfl (ow_vr (vr_assign (v := .int .i64 0) rfl) ?_)
  refine wl_nil ?_
  refine hK3 _ _ ?_
  refine cw_block ?_
  refine cw_loop (fun m f w => ∃ (g : Nat → Value), f = (upd (upd g 0 (.pointer (some ⟨p, 0, none⟩))) 3 (.int .i64 0)) ∧ (True) ∧ m = 0 ∧ Sat E (bookC p c0 c1 c2 c3 c4 c5 c6 c7 :: F) w) ⟨_, (reb (reb rfl rfl) rfl), ?_, rfl, hS⟩ ?_
  · trivial
  clear hS; rintro m f w ⟨g, rfl, hI0, rfl, hS⟩
  refine cw_seq fun K4 hK4 => ?_
  refine cw_seq fun K5 hK5 => ?_
  refine cw_region ?_
  refine wl_op rfl rfl (ow_vr (vr_move (v := .int .i64 0) rfl) ?_)
  refine wl_op rfl rfl (ow_vr (vr_move (v := .pointer (some ⟨p, 0, none⟩)) rfl) ?_)
  refine wl_op rfl rfl (ow_vr (vr_nilCheck rfl) ?_)
  first | (refine wl_op rfl rfl (ow_vr (vr_fieldAddr fo_37_8 rfl) ?_)) | (refine wl_op rfl rfl (ow_vr (vr_fieldAddrV fo_37_8 rfl (by first | assumption | (refine Own.view ?_ (by assumption); exact fun _ => rfl) | exact OwnB.view (by assumption)) (by first | omega | (simp <;> omega))) ?_))
  refine wl_op rfl rfl (ow_lr (S := Sat _ _) (lr_load1 Tryz.underlying34 rfl rfl (by first | exact Has.here | exact Has.there (Has.here) | exact Has.there (Has.there (Has.here)) | exact Has.there (Has.there (Has.there (Has.here))) | exact Has.there (Has.there (Has.there (Has.there (Has.here)))) | exact Has.there (Has.there (Has.there (Has.there (Has.there (Has.here))))) | exact Has.there (Has.there (Has.there (Has.there (Has.there (Has.there (Has.here)))))) | exact Has.there (Has.there (Has.there (Has.there (Has.there (Has.there (Has.there (Has.here)))))))) rfl) hS ?_)
  first | (refine wl_op rfl rfl (ow_vr (vr_len_sl Tryz.underlying34 rfl) ?_)) | (refine wl_op rfl rfl (ow_vr (vr_len_v Tryz.underlying34 rfl (by first | assumption | (refine Own.view ?_ (by assumption); exact fun _ => rfl) | exact OwnB.view (by assumption))) ?_))
  refine wl_op rfl rfl (ow_vr (vr_lss rfl rfl) ?_)
  refine wl_nil ?_
  refine hK5 _ _ ?_
  refine cw_cond_f rfl rfl (by simp) ?_
  refine cw_exit ?_
  refine hK2 _ _ ?_
  refine cw_seq fun K6 hK6 => ?_
  refine cw_region ?_
  refine wl_op rfl rfl (ow_vr (vr_assign (v := .bool true) rfl) ?_)
  refine wl_nil ?_
  refine hK6 _ _ ?_
  refine cw_ret ?_
  refine ret_one (fn := Tryz.f37) (n := 29) (t := 2) (.inl rfl) rfl rfl ?_
  exact ⟨[_], ⟨rfl, rfl⟩, hS⟩
theorem book_putCodes : Fn Tryz.prog 44 [.pointer (some ⟨p, 0, none⟩)] [bookC p c0 c1 c2 c3 c4 c5 c6 c7] (fun r Δs => Δs = [bookC p c0 c1 c2 c3 c4 c5 c6 c7]) := by
  refine Fn.mk fun E F w hS => ?_
  refine returns_enter Tryz.func44 rfl Tryz.ntmps44 rfl ?_
  refine cw_seq fun K1 hK1 => ?_
  refine cw_region ?_
  refine wl_op rfl rfl (ow_vr (vr_assign (v := .int .i64 0) rfl) ?_)
  refine wl_nil ?_
  refine hK1 _ _ ?_
  refine cw_block ?_
  refine cw_loop (fun m f w => ∃ (g : Nat → Value), f = (upd (upd g 0 (.pointer (some ⟨p, 0, none⟩))) 2 (.int .i64 0)) ∧ (True) ∧ m = 0 ∧ Sat E (bookC p c0 c1 c2 c3 c4 c5 c6 c7 :: F) w) ⟨_, (reb (reb rfl rfl) rfl), ?_, rfl, hS⟩ ?_
  · trivial
  clear hS; rintro m f w ⟨g, rfl, hI0, rfl, hS⟩
  refine cw_seq fun K2 hK2 => ?_
  refine cw_seq fun K3 hK3 => ?_
  refine cw_region ?_
  refine wl_op rfl rfl (ow_vr (vr_move (v := .int .i64 0) rfl) ?_)
  refine wl_op rfl rfl (ow_vr (vr_move (v := .pointer (some ⟨p, 0, none⟩)) rfl) ?_)
  refine wl_op rfl rfl (ow_vr (vr_nilCheck rfl) ?_)
  first | (refine wl_op rfl rfl (ow_vr (vr_fieldAddr fo_37_8 rfl) ?_)) | (refine wl_op rfl rfl (ow_vr (vr_fieldAddrV fo_37_8 rfl (by first | assumption | (refine Own.view ?_ (by assumption); exact fun _ => rfl) | exact OwnB.view (by assumption)) (by first | omega | (simp <;> omega))) ?_))
  refine wl_op rfl rfl (ow_lr (S := Sat _ _) (lr_load1 Tryz.underlying34 rfl rfl (by first | exact Has.here | exact Has.there (Has.here) | exact Has.there (Has.there (Has.here)) | exact Has.there (Has.there (Has.there (Has.here))) | exact Has.there (Has.there (Has.there (Has.there (Has.here)))) | exact Has.there (Has.there (Has.there (Has.there (Has.there (Has.here))))) | exact Has.there (Has.there (Has.there (Has.there (Has.there (Has.there (Has.here)))))) | exact Has.there (Has.there (Has.there (Has.there (Has.there (Has.there (Has.there (Has.here)))))))) rfl) hS ?_)
  first | (refine wl_op rfl rfl (ow_vr (vr_len_sl Tryz.underlying34 rfl) ?_)) | (refine wl_op rfl rfl (ow_vr (vr_len_v Tryz.underlying34 rfl (by first | assumption | (refine Own.view ?_ (by assumption); exact fun _ => rfl) | exact OwnB.view (by assumption))) ?_))
  refine wl_op rfl rfl (ow_vr (vr_lss rfl rfl) ?_)
  refine wl_nil ?_
  refine hK3 _ _ ?_
  refine cw_cond_f rfl rfl (by simp) ?_
  refine cw_exit ?_
  refine thenF_exit (thenF_exit ((inB_exit ?_)))
  refine ret_none (fn := Tryz.f44) (n := 43) (.inr rfl) rfl ?_
  exact ⟨[_], rfl, hS⟩
theorem book_growCodes : Fn Tryz.prog 49 [.pointer (some ⟨p, 0, none⟩)] [bookC p c0 c1 c2 c3 c4 c5 c6 c7] (fun r Δs => r = .slice none 0 0 ∧ Δs = [bookC p c0 c1 c2 c3 c4 c5 c6 c7]) := by
  refine Fn.mk fun E F w hS => ?_
  refine returns_enter Tryz.func49 rfl Tryz.ntmps49 rfl ?_
  refine cw_seq fun K1 hK1 => ?_
  refine cw_region ?_
  refine wl_op rfl rfl (ow_vr (vr_assign (v := .slice none 0 0) rfl) ?_)
  refine wl_nil ?_
  refine hK1 _ _ ?_
  refine cw_seq fun K2 hK2 => ?_
  refine cw_region ?_
  refine wl_op rfl rfl (ow_vr (vr_assign (v := .slice none 0 0) rfl) ?_)
  refine wl_nil ?_
  refine hK2 _ _ ?_
  refine cw_seq fun K3 hK3 => ?_
  refine cw_seq fun K4 hK4 => ?_
  refine cw_region ?_
  refine wl_op rfl rfl (ow_vr (vr_assign (v := .int .i64 0) rfl) ?_)
  refine wl_nil ?_
  refine hK4 _ _ ?_
  refine cw_block ?_
  refine cw_loop (fun m f w => ∃ (g : Nat → Value), f = (upd (upd (upd g 0 (.pointer (some ⟨p, 0, none⟩))) 3 (.slice none 0 0)) 4 (.int .i64 0)) ∧ (True) ∧ m = 0 ∧ Sat E (bookC p c0 c1 c2 c3 c4 c5 c6 c7 :: F) w) ⟨_, (reb (reb (reb rfl rfl) rfl) rfl), ?_, rfl, hS⟩ ?_
  · trivial
  clear hS; rintro m f w ⟨g, rfl, hI0, rfl, hS⟩
  refine cw_seq fun K5 hK5 => ?_
  refine cw_seq fun K6 hK6 => ?_
  refine cw_region ?_
  refine wl_op rfl rfl (ow_vr (vr_move (v := .int .i64 0) rfl) ?_)
  refine wl_op rfl rfl (ow_vr (vr_move (v := .pointer (some ⟨p, 0, none⟩)) rfl) ?_)
  refine wl_op rfl rfl (ow_vr (vr_nilCheck rfl) ?_)
  first | (refine wl_op rfl rfl (ow_vr (vr_fieldAddr fo_37_8 rfl) ?_)) | (refine wl_op rfl rfl (ow_vr (vr_fieldAddrV fo_37_8 rfl (by first | assumption | (refine Own.view ?_ (by assumption); exact fun _ => rfl) | exact OwnB.view (by assumption)) (by first | omega | (simp <;> omega))) ?_))
  refine wl_op rfl rfl (ow_lr (S := Sat _ _) (lr_load1 Tryz.underlying34 rfl rfl (by first | exact Has.here | exact Has.there (Has.here) | exact Has.there (Has.there (Has.here)) | exact Has.there (Has.there (Has.there (Has.here))) | exact Has.there (Has.there (Has.there (Has.there (Has.here)))) | exact Has.there (Has.there (Has.there (Has.there (Has.there (Has.here))))) | exact Has.there (Has.there (Has.there (Has.there (Has.there (Has.there (Has.here)))))) | exact Has.there (Has.there (Has.there (Has.there (Has.there (Has.there (Has.there (Has.here)))))))) rfl) hS ?_)
  first | (refine wl_op rfl rfl (ow_vr (vr_len_sl Tryz.underlying34 rfl) ?_)) | (refine wl_op rfl rfl (ow_vr (vr_len_v Tryz.underlying34 rfl (by first | assumption | (refine Own.view ?_ (by assumption); exact fun _ => rfl) | exact OwnB.view (by assumption))) ?_))
  refine wl_op rfl rfl (ow_vr (vr_lss rfl rfl) ?_)
  refine wl_nil ?_
  refine hK6 _ _ ?_
  refine cw_cond_f rfl rfl (by simp) ?_
  refine cw_exit ?_
  refine hK3 _ _ ?_
  refine cw_seq fun K7 hK7 => ?_
  refine cw_region ?_
  refine wl_op rfl rfl (ow_vr (vr_move (v := .slice none 0 0) rfl) ?_)
  refine wl_op rfl rfl (ow_vr (vr_assign (v := .slice none 0 0) rfl) ?_)
  refine wl_nil ?_
  refine hK7 _ _ ?_
  refine cw_ret ?_
  refine ret_one (fn := Tryz.f49) (n := 43) (t := 2) (.inl rfl) rfl rfl ?_
  exact ⟨[_], ⟨rfl, rfl⟩, hS⟩
theorem book_markedCodes : FnV Tryz.prog 55 [.slice none 0 0] (.bool true) := by
  refine FnV.mk fun E F w hS => ?_
  refine returns_enter Tryz.func55 rfl Tryz.ntmps55 rfl ?_
  refine cw_seq fun K1 hK1 => ?_
  refine cw_region ?_
  refine wl_op rfl rfl (ow_vr (vr_assign (v := .bool false) rfl) ?_)
  refine wl_nil ?_
  refine hK1 _ _ ?_
  refine cw_seq fun K2 hK2 => ?_
  refine cw_seq fun K3 hK3 => ?_
  refine cw_region ?_
  refine wl_op rfl rfl (ow_vr (vr_assign (v := .int .i64 0) rfl) ?_)
  refine wl_nil ?_
  refine hK3 _ _ ?_
  refine cw_block ?_
  refine cw_loop (fun m f w => ∃ (g : Nat → Value), f = (upd (upd g 0 (.slice none 0 0)) 3 (.int .i64 0)) ∧ (True) ∧ m = 0 ∧ Sat E (F) w) ⟨_, (reb (reb rfl rfl) rfl), ?_, rfl, hS⟩ ?_
  · trivial
  clear hS; rintro m f w ⟨g, rfl, hI0, rfl, hS⟩
  refine cw_seq fun K4 hK4 => ?_
  refine cw_seq fun K5 hK5 => ?_
  refine cw_region ?_
  refine wl_op rfl rfl (ow_vr (vr_move (v := .int .i64 0) rfl) ?_)
  refine wl_op rfl rfl (ow_vr (vr_move (v := .slice none 0 0) rfl) ?_)
  first | (refine wl_op rfl rfl (ow_vr (vr_len_sl Tryz.underlying34 rfl) ?_)) | (refine wl_op rfl rfl (ow_vr (vr_len_v (v := .slice none 0 0) Tryz.underlying34 rfl (by first | assumption | (refine Own.view ?_ (by assumption); exact fun _ => rfl) | exact OwnB.view (by assumption))) ?_))
  refine wl_op rfl rfl (ow_vr (vr_lss rfl rfl) ?_)
  refine wl_nil ?_
  refine hK5 _ _ ?_
  refine cw_cond_f rfl rfl (by simp) ?_
  refine cw_exit ?_
  refine hK2 _ _ ?_
  refine cw_seq fun K6 hK6 => ?_
  refine cw_region ?_
  refine wl_op rfl rfl (ow_vr (vr_assign (v := .bool true) rfl) ?_)
  refine wl_nil ?_
  refine hK6 _ _ ?_
  refine cw_ret ?_
  refine ret_one (fn := Tryz.f55) (n := 23) (t := 2) (.inl rfl) rfl rfl ?_
  exact ⟨rfl, hS⟩
theorem book_stillNodes : Fn Tryz.prog 38 [.pointer (some ⟨p, 0, none⟩)] [bookC p c0 c1 c2 c3 c4 c5 c6 c7] (fun r Δs => r = .bool true ∧ Δs = [bookC p c0 c1 c2 c3 c4 c5 c6 c7]) := by
  refine Fn.mk fun E F w hS => ?_
  refine returns_enter Tryz.func38 rfl Tryz.ntmps38 rfl ?_
  refine cw_seq fun K1 hK1 => ?_
  refine cw_region ?_
  refine wl_op rfl rfl (ow_vr (vr_assign (v := .bool false) rfl) ?_)
  refine wl_nil ?_
  refine hK1 _ _ ?_
  refine cw_seq fun K2 hK2 => ?_
  refine cw_seq fun K3 hK3 => ?_
  refine cw_region ?_
  refine wl_op rfl rfl (ow_vr (vr_assign (v := .int .i64 0) rfl) ?_)
  refine wl_nil ?_
  refine hK3 _ _ ?_
  refine cw_block ?_
  refine cw_loop (fun m f w => ∃ (g : Nat → Value), f = (upd (upd g 0 (.pointer (some ⟨p, 0, none⟩))) 3 (.int .i64 0)) ∧ (True) ∧ m = 0 ∧ Sat E (bookC p c0 c1 c2 c3 c4 c5 c6 c7 :: F) w) ⟨_, (reb (reb rfl rfl) rfl), ?_, rfl, hS⟩ ?_
  · trivial
  clear hS; rintro m f w ⟨g, rfl, hI0, rfl, hS⟩
  refine cw_seq fun K4 hK4 => ?_
  refine cw_seq fun K5 hK5 => ?_
  refine cw_region ?_
  refine wl_op rfl rfl (ow_vr (vr_move (v := .int .i64 0) rfl) ?_)
  refine wl_op rfl rfl (ow_vr (vr_move (v := .pointer (some ⟨p, 0, none⟩)) rfl) ?_)
  refine wl_op rfl rfl (ow_vr (vr_nilCheck rfl) ?_)
  first | (refine wl_op rfl rfl (ow_vr (vr_fieldAddr fo_37_10 rfl) ?_)) | (refine wl_op rfl rfl (ow_vr (vr_fieldAddrV fo_37_10 rfl (by first | assumption | (refine Own.view ?_ (by assumption); exact fun _ => rfl) | exact OwnB.view (by assumption)) (by first | omega | (simp <;> omega))) ?_))
  refine wl_op rfl rfl (ow_lr (S := Sat _ _) (lr_load1 Tryz.underlying35 rfl rfl (by first | exact Has.here | exact Has.there (Has.here) | exact Has.there (Has.there (Has.here)) | exact Has.there (Has.there (Has.there (Has.here))) | exact Has.there (Has.there (Has.there (Has.there (Has.here)))) | exact Has.there (Has.there (Has.there (Has.there (Has.there (Has.here))))) | exact Has.there (Has.there (Has.there (Has.there (Has.there (Has.there (Has.here)))))) | exact Has.there (Has.there (Has.there (Has.there (Has.there (Has.there (Has.there (Has.here)))))))) rfl) hS ?_)
  first | (refine wl_op rfl rfl (ow_vr (vr_len_sl Tryz.underlying35 rfl) ?_)) | (refine wl_op rfl rfl (ow_vr (vr_len_v Tryz.underlying35 rfl (by first | assumption | (refine Own.view ?_ (by assumption); exact fun _ => rfl) | exact OwnB.view (by assumption))) ?_))
  refine wl_op rfl rfl (ow_vr (vr_lss rfl rfl) ?_)
  refine wl_nil ?_
  refine hK5 _ _ ?_
  refine cw_cond_f rfl rfl (by simp) ?_
  refine cw_exit ?_
  refine hK2 _ _ ?_
  refine cw_seq fun K6 hK6 => ?_
  refine cw_region ?_
  refine wl_op rfl rfl (ow_vr (vr_assign (v := .bool true) rfl) ?_)
  refine wl_nil ?_
  refine hK6 _ _ ?_
  refine cw_ret ?_
  refine ret_one (fn := Tryz.f38) (n := 29) (t := 2) (.inl rfl) rfl rfl ?_
  exact ⟨[_], ⟨rfl, rfl⟩, hS⟩
theorem book_putNodes : Fn Tryz.prog 39 [.pointer (some ⟨p, 0, none⟩)] [bookC p c0 c1 c2 c3 c4 c5 c6 c7] (fun r Δs => Δs = [bookC p c0 c1 c2 c3 c4 c5 c6 c7]) := by
  refine Fn.mk fun E F w hS => ?_
  refine returns_enter Tryz.func39 rfl Tryz.ntmps39 rfl ?_
  refine cw_seq fun K1 hK1 => ?_
  refine cw_region ?_
  refine wl_op rfl rfl (ow_vr (vr_assign (v := .int .i64 0) rfl) ?_)
  refine wl_nil ?_
  refine hK1 _ _ ?_
  refine cw_block ?_
  refine cw_loop (fun m f w => ∃ (g : Nat → Value), f = (upd (upd g 0 (.pointer (some ⟨p, 0, none⟩))) 2 (.int .i64 0)) ∧ (True) ∧ m = 0 ∧ Sat E (bookC p c0 c1 c2 c3 c4 c5 c6 c7 :: F) w) ⟨_, (reb (reb rfl rfl) rfl), ?_, rfl, hS⟩ ?_
  · trivial
  clear hS; rintro m f w ⟨g, rfl, hI0, rfl, hS⟩
  refine cw_seq fun K2 hK2 => ?_
  refine cw_seq fun K3 hK3 => ?_
  refine cw_region ?_
  refine wl_op rfl rfl (ow_vr (vr_move (v := .int .i64 0) rfl) ?_)
  refine wl_op rfl rfl (ow_vr (vr_move (v := .pointer (some ⟨p, 0, none⟩)) rfl) ?_)
  refine wl_op rfl rfl (ow_vr (vr_nilCheck rfl) ?_)
  first | (refine wl_op rfl rfl (ow_vr (vr_fieldAddr fo_37_10 rfl) ?_)) | (refine wl_op rfl rfl (ow_vr (vr_fieldAddrV fo_37_10 rfl (by first | assumption | (refine Own.view ?_ (by assumption); exact fun _ => rfl) | exact OwnB.view (by assumption)) (by first | omega | (simp <;> omega))) ?_))
  refine wl_op rfl rfl (ow_lr (S := Sat _ _) (lr_load1 Tryz.underlying35 rfl rfl (by first | exact Has.here | exact Has.there (Has.here) | exact Has.there (Has.there (Has.here)) | exact Has.there (Has.there (Has.there (Has.here))) | exact Has.there (Has.there (Has.there (Has.there (Has.here)))) | exact Has.there (Has.there (Has.there (Has.there (Has.there (Has.here))))) | exact Has.there (Has.there (Has.there (Has.there (Has.there (Has.there (Has.here)))))) | exact Has.there (Has.there (Has.there (Has.there (Has.there (Has.there (Has.there (Has.here)))))))) rfl) hS ?_)
  first | (refine wl_op rfl rfl (ow_vr (vr_len_sl Tryz.underlying35 rfl) ?_)) | (refine wl_op rfl rfl (ow_vr (vr_len_v Tryz.underlying35 rfl (by first | assumption | (refine Own.view ?_ (by assumption); exact fun _ => rfl) | exact OwnB.view (by assumption))) ?_))
  refine wl_op rfl rfl (ow_vr (vr_lss rfl rfl) ?_)
  refine wl_nil ?_
  refine hK3 _ _ ?_
  refine cw_cond_f rfl rfl (by simp) ?_
  refine cw_exit ?_
  refine thenF_exit (thenF_exit ((inB_exit ?_)))
  refine ret_none (fn := Tryz.f39) (n := 43) (.inr rfl) rfl ?_
  exact ⟨[_], rfl, hS⟩
theorem book_growNodes : Fn Tryz.prog 50 [.pointer (some ⟨p, 0, none⟩)] [bookC p c0 c1 c2 c3 c4 c5 c6 c7] (fun r Δs => r = .slice none 0 0 ∧ Δs = [bookC p c0 c1 c2 c3 c4 c5 c6 c7]) := by
  refine Fn.mk fun E F w hS => ?_
  refine returns_enter Tryz.func50 rfl Tryz.ntmps50 rfl ?_
  refine cw_seq fun K1 hK1 => ?_
  refine cw_region ?_
  refine wl_op rfl rfl (ow_vr (vr_assign (v := .slice none 0 0) rfl) ?_)
  refine wl_nil ?_
  refine hK1 _ _ ?_
  refine cw_seq fun K2 hK2 => ?_
  refine cw_region ?_
  refine wl_op rfl rfl (ow_vr (vr_assign (v := .slice none 0 0) rfl) ?_)
  refine wl_nil ?_
  refine hK2 _ _ ?_
  refine cw_seq fun K3 hK3 => ?_
  refine cw_seq fun K4 hK4 => ?_
  refine cw_region ?_
  refine wl_op rfl rfl (ow_vr (vr_assign (v := .int .i64 0) rfl) ?_)
  refine wl_nil ?_
  refine hK4 _ _ ?_
  refine cw_block ?_
  refine cw_loop (fun m f w => ∃ (g : Nat → Value), f = (upd (upd (upd g 0 (.pointer (some ⟨p, 0, none⟩))) 3 (.slice none 0 0)) 4 (.int .i64 0)) ∧ (True) ∧ m = 0 ∧ Sat E (bookC p c0 c1 c2 c3 c4 c5 c6 c7 :: F) w) ⟨_, (reb (reb (reb rfl rfl) rfl) rfl), ?_, rfl, hS⟩ ?_
  · trivial
  clear hS; rintro m f w ⟨g, rfl, hI0, rfl, hS⟩
  refine cw_seq fun K5 hK5 => ?_
  refine cw_seq fun K6 hK6 => ?_
  refine cw_region ?_
  refine wl_op rfl rfl (ow_vr (vr_move (v := .int .i64 0) rfl) ?_)
  refine wl_op rfl rfl (ow_vr (vr_move (v := .pointer (some ⟨p, 0, none⟩)) rfl) ?_)
  refine wl_op rfl rfl (ow_vr (vr_nilCheck rfl) ?_)
  first | (refine wl_op rfl rfl (ow_vr (vr_fieldAddr fo_37_10 rfl) ?_)) | (refine wl_op rfl rfl (ow_vr (vr_fieldAddrV fo_37_10 rfl (by first | assumption | (refine Own.view ?_ (by assumption); exact fun _ => rfl) | exact OwnB.view (by assumption)) (by first | omega | (simp <;> omega))) ?_))
  refine wl_op rfl rfl (ow_lr (S := Sat _ _) (lr_load1 Tryz.underlying35 rfl rfl (by first | exact Has.here | exact Has.there (Has.here) | exact Has.there (Has.there (Has.here)) | exact Has.there (Has.there (Has.there (Has.here))) | exact Has.there (Has.there (Has.there (Has.there (Has.here)))) | exact Has.there (Has.there (Has.there (Has.there (Has.there (Has.here))))) | exact Has.there (Has.there (Has.there (Has.there (Has.there (Has.there (Has.here)))))) | exact Has.there (Has.there (Has.there (Has.there (Has.there (Has.there (Has.there (Has.here)))))))) rfl) hS ?_)
  first | (refine wl_op rfl rfl (ow_vr (vr_len_sl Tryz.underlying35 rfl) ?_)) | (refine wl_op rfl rfl (ow_vr (vr_len_v Tryz.underlying35 rfl (by first | assumption | (refine Own.view ?_ (by assumption); exact fun _ => rfl) | exact OwnB.view (by assumption))) ?_))
  refine wl_op rfl rfl (ow_vr (vr_lss rfl rfl) ?_)
  refine wl_nil ?_
  refine hK6 _ _ ?_
  refine cw_cond_f rfl rfl (by simp) ?_
  refine cw_exit ?_
  refine hK3 _ _ ?_
  refine cw_seq fun K7 hK7 => ?_
  refine cw_region ?_
  refine wl_op rfl rfl (ow_vr (vr_move (v := .slice none 0 0) rfl) ?_)
  refine wl_op rfl rfl (ow_vr (vr_assign (v := .slice none 0 0) rfl) ?_)
  refine wl_nil ?_
  refine hK7 _ _ ?_
  refine cw_ret ?_
  refine ret_one (fn := Tryz.f50) (n := 43) (t := 2) (.inl rfl) rfl rfl ?_
  exact ⟨[_], ⟨rfl, rfl⟩, hS⟩
theorem book_markedNodes : FnV Tryz.prog 56 [.slice none 0 0] (.bool true) := by
  refine FnV.mk fun E F w hS => ?_
  refine returns_enter Tryz.func56 rfl Tryz.ntmps56 rfl ?_
  refine cw_seq fun K1 hK1 => ?_
  refine cw_region ?_
  refine wl_op rfl rfl (ow_vr (vr_assign (v := .bool false) rfl) ?_)
  refine wl_nil ?_
  refine hK1 _ _ ?_
  refine cw_seq fun K2 hK2 => ?_
  refine cw_seq fun K3 hK3 => ?_
  refine cw_region ?_
  refine wl_op rfl rfl (ow_vr (vr_assign (v := .int .i64 0) rfl) ?_)
  refine wl_nil ?_
  refine hK3 _ _ ?_
  refine cw_block ?_
  refine cw_loop (fun m f w => ∃ (g : Nat → Value), f = (upd (upd g 0 (.slice none 0 0)) 3 (.int .i64 0)) ∧ (True) ∧ m = 0 ∧ Sat E (F) w) ⟨_, (reb (reb rfl rfl) rfl), ?_, rfl, hS⟩ ?_
  · trivial
  clear hS; rintro m f w ⟨g, rfl, hI0, rfl, hS⟩
  refine cw_seq fun K4 hK4 => ?_
  refine cw_seq fun K5 hK5 => ?_
  refine cw_region ?_
  refine wl_op rfl rfl (ow_vr (vr_move (v := .int .i64 0) rfl) ?_)
  refine wl_op rfl rfl (ow_vr (vr_move (v := .slice none 0 0) rfl) ?_)
  first | (refine wl_op rfl rfl (ow_vr (vr_len_sl Tryz.underlying35 rfl) ?_)) | (refine wl_op rfl rfl (ow_vr (vr_len_v (v := .slice none 0 0) Tryz.underlying35 rfl (by first | assumption | (refine Own.view ?_ (by assumption); exact fun _ => rfl) | exact OwnB.view (by assumption))) ?_))
  refine wl_op rfl rfl (ow_vr (vr_lss rfl rfl) ?_)
  refine wl_nil ?_
  refine hK5 _ _ ?_
  refine cw_cond_f rfl rfl (by simp) ?_
  refine cw_exit ?_
  refine hK2 _ _ ?_
  refine cw_seq fun K6 hK6 => ?_
  refine cw_region ?_
  refine wl_op rfl rfl (ow_vr (vr_assign (v := .bool true) rfl) ?_)
  refine wl_nil ?_
  refine hK6 _ _ ?_
  refine cw_ret ?_
  refine ret_one (fn := Tryz.f56) (n := 23) (t := 2) (.inl rfl) rfl rfl ?_
  exact ⟨rfl, hS⟩
set_option maxHeartbeats 1000000 in
theorem book_Apart {xt : List (List (List UInt8))} {It Dt : Chunk} (ht : Kept 9 109 1 encS c0 c1 xt It Dt) {xi : List (List (Int))} {Ii Di : Chunk} (hi : Kept 3 38 1 encI c2 c3 xi Ii Di) {xc : List (List (Int × Int))} {Ic Dc : Chunk} (hc : Kept 55 28 2 encC c4 c5 xc Ic Dc) {xe : List (List (Entr))} {Ie De : Chunk} (he : Kept 74 63 5 encE c6 c7 xe Ie De) :
    Fn Tryz.prog 22 [.pointer (some ⟨p, 0, none⟩)] [bookC p c0 c1 c2 c3 c4 c5 c6 c7, Dt, Di, Dc, De] (fun r Δs => r = .bool true) := by
  refine Fn.mk fun E F w hS => ?_
  replace hS : Sat E (bookC p c0 c1 c2 c3 c4 c5 c6 c7 :: Dt :: Di :: Dc :: De :: F) w := hS
  refine returns_enter Tryz.func22 rfl Tryz.ntmps22 rfl ?_
  refine cw_seq fun K1 hK1 => ?_
  refine cw_region ?_
  refine wl_op rfl rfl (ow_vr (vr_assign (v := .bool false) rfl) ?_)
  refine wl_nil ?_
  refine hK1 _ _ ?_
  refine cw_seq fun K2 hK2 => ?_
  refine cw_seq fun K3 hK3 => ?_
  refine cw_region ?_
  refine wl_op rfl rfl (ow_vr (vr_move (v := .pointer _) rfl) ?_)
  refine wl_op rfl rfl (ow_fnm (vs := [.pointer _]) en_33 rfl hS (book_stillTexts ht) (by repeat (first | exact needs0 | (refine needsC ?_ ?_; · (repeat (first | exact List.mem_cons_self | assumption | refine List.mem_cons_of_mem _ ?_))))) ?_)
  clear hS; rintro v10 _ w ⟨rfl, rfl⟩ hS; (try simp only [List.cons_append, List.nil_append] at hS)
  refine wl_op rfl rfl (ow_vr (vr_not rfl) ?_)
  refine wl_nil ?_
  refine hK3 _ _ ?_
  refine cw_cond_f rfl rfl (rfl) ?_
  refine cw_skip ?_
  refine hK2 _ _ ?_
  refine cw_seq fun K4 hK4 => ?_
  refine cw_seq fun K5 hK5 => ?_
  refine cw_region ?_
  refine wl_op rfl rfl (ow_vr (vr_move (v := .pointer _) rfl) ?_)
  refine wl_op rfl rfl (ow_fnm (vs := [.pointer _]) en_34 rfl hS (book_stillInts hi) (by repeat (first | exact needs0 | (refine needsC ?_ ?_; · (repeat (first | exact List.mem_cons_self | assumption | refine List.mem_cons_of_mem _ ?_))))) ?_)
  clear hS; rintro v13 _ w ⟨rfl, rfl⟩ hS; (try simp only [List.cons_append, List.nil_append] at hS)
  refine wl_op rfl rfl (ow_vr (vr_not rfl) ?_)
  refine wl_nil ?_
  refine hK5 _ _ ?_
  refine cw_cond_f rfl rfl (rfl) ?_
  refine cw_skip ?_
  refine hK4 _ _ ?_
  refine cw_seq fun K6 hK6 => ?_
  refine cw_seq fun K7 hK7 => ?_
  refine cw_region ?_
  refine wl_op rfl rfl (ow_vr (vr_move (v := .pointer _) rfl) ?_)
  refine wl_op rfl rfl (ow_fnm (vs := [.pointer _]) en_35 rfl hS (book_stillChanges hc) (by repeat (first | exact needs0 | (refine needsC ?_ ?_; · (repeat (first | exact List.mem_cons_self | assumption | refine List.mem_cons_of_mem _ ?_))))) ?_)
  clear hS; rintro v16 _ w ⟨rfl, rfl⟩ hS; (try simp only [List.cons_append, List.nil_append] at hS)
  refine wl_op rfl rfl (ow_vr (vr_not rfl) ?_)
  refine wl_nil ?_
  refine hK7 _ _ ?_
  refine cw_cond_f rfl rfl (rfl) ?_
  refine cw_skip ?_
  refine hK6 _ _ ?_
  refine cw_seq fun K8 hK8 => ?_
  refine cw_seq fun K9 hK9 => ?_
  refine cw_region ?_
  refine wl_op rfl rfl (ow_vr (vr_move (v := .pointer _) rfl) ?_)
  refine wl_op rfl rfl (ow_fnm (vs := [.pointer _]) en_36 rfl hS (book_stillEntries he) (by repeat (first | exact needs0 | (refine needsC ?_ ?_; · (repeat (first | exact List.mem_cons_self | assumption | refine List.mem_cons_of_mem _ ?_))))) ?_)
  clear hS; rintro v19 _ w ⟨rfl, rfl⟩ hS; (try simp only [List.cons_append, List.nil_append] at hS)
  refine wl_op rfl rfl (ow_vr (vr_not rfl) ?_)
  refine wl_nil ?_
  refine hK9 _ _ ?_
  refine cw_cond_f rfl rfl (rfl) ?_
  refine cw_skip ?_
  refine hK8 _ _ ?_
  refine cw_seq fun K10 hK10 => ?_
  refine cw_seq fun K11 hK11 => ?_
  refine cw_region ?_
  refine wl_op rfl rfl (ow_vr (vr_move (v := .pointer _) rfl) ?_)
  refine wl_op rfl rfl (ow_fn (vs := [.pointer _]) en_37 rfl hS (book_stillCodes) ?_)
  clear hS; rintro v22 _ w ⟨rfl, rfl⟩ hS; (try simp only [List.cons_append, List.nil_append] at hS)
  refine wl_op rfl rfl (ow_vr (vr_not rfl) ?_)
  refine wl_nil ?_
  refine hK11 _ _ ?_
  refine cw_cond_f rfl rfl (rfl) ?_
  refine cw_skip ?_
  refine hK10 _ _ ?_
  refine cw_seq fun K12 hK12 => ?_
  refine cw_seq fun K13 hK13 => ?_
  refine cw_region ?_
  refine wl_op rfl rfl (ow_vr (vr_move (v := .pointer _) rfl) ?_)
  refine wl_op rfl rfl (ow_fn (vs := [.pointer _]) en_38 rfl hS (book_stillNodes) ?_)
  clear hS; rintro v25 _ w ⟨rfl, rfl⟩ hS; (try simp only [List.cons_append, List.nil_append] at hS)
  refine wl_op rfl rfl (ow_vr (vr_not rfl) ?_)
  refine wl_nil ?_
  refine hK13 _ _ ?_
  refine cw_cond_f rfl rfl (rfl) ?_
  refine cw_skip ?_
  refine hK12 _ _ ?_
  refine cw_seq fun K14 hK14 => ?_
  refine cw_region ?_
  refine wl_op rfl rfl (ow_vr (vr_move (v := .pointer _) rfl) ?_)
  refine wl_op rfl rfl (ow_fn (vs := [.pointer _]) en_39 rfl hS (book_putNodes) ?_)
  clear hS; rintro v28 _ w rfl hS; (try simp only [List.cons_append, List.nil_append] at hS)
  refine wl_nil ?_
  refine hK14 _ _ ?_
  refine cw_seq fun K15 hK15 => ?_
  refine cw_region ?_
  refine wl_op rfl rfl (ow_vr (vr_move (v := .pointer _) rfl) ?_)
  refine wl_op rfl rfl (ow_fnm (vs := [.pointer _]) en_40 rfl hS ((book_putTexts ht).toM) (by repeat (first | exact needs0 | (refine needsC ?_ ?_; · (repeat (first | exact List.mem_cons_self | assumption | refine List.mem_cons_of_mem _ ?_))))) ?_)
  clear hS; rintro v30 _ w ⟨Dt2, rfl, ht2⟩ hS; (try simp only [List.cons_append, List.nil_append] at hS)
  refine wl_nil ?_
  refine hK15 _ _ ?_
  refine cw_seq fun K16 hK16 => ?_
  replace hS := hS.rot4
  refine cw_region ?_
  refine wl_op rfl rfl (ow_vr (vr_move (v := .pointer _) rfl) ?_)
  refine wl_op rfl rfl (ow_fnm (vs := [.pointer _]) en_41 rfl hS ((book_putInts hi).toM) (by repeat (first | exact needs0 | (refine needsC ?_ ?_; · (repeat (first | exact List.mem_cons_self | assumption | refine List.mem_cons_of_mem _ ?_))))) ?_)
  clear hS; rintro v32 _ w ⟨Di2, rfl, hi2⟩ hS; (try simp only [List.cons_append, List.nil_append] at hS)
  refine wl_nil ?_
  refine hK16 _ _ ?_
  refine cw_seq fun K17 hK17 => ?_
  replace hS := hS.rot4
  refine cw_region ?_
  refine wl_op rfl rfl (ow_vr (vr_move (v := .pointer _) rfl) ?_)
  refine wl_op rfl rfl (ow_fnm (vs := [.pointer _]) en_42 rfl hS ((book_putChanges hc).toM) (by repeat (first | exact needs0 | (refine needsC ?_ ?_; · (repeat (first | exact List.mem_cons_self | assumption | refine List.mem_cons_of_mem _ ?_))))) ?_)
  clear hS; rintro v34 _ w ⟨Dc2, rfl, hc2⟩ hS; (try simp only [List.cons_append, List.nil_append] at hS)
  refine wl_nil ?_
  refine hK17 _ _ ?_
  refine cw_seq fun K18 hK18 => ?_
  replace hS := hS.rot4
  refine cw_region ?_
  refine wl_op rfl rfl (ow_vr (vr_move (v := .pointer _) rfl) ?_)
  refine wl_op rfl rfl (ow_fnm (vs := [.pointer _]) en_43 rfl hS ((book_putEntries he).toM) (by repeat (first | exact needs0 | (refine needsC ?_ ?_; · (repeat (first | exact List.mem_cons_self | assumption | refine List.mem_cons_of_mem _ ?_))))) ?_)
  clear hS; rintro v36 _ w ⟨De2, rfl, he2⟩ hS; (try simp only [List.cons_append, List.nil_append] at hS)
  refine wl_nil ?_
  refine hK18 _ _ ?_
  refine cw_seq fun K19 hK19 => ?_
  replace hS := hS.rot4
  refine cw_region ?_
  refine wl_op rfl rfl (ow_vr (vr_move (v := .pointer _) rfl) ?_)
  refine wl_op rfl rfl (ow_fn (vs := [.pointer _]) en_44 rfl hS (book_putCodes) ?_)
  clear hS; rintro v38 _ w rfl hS; (try simp only [List.cons_append, List.nil_append] at hS)
  refine wl_nil ?_
  refine hK19 _ _ ?_
  refine cw_seq fun K20 hK20 => ?_
  refine cw_region ?_
  refine wl_op rfl rfl (ow_vr (vr_move (v := .pointer _) rfl) ?_)
  refine wl_op rfl rfl (ow_fnm (vs := [.pointer _]) en_45 rfl hS ((book_growTexts ht2).toM) (by repeat (first | exact needs0 | (refine needsC ?_ ?_; · (repeat (first | exact List.mem_cons_self | assumption | refine List.mem_cons_of_mem _ ?_))))) ?_)
  clear hS; rintro v40 _ w ⟨Dt3, rfl, ht3, ht4⟩ hS; (try simp only [List.cons_append, List.nil_append] at hS)
  refine wl_op rfl rfl (ow_vr (vr_assign (v := v40) rfl) ?_)
  refine wl_nil ?_
  refine hK20 _ _ ?_
  refine cw_seq fun K21 hK21 => ?_
  replace hS := hS.rot4
  refine cw_region ?_
  refine wl_op rfl rfl (ow_vr (vr_move (v := .pointer _) rfl) ?_)
  refine wl_op rfl rfl (ow_fnm (vs := [.pointer _]) en_46 rfl hS ((book_growInts hi2).toM) (by repeat (first | exact needs0 | (refine needsC ?_ ?_; · (repeat (first | exact List.mem_cons_self | assumption | refine List.mem_cons_of_mem _ ?_))))) ?_)
  clear hS; rintro v42 _ w ⟨Di3, rfl, hi3, hi4⟩ hS; (try simp only [List.cons_append, List.nil_append] at hS)
  refine wl_op rfl rfl (ow_vr (vr_assign (v := v42) rfl) ?_)
  refine wl_nil ?_
  refine hK21 _ _ ?_
  refine cw_seq fun K22 hK22 => ?_
  replace hS := hS.rot4
  refine cw_region ?_
  refine wl_op rfl rfl (ow_vr (vr_move (v := .pointer _) rfl) ?_)
  refine wl_op rfl rfl (ow_fnm (vs := [.pointer _]) en_47 rfl hS ((book_growChanges hc2).toM) (by repeat (first | exact needs0 | (refine needsC ?_ ?_; · (repeat (first | exact List.mem_cons_self | assumption | refine List.mem_cons_of_mem _ ?_))))) ?_)
  clear hS; rintro v44 _ w ⟨Dc3, rfl, hc3, hc4⟩ hS; (try simp only [List.cons_append, List.nil_append] at hS)
  refine wl_op rfl rfl (ow_vr (vr_assign (v := v44) rfl) ?_)
  refine wl_nil ?_
  refine hK22 _ _ ?_
  refine cw_seq fun K23 hK23 => ?_
  replace hS := hS.rot4
  refine cw_region ?_
  refine wl_op rfl rfl (ow_vr (vr_move (v := .pointer _) rfl) ?_)
  refine wl_op rfl rfl (ow_fnm (vs := [.pointer _]) en_48 rfl hS ((book_growEntries he2).toM) (by repeat (first | exact needs0 | (refine needsC ?_ ?_; · (repeat (first | exact List.mem_cons_self | assumption | refine List.mem_cons_of_mem _ ?_))))) ?_)
  clear hS; rintro v46 _ w ⟨De3, rfl, he3, he4⟩ hS; (try simp only [List.cons_append, List.nil_append] at hS)
  refine wl_op rfl rfl (ow_vr (vr_assign (v := v46) rfl) ?_)
  refine wl_nil ?_
  refine hK23 _ _ ?_
  refine cw_seq fun K24 hK24 => ?_
  replace hS := hS.rot4
  refine cw_region ?_
  refine wl_op rfl rfl (ow_vr (vr_move (v := .pointer _) rfl) ?_)
  refine wl_op rfl rfl (ow_fn (vs := [.pointer _]) en_49 rfl hS (book_growCodes) ?_)
  clear hS; rintro v48 _ w ⟨rfl, rfl⟩ hS; (try simp only [List.cons_append, List.nil_append] at hS)
  refine wl_op rfl rfl (ow_vr (vr_assign (v := .slice _ _ _) rfl) ?_)
  refine wl_nil ?_
  refine hK24 _ _ ?_
  refine cw_seq fun K25 hK25 => ?_
  refine cw_region ?_
  refine wl_op rfl rfl (ow_vr (vr_move (v := .pointer _) rfl) ?_)
  refine wl_op rfl rfl (ow_fn (vs := [.pointer _]) en_50 rfl hS (book_growNodes) ?_)
  clear hS; rintro v50 _ w ⟨rfl, rfl⟩ hS; (try simp only [List.cons_append, List.nil_append] at hS)
  refine wl_op rfl rfl (ow_vr (vr_assign (v := .slice _ _ _) rfl) ?_)
  refine wl_nil ?_
  refine hK25 _ _ ?_
  refine cw_seq fun K26 hK26 => ?_
  refine cw_region ?_
  refine wl_op rfl rfl (ow_vr (vr_move (v := v40) rfl) ?_)
  refine wl_op rfl rfl (ow_fng (vs := [v40]) en_51 rfl hS (book_markedTexts (by omega) ht4) (by repeat (first | exact needs0 | (refine needsC ?_ ?_; · (repeat (first | exact List.mem_cons_self | assumption | refine List.mem_cons_of_mem _ ?_))))) ?_)
  clear hS; rintro v52 _ w ⟨rfl, rfl⟩ hS; (try simp only [List.cons_append, List.nil_append] at hS)
  refine wl_op rfl rfl (ow_vr (vr_move (v := .bool _) rfl) ?_)
  refine wl_known 53 rfl (c := true) (rfl) ?_
  refine wl_yes rfl rfl rfl rfl rfl (ow_vr (vr_move (v := .pointer _) rfl) ?_)
  refine wl_yes rfl rfl rfl rfl rfl (ow_vr (vr_nilCheck rfl) ?_)
  first | (refine wl_yes rfl rfl rfl rfl rfl (ow_vr (vr_fieldAddr fo_37_0 rfl) ?_)) | (refine wl_yes rfl rfl rfl rfl rfl (ow_vr (vr_fieldAddrV fo_37_0 rfl (by first | assumption | (refine Own.view ?_ (by assumption); exact fun _ => rfl) | exact OwnB.view (by assumption)) (by first | omega | (simp <;> omega))) ?_))
  refine wl_yes rfl rfl rfl rfl rfl (ow_lr (S := Sat _ _) (lr_load1 (v := c0) Tryz.underlying30 rfl rfl (by exact Has.here) rfl) hS ?_)
  refine wl_yes rfl rfl rfl rfl rfl (ow_fng (vs := [c0]) en_51 rfl hS (book_markedTexts (by omega) ht3) (by repeat (first | exact needs0 | (refine needsC ?_ ?_; · (repeat (first | exact List.mem_cons_self | assumption | refine List.mem_cons_of_mem _ ?_))))) ?_)
  clear hS; rintro v58 _ w ⟨rfl, rfl⟩ hS; (try simp only [List.cons_append, List.nil_append] at hS)
  refine wl_op rfl rfl (ow_vr (vr_pick (b := true) (v := .bool _) rfl rfl) ?_)
  refine wl_op rfl rfl (ow_vr (vr_move (v := .bool _) rfl) ?_)
  refine wl_known 60 rfl (c := true) (rfl) ?_
  refine wl_yes rfl rfl rfl rfl rfl (ow_vr (vr_move (v := v42) rfl) ?_)
  refine wl_yes rfl rfl rfl rfl rfl (ow_fng (vs := [v42]) en_52 rfl hS (book_markedInts (by omega) hi4) (by repeat (first | exact needs0 | (refine needsC ?_ ?_; · (repeat (first | exact List.mem_cons_self | assumption | refine List.mem_cons_of_mem _ ?_))))) ?_)
  clear hS; rintro v62 _ w ⟨rfl, rfl⟩ hS; (try simp only [List.cons_append, List.nil_append] at hS)
  refine wl_op rfl rfl (ow_vr (vr_pick (b := true) (v := .bool _) rfl rfl) ?_)
  refine wl_op rfl rfl (ow_vr (vr_move (v := .bool _) rfl) ?_)
  refine wl_known 64 rfl (c := true) (rfl) ?_
  refine wl_yes rfl rfl rfl rfl rfl (ow_vr (vr_move (v := .pointer _) rfl) ?_)
  refine wl_yes rfl rfl rfl rfl rfl (ow_vr (vr_nilCheck rfl) ?_)
  first | (refine wl_yes rfl rfl rfl rfl rfl (ow_vr (vr_fieldAddr fo_37_2 rfl) ?_)) | (refine wl_yes rfl rfl rfl rfl rfl (ow_vr (vr_fieldAddrV fo_37_2 rfl (by first | assumption | (refine Own.view ?_ (by assumption); exact fun _ => rfl) | exact OwnB.view (by assumption)) (by first | omega | (simp <;> omega))) ?_))
  refine wl_yes rfl rfl rfl rfl rfl (ow_lr (S := Sat _ _) (lr_load1 (v := c2) Tryz.underlying31 rfl rfl (by exact Has.here) rfl) hS ?_)
  refine wl_yes rfl rfl rfl rfl rfl (ow_fng (vs := [c2]) en_52 rfl hS (book_markedInts (by omega) hi3) (by repeat (first | exact needs0 | (refine needsC ?_ ?_; · (repeat (first | exact List.mem_cons_self | assumption | refine List.mem_cons_of_mem _ ?_))))) ?_)
  clear hS; rintro v69 _ w ⟨rfl, rfl⟩ hS; (try simp only [List.cons_append, List.nil_append] at hS)
  refine wl_op rfl rfl (ow_vr (vr_pick (b := true) (v := .bool _) rfl rfl) ?_)
  refine wl_op rfl rfl (ow_vr (vr_move (v := .bool _) rfl) ?_)
  refine wl_known 71 rfl (c := true) (rfl) ?_
  refine wl_yes rfl rfl rfl rfl rfl (ow_vr (vr_move (v := v44) rfl) ?_)
  refine wl_yes rfl rfl rfl rfl rfl (ow_fng (vs := [v44]) en_53 rfl hS (book_markedChanges (by omega) hc4) (by repeat (first | exact needs0 | (refine needsC ?_ ?_; · (repeat (first | exact List.mem_cons_self | assumption | refine List.mem_cons_of_mem _ ?_))))) ?_)
  clear hS; rintro v73 _ w ⟨rfl, rfl⟩ hS; (try simp only [List.cons_append, List.nil_append] at hS)
  refine wl_op rfl rfl (ow_vr (vr_pick (b := true) (v := .bool _) rfl rfl) ?_)
  refine wl_op rfl rfl (ow_vr (vr_move (v := .bool _) rfl) ?_)
  refine wl_known 75 rfl (c := true) (rfl) ?_
  refine wl_yes rfl rfl rfl rfl rfl (ow_vr (vr_move (v := .pointer _) rfl) ?_)
  refine wl_yes rfl rfl rfl rfl rfl (ow_vr (vr_nilCheck rfl) ?_)
  first | (refine wl_yes rfl rfl rfl rfl rfl (ow_vr (vr_fieldAddr fo_37_4 rfl) ?_)) | (refine wl_yes rfl rfl rfl rfl rfl (ow_vr (vr_fieldAddrV fo_37_4 rfl (by first | assumption | (refine Own.view ?_ (by assumption); exact fun _ => rfl) | exact OwnB.view (by assumption)) (by first | omega | (simp <;> omega))) ?_))
  refine wl_yes rfl rfl rfl rfl rfl (ow_lr (S := Sat _ _) (lr_load1 (v := c4) Tryz.underlying32 rfl rfl (by exact Has.here) rfl) hS ?_)
  refine wl_yes rfl rfl rfl rfl rfl (ow_fng (vs := [c4]) en_53 rfl hS (book_markedChanges (by omega) hc3) (by repeat (first | exact needs0 | (refine needsC ?_ ?_; · (repeat (first | exact List.mem_cons_self | assumption | refine List.mem_cons_of_mem _ ?_))))) ?_)
  clear hS; rintro v80 _ w ⟨rfl, rfl⟩ hS; (try simp only [List.cons_append, List.nil_append] at hS)
  refine wl_op rfl rfl (ow_vr (vr_pick (b := true) (v := .bool _) rfl rfl) ?_)
  refine wl_op rfl rfl (ow_vr (vr_move (v := .bool _) rfl) ?_)
  refine wl_known 82 rfl (c := true) (rfl) ?_
  refine wl_yes rfl rfl rfl rfl rfl (ow_vr (vr_move (v := v46) rfl) ?_)
  refine wl_yes rfl rfl rfl rfl rfl (ow_fng (vs := [v46]) en_54 rfl hS (book_markedEntries (by omega) he4) (by repeat (first | exact needs0 | (refine needsC ?_ ?_; · (repeat (first | exact List.mem_cons_self | assumption | refine List.mem_cons_of_mem _ ?_))))) ?_)
  clear hS; rintro v84 _ w ⟨rfl, rfl⟩ hS; (try simp only [List.cons_append, List.nil_append] at hS)
  refine wl_op rfl rfl (ow_vr (vr_pick (b := true) (v := .bool _) rfl rfl) ?_)
  refine wl_op rfl rfl (ow_vr (vr_move (v := .bool _) rfl) ?_)
  refine wl_known 86 rfl (c := true) (rfl) ?_
  refine wl_yes rfl rfl rfl rfl rfl (ow_vr (vr_move (v := .pointer _) rfl) ?_)
  refine wl_yes rfl rfl rfl rfl rfl (ow_vr (vr_nilCheck rfl) ?_)
  first | (refine wl_yes rfl rfl rfl rfl rfl (ow_vr (vr_fieldAddr fo_37_6 rfl) ?_)) | (refine wl_yes rfl rfl rfl rfl rfl (ow_vr (vr_fieldAddrV fo_37_6 rfl (by first | assumption | (refine Own.view ?_ (by assumption); exact fun _ => rfl) | exact OwnB.view (by assumption)) (by first | omega | (simp <;> omega))) ?_))
  refine wl_yes rfl rfl rfl rfl rfl (ow_lr (S := Sat _ _) (lr_load1 (v := c6) Tryz.underlying33 rfl rfl (by exact Has.here) rfl) hS ?_)
  refine wl_yes rfl rfl rfl rfl rfl (ow_fng (vs := [c6]) en_54 rfl hS (book_markedEntries (by omega) he3) (by repeat (first | exact needs0 | (refine needsC ?_ ?_; · (repeat (first | exact List.mem_cons_self | assumption | refine List.mem_cons_of_mem _ ?_))))) ?_)
  clear hS; rintro v91 _ w ⟨rfl, rfl⟩ hS; (try simp only [List.cons_append, List.nil_append] at hS)
  refine wl_op rfl rfl (ow_vr (vr_pick (b := true) (v := .bool _) rfl rfl) ?_)
  refine wl_op rfl rfl (ow_vr (vr_move (v := .bool _) rfl) ?_)
  refine wl_known 93 rfl (c := true) (rfl) ?_
  refine wl_yes rfl rfl rfl rfl rfl (ow_vr (vr_move (v := .slice none 0 0) rfl) ?_)
  refine wl_yes rfl rfl rfl rfl rfl (ow_fn (vs := [.slice none 0 0]) en_55 rfl hS (book_markedCodes) ?_)
  clear hS; rintro v95 _ w ⟨rfl, rfl⟩ hS; (try simp only [List.cons_append, List.nil_append] at hS)
  refine wl_op rfl rfl (ow_vr (vr_pick (b := true) (v := .bool _) rfl rfl) ?_)
  refine wl_op rfl rfl (ow_vr (vr_move (v := .bool _) rfl) ?_)
  refine wl_known 97 rfl (c := true) (rfl) ?_
  refine wl_yes rfl rfl rfl rfl rfl (ow_vr (vr_move (v := .pointer _) rfl) ?_)
  refine wl_yes rfl rfl rfl rfl rfl (ow_vr (vr_nilCheck rfl) ?_)
  first | (refine wl_yes rfl rfl rfl rfl rfl (ow_vr (vr_fieldAddr fo_37_8 rfl) ?_)) | (refine wl_yes rfl rfl rfl rfl rfl (ow_vr (vr_fieldAddrV fo_37_8 rfl (by first | assumption | (refine Own.view ?_ (by assumption); exact fun _ => rfl) | exact OwnB.view (by assumption)) (by first | omega | (simp <;> omega))) ?_))
  refine wl_yes rfl rfl rfl rfl rfl (ow_lr (S := Sat _ _) (lr_load1 Tryz.underlying34 rfl rfl (by first | exact Has.here | exact Has.there (Has.here) | exact Has.there (Has.there (Has.here)) | exact Has.there (Has.there (Has.there (Has.here))) | exact Has.there (Has.there (Has.there (Has.there (Has.here)))) | exact Has.there (Has.there (Has.there (Has.there (Has.there (Has.here))))) | exact Has.there (Has.there (Has.there (Has.there (Has.there (Has.there (Has.here)))))) | exact Has.there (Has.there (Has.there (Has.there (Has.there (Has.there (Has.there (Has.here)))))))) rfl) hS ?_)
  refine wl_yes rfl rfl rfl rfl rfl (ow_fn (vs := [.slice _ _ _]) en_55 rfl hS (book_markedCodes) ?_)
  clear hS; rintro v102 _ w ⟨rfl, rfl⟩ hS; (try simp only [List.cons_append, List.nil_append] at hS)
  refine wl_op rfl rfl (ow_vr (vr_pick (b := true) (v := .bool _) rfl rfl) ?_)
  refine wl_op rfl rfl (ow_vr (vr_move (v := .bool _) rfl) ?_)
  refine wl_known 104 rfl (c := true) (rfl) ?_
  refine wl_yes rfl rfl rfl rfl rfl (ow_vr (vr_move (v := .slice none 0 0) rfl) ?_)
  refine wl_yes rfl rfl rfl rfl rfl (ow_fn (vs := [.slice none 0 0]) en_56 rfl hS (book_markedNodes) ?_)
  clear hS; rintro v106 _ w ⟨rfl, rfl⟩ hS; (try simp only [List.cons_append, List.nil_append] at hS)
  refine wl_op rfl rfl (ow_vr (vr_pick (b := true) (v := .bool _) rfl rfl) ?_)
  refine wl_op rfl rfl (ow_vr (vr_move (v := .bool _) rfl) ?_)
  refine wl_known 108 rfl (c := true) (rfl) ?_
  refine wl_yes rfl rfl rfl rfl rfl (ow_vr (vr_move (v := .pointer _) rfl) ?_)
  refine wl_yes rfl rfl rfl rfl rfl (ow_vr (vr_nilCheck rfl) ?_)
  first | (refine wl_yes rfl rfl rfl rfl rfl (ow_vr (vr_fieldAddr fo_37_10 rfl) ?_)) | (refine wl_yes rfl rfl rfl rfl rfl (ow_vr (vr_fieldAddrV fo_37_10 rfl (by first | assumption | (refine Own.view ?_ (by assumption); exact fun _ => rfl) | exact OwnB.view (by assumption)) (by first | omega | (simp <;> omega))) ?_))
  refine wl_yes rfl rfl rfl rfl rfl (ow_lr (S := Sat _ _) (lr_load1 Tryz.underlying35 rfl rfl (by first | exact Has.here | exact Has.there (Has.here) | exact Has.there (Has.there (Has.here)) | exact Has.there (Has.there (Has.there (Has.here))) | exact Has.there (Has.there (Has.there (Has.there (Has.here)))) | exact Has.there (Has.there (Has.there (Has.there (Has.there (Has.here))))) | exact Has.there (Has.there (Has.there (Has.there (Has.there (Has.there (Has.here)))))) | exact Has.there (Has.there (Has.there (Has.there (Has.there (Has.there (Has.there (Has.here)))))))) rfl) hS ?_)
  refine wl_yes rfl rfl rfl rfl rfl (ow_fn (vs := [.slice _ _ _]) en_56 rfl hS (book_markedNodes) ?_)
  clear hS; rintro v113 _ w ⟨rfl, rfl⟩ hS; (try simp only [List.cons_append, List.nil_append] at hS)
  refine wl_op rfl rfl (ow_vr (vr_pick (b := true) (v := .bool _) rfl rfl) ?_)
  refine wl_op rfl rfl (ow_vr (vr_assign (v := .bool _) rfl) ?_)
  refine wl_nil ?_
  refine hK26 _ _ ?_
  refine cw_ret ?_
  refine ret_one (fn := Tryz.f22) (n := 115) (t := 2) (.inl rfl) rfl rfl ?_
  exact ⟨[_, _, _, _, _], rfl, hS⟩
end
end Go.Proofs.YtjcagoighpmdkaaGreatDoor
