/- Chapter 7's laws that nothing falls in. -/
import Derived.Test.YtjcagoighpmdkaaGreatDoorLogI
import Derived.Test.YtjcagoighpmdkaaGreatDoorSame
namespace Go.Proofs.YtjcagoighpmdkaaGreatDoor
open Go Go.RowKit
set_option linter.unusedVariables false
set_option linter.unusedSimpArgs false
theorem writeL_armed (from_ n : Int) : ∀ (g : List Entr) (d : Dsk), d.armed = false → (writeL d from_ n g).2.armed = false
  | [], d, h => by
    have h1 : (doneD d).2.armed = false := by simp [doneD, fallsD, h]
    rw [writeL, barrierD]
    split
    · exact h
    split
    · exact h1
    · exact h1
  | e :: g, d, h => by
    have h1 : ∀ d : Dsk, d.armed = false → (doneD d).2.armed = false := fun d h => by simp [doneD, fallsD, h]
    have h2 : (writeD d (from_ + e.lsn % n) (putE e)).2.armed = false := by
      rw [writeD]
      split
      · exact h
      split
      · exact h
      · exact h1 _ h
    rw [writeL]
    split
    · exact writeL_armed from_ n g _ h2
    · exact h2
/-- A disk with power on, not armed. -/
structure Calm (d : Dsk) : Prop where
  wf : WfD d
  armed : d.armed = false
theorem Calm.new {n : Int} (h0 : 0 ≤ n) (h1 : n ≤ 3000) : Calm (newD n) := ⟨⟨by simp [newD], by simp [newD], h0, h1⟩, rfl⟩
section
variable {d : Dsk} {L : Lp} {es : List Entr} {all : List (Int × Int)}
theorem LogI.room (h : LogI d L es all) {g : Nat} (hg : (g : Int) ≤ L.n - (L.next - L.head)) : (g : Int) ≤ L.n := by have := h.wf.h1; omega
theorem group_in (h : LogI d L es all) {c : List (Int × Int)} (hr : (groupL L.next L.epoch c).all rightE = true) : ∀ e ∈ groupL L.next L.epoch c, 0 ≤ L.from_ + e.lsn % L.n ∧ L.from_ + e.lsn % L.n < d.n ∧ rightE e = true := fun e he => by
  have hm := mod_in (a := e.lsn) h.wf.n0
  have h1 := h.wf.f0
  have h2 := h.fit
  exact ⟨by omega, by omega, List.all_eq_true.1 hr e he⟩
theorem append_calm (h : LogI d L es all) (hc : Calm d) {c : List (Int × Int)} (hr : (groupL L.next L.epoch c).all rightE = true) (hroom : (groupL L.next L.epoch c).length ≤ L.n - (L.next - L.head)) (hx : L.next + (groupL L.next L.epoch c).length ≤ 1000000000000) :
    (appendL d L c).1 = 0 ∧ (appendL d L c).2.2 = { L with next := L.next + (groupL L.next L.epoch c).length } ∧ LogI (appendL d L c).2.1 { L with next := L.next + (groupL L.next L.epoch c).length } (es ++ groupL L.next L.epoch c) (all ++ c) ∧ Calm (appendL d L c).2.1 ∧ (appendL d L c).2.1.n = d.n := by
  have hn := writeL_n L.from_ L.n (groupL L.next L.epoch c) d
  rcases writeL_out L.from_ L.n (groupL L.next L.epoch c) d h.off (group_in h hr) with ⟨h1, h2, h3, h4, h5⟩ | ⟨h1, _⟩
  · rw [appendL, if_pos hr, if_neg (by omega), if_pos h1]
    rw [h.waits, List.nil_append] at h4
    exact ⟨rfl, rfl, h.add hr hroom hx h2 h3 h5 h4, ⟨⟨Nat.le_trans hn.2.2 hc.wf.keep, by simp only [h3]; simp, by simp only [h5]; exact hc.wf.n0, by simp only [h5]; exact hc.wf.n1⟩, writeL_armed _ _ _ _ hc.armed⟩, h5⟩
  · rw [hc.armed] at h1; cases h1
theorem append_no (h : LogI d L es all) {c : List (Int × Int)} (hno : ¬ ((groupL L.next L.epoch c).all rightE = true ∧ ((groupL L.next L.epoch c).length : Int) ≤ L.n - (L.next - L.head))) :
    (appendL d L c).1 ≠ 0 ∧ (appendL d L c).2 = (d, L) := by
  rw [appendL]
  by_cases hr : (groupL L.next L.epoch c).all rightE = true
  · rw [if_pos hr, if_pos (by have : ¬ _ := fun h2 => hno ⟨hr, h2⟩; omega)]
    exact ⟨by simp, rfl⟩
  · rw [if_neg hr]
    exact ⟨by simp, rfl⟩
theorem may_in (h : LogI d L es all) (h0 : 0 ≤ L.epoch) (h1 : L.epoch < 1000000000) (h2 : L.head < 1000000000) : mayL d.n L.from_ L.n L.head L.head L.epoch = true := by
  have := h.wf.f0; have := h.wf.n0; have := h.fit; have := h.wf.h0
  rw [mayL, decide_eq_true_eq]; omega
variable {p : Nat} {Δ : Chunk}
theorem loop_ScanI (hd : DiskAt p d Δ) (hwd : WfD d) (h : LogI d L es all) (h0 : 0 ≤ L.epoch) (h1 : L.epoch < 1000000000) (h2 : L.head < 1000000000) :
    Fn Tryz.prog 13 [ptr p, .int .i64 L.from_, .int .i64 L.n, .int .i64 L.head, .int .i64 L.epoch] [Δ] (fun u Δs => ∃ v D, u = .tuple #[v, .int .i64 L.next, .int .i64 0] ∧ Δs = [D, Δ] ∧ Own 55 2 encC v all D) := by
  have hs := loop_Scan hd hwd L.from_ L.n L.head L.epoch h.off (may_in h h0 h1 h2) h.bound
  rw [h.told] at hs
  simp only [show L.head + (L.next - L.head) = L.next by omega] at hs
  exact hs
end
attribute [local irreducible] actF WL CW OW PL SW VR LR yes Returns Fn
theorem alive7 {G : Chunk} (hG : Glob G) : FnG Tryz.prog 4 [] [G] (fun u Δs => u = .bool true ∧ Δs = []) := by
  refine FnG.mk fun E F w hS hF => ?_
  have hFg : G ∈ F := hF _ (by simp)
  obtain ⟨L, hL⟩ : ∃ L : Lp, (⟨4, 8, 0, 0, 1⟩ : Lp) = L := ⟨_, rfl⟩
  have hc := Calm.new (n := 20) (by omega) (by omega)
  have hw : WfL ⟨4, 8, 0, 0, 1⟩ := ⟨by decide, by decide, by decide, by decide, by decide, by decide, by decide, by decide⟩
  have hI := LogI.new (n := 20) hw (by decide)
  have hr : (groupL 0 1 [(1, 7), (2, 8)]).all rightE = true := by decide
  have hA := append_calm hI hc (c := [(1, 7), (2, 8)]) hr (by decide) (by decide)
  obtain ⟨a1, a2, a3, a4, a5⟩ := hA
  refine returns_enter Tryz.func4 rfl Tryz.ntmps4 rfl ?_
  refine cw_seq fun K1 hK1 => ?_
  refine cw_region ?_
  refine wl_op rfl rfl (ow_vr (vr_assign (v := .bool false) rfl) ?_)
  refine wl_nil ?_
  refine hK1 _ _ ?_
  refine cw_seq fun K2 hK2 => ?_
  refine cw_region ?_
  refine wl_op rfl rfl (ow_fn (vs := [.int .i64 _]) en_5 rfl hS (disk_New' (n := 20) (by omega) (by omega)) ?_)
  clear hS; rintro v6 _ w ⟨p, Δ0, rfl, rfl, hd0⟩ hS; (try simp only [List.cons_append, List.nil_append] at hS)
  refine wl_op rfl rfl (ow_vr (vr_assign (v := .pointer _) rfl) ?_)
  refine wl_nil ?_
  refine hK2 _ _ ?_
  refine cw_seq fun K3 hK3 => ?_
  refine cw_region ?_
  refine wl_op rfl rfl (ow_vr (vr_move (v := .pointer _) rfl) ?_)
  refine wl_op rfl rfl (ow_fn (vs := [.pointer _, .int .i64 _, .int .i64 _, .int .i64 _, .int .i64 _, .int .i64 _]) en_6 rfl hS (loop_NewT hd0 hc.wf ⟨4, 8, 0, 0, 1⟩ (by decide)) ?_)
  clear hS; rintro v8 _ w ⟨q, rfl, rfl⟩ hS; (try simp only [List.cons_append, List.nil_append] at hS)
  refine wl_op rfl rfl (ow_vr (vr_assign (v := .pointer _) rfl) ?_)
  refine wl_nil ?_
  refine hK3 _ _ ?_
  refine cw_seq fun K4 hK4 => ?_
  refine cw_seq fun K5 hK5 => ?_
  refine cw_region ?_
  refine wl_op rfl rfl (ow_vr (vr_move (v := .pointer _) rfl) ?_)
  refine wl_op rfl rfl (ow_vr (vr_eqnil Tryz.underlying26 rfl) ?_)
  refine wl_op rfl rfl (ow_vr (vr_move (v := .bool _) rfl) ?_)
  refine wl_known 11 rfl (c := false) (rfl) ?_
  refine wl_yes rfl rfl rfl rfl rfl (ow_vr (vr_move (v := .pointer _) rfl) ?_)
  refine wl_yes rfl rfl rfl rfl rfl (ow_vr (vr_build (vs := [(0, .int .i64 _), (1, .int .i64 _)]) (cs := [.int .i64 _, .int .i64 _]) zr_55 pl_55 rfl rfl) ?_)
  refine wl_yes rfl rfl rfl rfl rfl (ow_vr (vr_build (vs := [(0, .int .i64 _), (1, .int .i64 _)]) (cs := [.int .i64 _, .int .i64 _]) zr_55 pl_55 rfl rfl) ?_)
  refine wl_yes rfl rfl rfl rfl rfl (ow_buildSliceD (m := 2) (len := 2) (vs := [.agg #[.int .i64 _, .int .i64 _], .agg #[.int .i64 _, .int .i64 _]]) (cs := [.int .i64 _, .int .i64 _, .int .i64 _, .int .i64 _]) hS Tryz.underlying28 if_55 rfl (by decide) (by decide) rfl rfl (by simp [Value.cells]) rfl ?_)
  clear hS; intro b15 w hS
  replace hS := hS.front1.perm (flat_cons flat_swap)
  refine wl_yes rfl rfl rfl rfl rfl (ow_fnm (vs := [.pointer _, .slice _ _ _]) en_8 rfl hS (loop_Append hd0 hc.wf q ⟨4, 8, 0, 0, 1⟩ hw [(1, 7), (2, 8)] _ [(b15, .cells [.int .i64 1, .int .i64 7, .int .i64 2, .int .i64 8].toArray 55 (0, 0))] G (View.lits rfl rfl rfl) hG (by decide)) (by repeat (first | exact needs0 | (refine needsC ?_ ?_; · (repeat (first | exact List.mem_cons_self | assumption | refine List.mem_cons_of_mem _ ?_))))) ?_)
  clear hS; rintro v16 _ w ⟨rfl, Δ1, rfl, hd1⟩ hS; (try simp only [List.cons_append, List.nil_append] at hS)
  refine wl_yes rfl rfl rfl rfl rfl (ow_vr (vr_neq rfl rfl) ?_)
  refine wl_op rfl rfl (ow_vr (vr_pick (b := false) (v := .bool _) rfl rfl) ?_)
  refine wl_nil ?_
  refine hK5 _ _ ?_
  refine cw_cond_f rfl rfl (by rw [a1]; rfl) ?_
  refine cw_skip ?_
  refine hK4 _ _ ?_
  refine cw_seq fun K6 hK6 => ?_
  rw [a2] at hS
  replace hS := hS.front1
  refine cw_region ?_
  refine wl_op rfl rfl (ow_vr (vr_move (v := .pointer _) rfl) ?_)
  refine wl_op rfl rfl (ow_fn (vs := [.pointer _, .int .i64 _, .int .i64 _, .int .i64 _, .int .i64 _]) en_13 rfl hS (loop_ScanI hd1 a4.wf a3 (by decide) (by decide) (by decide)) ?_)
  clear hS; rintro v21 _ w ⟨vS, DS, rfl, rfl, hoS⟩ hS; (try simp only [List.cons_append, List.nil_append] at hS)
  refine wl_op rfl rfl (ow_vr (vr_move (v := .tuple _) rfl) ?_)
  refine wl_op rfl rfl (ow_vr (vr_extract (v := vS) rfl rfl) ?_)
  refine wl_op rfl rfl (ow_vr (vr_extract (v := .int .i64 _) rfl rfl) ?_)
  refine wl_op rfl rfl (ow_vr (vr_extract (v := .int .i64 _) rfl rfl) ?_)
  refine wl_op rfl rfl (ow_vr (vr_assign (v := vS) rfl) ?_)
  refine wl_op rfl rfl (ow_vr (vr_assign (v := .int .i64 _) rfl) ?_)
  refine wl_op rfl rfl (ow_vr (vr_assign (v := .int .i64 _) rfl) ?_)
  refine wl_nil ?_
  refine hK6 _ _ ?_
  refine cw_seq fun K7 hK7 => ?_
  refine cw_region ?_
  refine wl_op rfl rfl (ow_vr (vr_move (v := .int .i64 _) rfl) ?_)
  refine wl_op rfl rfl (ow_vr (vr_eql rfl rfl) ?_)
  refine wl_op rfl rfl (ow_vr (vr_move (v := .bool _) rfl) ?_)
  refine wl_known 27 rfl (c := true) (rfl) ?_
  refine wl_yes rfl rfl rfl rfl rfl (ow_vr (vr_move (v := vS) rfl) ?_)
  refine wl_yes rfl rfl rfl rfl rfl (ow_vr (vr_len_v (v := vS) Tryz.underlying28 rfl (hoS.view (by exact fun _ => rfl))) ?_)
  refine wl_yes rfl rfl rfl rfl rfl (ow_vr (vr_eql rfl rfl) ?_)
  refine wl_op rfl rfl (ow_vr (vr_pick (b := true) (v := .bool _) rfl rfl) ?_)
  refine wl_op rfl rfl (ow_vr (vr_move (v := .bool _) rfl) ?_)
  refine wl_known 32 rfl (c := true) (rfl) ?_
  refine wl_yes rfl rfl rfl rfl rfl (ow_vr (vr_move (v := .int .i64 _) rfl) ?_)
  refine wl_yes rfl rfl rfl rfl rfl (ow_vr (vr_eql rfl rfl) ?_)
  refine wl_op rfl rfl (ow_vr (vr_pick (b := true) (v := .bool _) rfl rfl) ?_)
  refine wl_op rfl rfl (ow_vr (vr_move (v := .bool _) rfl) ?_)
  refine wl_known 36 rfl (c := true) (rfl) ?_
  refine wl_yes rfl rfl rfl rfl rfl (ow_vr (vr_move (v := .pointer _) rfl) ?_)
  replace hS := hS.front2
  refine wl_yes rfl rfl rfl rfl rfl (ow_fn (vs := [.pointer _]) en_20 rfl hS (loop_Next q p _) ?_)
  clear hS; rintro v38 _ w ⟨rfl, rfl⟩ hS; (try simp only [List.cons_append, List.nil_append] at hS)
  refine wl_yes rfl rfl rfl rfl rfl (ow_vr (vr_eql rfl rfl) ?_)
  refine wl_op rfl rfl (ow_vr (vr_pick (b := true) (v := .bool _) rfl rfl) ?_)
  refine wl_op rfl rfl (ow_vr (vr_move (v := .bool _) rfl) ?_)
  refine wl_known 41 rfl (c := true) (rfl) ?_
  refine wl_yes rfl rfl rfl rfl rfl (ow_vr (vr_move (v := .pointer _) rfl) ?_)
  refine wl_yes rfl rfl rfl rfl rfl (ow_fn (vs := [.pointer _]) en_21 rfl hS (loop_Room q p _ a3.wf) ?_)
  clear hS; rintro v43 _ w ⟨rfl, rfl⟩ hS; (try simp only [List.cons_append, List.nil_append] at hS)
  refine wl_yes rfl rfl rfl rfl rfl (ow_vr (vr_eql rfl rfl) ?_)
  refine wl_op rfl rfl (ow_vr (vr_pick (b := true) (v := .bool _) rfl rfl) ?_)
  refine wl_op rfl rfl (ow_vr (vr_move (v := .bool _) rfl) ?_)
  refine wl_known 46 rfl (c := true) (rfl) ?_
  refine wl_yes rfl rfl rfl rfl rfl (ow_vr (vr_move (v := .pointer _) rfl) ?_)
  refine wl_yes rfl rfl rfl rfl rfl (ow_fn (vs := [.pointer _]) en_19 rfl hS (loop_Head q p _) ?_)
  clear hS; rintro v48 _ w ⟨rfl, rfl⟩ hS; (try simp only [List.cons_append, List.nil_append] at hS)
  refine wl_yes rfl rfl rfl rfl rfl (ow_vr (vr_eql rfl rfl) ?_)
  refine wl_op rfl rfl (ow_vr (vr_pick (b := true) (v := .bool _) rfl rfl) ?_)
  refine wl_op rfl rfl (ow_vr (vr_assign (v := .bool _) rfl) ?_)
  refine wl_nil ?_
  refine hK7 _ _ ?_
  refine cw_ret ?_
  refine ret_one (fn := Tryz.f4) (n := 51) (t := 0) (.inl rfl) rfl rfl ?_
  exact ⟨[], ⟨rfl, rfl⟩, hS.tail1.tail1.tail1.tail1⟩
end Go.Proofs.YtjcagoighpmdkaaGreatDoor
