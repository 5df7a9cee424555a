/- For LoopPlays: what is said of each deed. -/
import Derived.Test.YtjcagoighpmdkaaGreatDoorTorn
import Derived.Test.YtjcagoighpmdkaaGreatDoorLent
import Derived.Test.YtjcagoighpmdkaaGreatDoorApart
namespace Go.Proofs.YtjcagoighpmdkaaGreatDoor
open Go Go.RowKit
set_option linter.unusedVariables false
set_option linter.unusedSimpArgs false
theorem View.isOne {α : Type} {m : Nat} {enc : α → List Value} {v : Value} {xs : List α} {Δ : Chunk} (h : View m enc v xs Δ) : one v = true := by
  obtain ⟨a, cap, rfl⟩ := h.len; rfl
/-- Something that is done. -/
structure OpR where
  kind : Int
  n : Int
  e : Int
  vL : Value
  cs : List (Int × Int)
  vK : Value
  ks : List Int
def encOp (o : OpR) : List Value := [.int .i64 o.kind, .int .i64 o.n, .int .i64 o.e, o.vL, o.vK]
def fineL (cs : List (Int × Int)) : Bool := cs.all fun x => okN x.1 && okN x.2
theorem fineL_iff {cs : List (Int × Int)} : fineL cs = true ↔ ∀ x ∈ cs, okN x.1 = true ∧ okN x.2 = true := by simp [fineL]
section
variable {d : Dsk} {L : Lp} {es : List Entr} {all : List (Int × Int)}
theorem LogI.crash (h : LogI d L es all) (ks : List Int) : LogI { (crashD d ks).2 with off := false } L es all where
  waits := rfl
  off := rfl
  wf := h.wf
  fit := h.fit
  len := h.len
  at_ := by show ∀ i e, es[i]? = some e → crashM ks 0 d.lasts d.waits _ = _ ∧ _; rw [h.waits]; exact h.at_
  old := by show ∀ k b, crashM ks 0 d.lasts d.waits k = some b → _; rw [h.waits]; exact h.old
  len32 := by show ∀ k b, crashM ks 0 d.lasts d.waits k = some b → _; rw [h.waits]; exact h.len32
  whole := h.whole
theorem WfD.crash (h : WfD d) (ks : List Int) : WfD { (crashD d ks).2 with off := false } := ⟨by simp [crashD], by simp [crashD], h.n0, h.n1⟩
theorem LogI.arm (h : LogI d L es all) (n : Int) (ks : List Int) : LogI (armD d n ks) L es all := ⟨h.waits, h.off, h.wf, h.fit, h.len, h.at_, h.old, h.len32, h.whole⟩
theorem WfD.arm (h : WfD d) (n : Int) {ks : List Int} (hk : ks.length ≤ 1000000) : WfD (armD d n ks) := ⟨hk, h.waits, h.n0, h.n1⟩
/-- What an append comes to. -/
theorem append_case (h : LogI d L es all) (hwd : WfD d) (cs : List (Int × Int)) (hx : L.next + (cs.length + 1) ≤ 1000000000) (he0 : 0 ≤ L.epoch) (he1 : L.epoch < 1000000000) :
    (fineL cs = false ∧ appendL d L cs = (1, d, L)) ∨ (fineL cs = true ∧ L.n - (L.next - L.head) < (cs.length : Int) + 1 ∧ appendL d L cs = (5, d, L)) ∨
    (fineL cs = true ∧ ¬ L.n - (L.next - L.head) < (cs.length : Int) + 1 ∧ WfD (appendL d L cs).2.1 ∧ (appendL d L cs).2.1.n = d.n ∧
      (((appendL d L cs).1 = 0 ∧ (appendL d L cs).2.1.off = false ∧ (appendL d L cs).2.2 = { L with next := L.next + ((cs.length : Int) + 1) } ∧ ∃ es', LogI (appendL d L cs).2.1 { L with next := L.next + ((cs.length : Int) + 1) } es' (all ++ cs)) ∨
       ((appendL d L cs).1 = 3 ∧ (appendL d L cs).2.1.off = true ∧ (appendL d L cs).2.2 = L ∧
        (∀ k, (readD (appendL d L cs).2.1 k).length ≤ 1000) ∧
        (changesE (scanGo (readD (appendL d L cs).2.1) L.from_ L.n L.epoch L.n.toNat L.head) = (all, L.next - L.head) ∨ changesE (scanGo (readD (appendL d L cs).2.1) L.from_ L.n L.epoch L.n.toNat L.head) = (all ++ cs, L.next + ((cs.length : Int) + 1) - L.head)) ∧
        ∀ x e, L.epoch < e → 0 ≤ x → x ≤ 1000000000000 → LogI { (appendL d L cs).2.1 with off := false } ⟨L.from_, L.n, x, x, e⟩ [] []))) := by
  have hh0 := h.wf.h0
  have hh1 := h.wf.h1
  have hgl := groupL_length L.next L.epoch cs
  have hgr := group_right (lsn := L.next) (ep := L.epoch) (c := cs) (by omega) (by omega) he0 (by omega)
  cases hf : fineL cs with
  | false =>
    left
    refine ⟨rfl, ?_⟩
    rw [appendL, if_neg]
    intro h2
    rw [hgr, ← fineL_iff, hf] at h2; cases h2
  | true =>
    have hr := hgr.2 (fineL_iff.1 hf)
    right
    by_cases hroom : L.n - (L.next - L.head) < (cs.length : Int) + 1
    · left
      refine ⟨rfl, hroom, ?_⟩
      rw [appendL, if_pos hr, if_pos (by omega)]
    · right
      obtain ⟨h1, h2, h3⟩ := append_any h hwd hr (by omega) (by omega)
      refine ⟨rfl, hroom, h1, h2, ?_⟩
      have hgl2 : ((groupL L.next L.epoch cs).length : Int) = (cs.length : Int) + 1 := by omega
      rcases h3 with ⟨a1, a2, a3, a4⟩ | ⟨a1, a2, a3, a4, a5⟩
      · rw [hgl2] at a3 a4
        exact .inl ⟨a1, a2, a3, _, a4⟩
      · right
        have hrd : ∀ k, readD (appendL d L cs).2.1 k = ((appendL d L cs).2.1.lasts k).getD zeros32 := fun k => by rw [readD, a4]; rfl
        have haf : ∀ x e, L.epoch < e → 0 ≤ x → x ≤ 1000000000000 → LogI { (appendL d L cs).2.1 with off := false } ⟨L.from_, L.n, x, x, e⟩ [] [] := fun x e g1 g2 g3 =>
          h.after (d' := { (appendL d L cs).2.1 with off := false }) hr rfl a4 h2 a5 g1 g2 g3
        refine ⟨a1, a2, a3, fun k => ?_, ?_, haf⟩
        · exact (haf 0 (L.epoch + 1) (by omega) (by omega) (by omega)).bound k
        · have := h.torn (d' := (appendL d L cs).2.1) hr (by omega) a4 a5
          rw [hgl2] at this
          exact this
end
attribute [local irreducible] actF WL CW OW PL SW VR LR yes Returns Fn
theorem law_fine (cs : List (Int × Int)) (v : Value) (Δ : Chunk) (hv : View 2 encC v cs Δ) (hn : cs.length ≤ 1000000) : FnG Tryz.prog 9 [v] [Δ] (fun u Δs => u = .bool (fineL cs) ∧ Δs = []) := by
  refine FnG.mk fun E F w hS hF => ?_
  have hF0 : Δ ∈ F := hF _ (by simp)
  refine returns_enter Tryz.func9 rfl Tryz.ntmps9 rfl ?_
  refine cw_seq fun K1 hK1 => ?_
  refine cw_region ?_
  refine wl_op rfl rfl (ow_vr (vr_assign (v := .bool false) rfl) ?_)
  refine wl_nil ?_
  refine hK1 _ _ ?_
  refine cw_seq fun K2 hK2 => ?_
  refine cw_seq fun K3 hK3 => ?_
  refine cw_region ?_
  refine wl_op rfl rfl (ow_vr (vr_as (v' := .int .i64 ((0 : Nat) : Int)) (vr_assign rfl) rfl) ?_)
  refine wl_nil ?_
  refine hK3 _ _ ?_
  refine cw_block ?_
  refine cw_loop (fun m f w => ∃ (k : Nat) (g : Nat → Value), f = (upd (upd g 0 (v)) 3 (.int .i64 (k : Int))) ∧ (k ≤ cs.length ∧ (cs.take k).all (fun x => okN x.1 && okN x.2) = true) ∧ m = cs.length - k ∧ Sat E (F) w) ⟨0, _, (reb (reb rfl rfl) rfl), ?_, rfl, hS⟩ ?_
  · simp
  clear hS; rintro m f w ⟨k, g, rfl, hI0, rfl, hS⟩
  refine cw_seq fun K4 hK4 => ?_
  refine cw_seq fun K5 hK5 => ?_
  refine cw_region ?_
  refine wl_op rfl rfl (ow_vr (vr_move (v := .int .i64 (k : Int)) rfl) ?_)
  refine wl_op rfl rfl (ow_vr (vr_move (v := v) rfl) ?_)
  refine wl_op rfl rfl (ow_vr (vr_len_v (v := v) Tryz.underlying28 rfl hv) ?_)
  refine wl_op rfl rfl (ow_vr (vr_lss rfl rfl) ?_)
  refine wl_nil ?_
  refine hK5 _ _ ?_
  refine cw_cond rfl rfl (fun hc => ?_) (fun hc => ?_)
  · (try simp only [decide_eq_true_eq, decide_eq_false_iff_not, Bool.not_eq_true, Bool.not_eq_false, Bool.not_eq_true', Bool.not_eq_false', Bool.and_eq_true, Bool.or_eq_true, Bool.and_eq_false_iff, Bool.or_eq_false_iff, Int.not_lt, Int.not_le, gt_iff_lt, ge_iff_le, ne_eq, Decidable.not_not, beq_iff_eq] at hc)
    have hc0 := hc; clear hc
    refine cw_skip ?_
    refine hK4 _ _ ?_
    refine cw_seq fun K6 hK6 => ?_
    refine cw_block ?_
    refine cw_seq fun K7 hK7 => ?_
    obtain ⟨x, hx⟩ := get_lt (xs := cs) (k := k) (by omega)
    refine cw_region ?_
    refine wl_op rfl rfl (ow_vr (vr_move (v := v) rfl) ?_)
    refine wl_op rfl rfl (ow_vr (vr_move (v := .int .i64 (k : Int)) rfl) ?_)
    first | (refine wl_op rfl rfl (ow_vr (vr_indexAddr Tryz.underlying28 sz_55 rfl rfl (by omega) (by omega)) ?_)) | (refine wl_op rfl rfl (ow_vr (vr_indexV (v := v) Tryz.underlying28 sz_55 rfl (by first | assumption | (refine Own.view ?_ (by assumption); exact fun _ => rfl) | exact OwnB.view (by assumption)) rfl (by omega) (by first | omega | (simp <;> omega))) ?_))
    first | (refine wl_op rfl rfl (ow_vr (vr_fieldAddr fo_55_0 rfl) ?_)) | (refine wl_op rfl rfl (ow_vr (vr_fieldAddrV fo_55_0 rfl (by first | assumption | (refine Own.view ?_ (by assumption); exact fun _ => rfl) | exact OwnB.view (by assumption)) (by first | omega | (simp <;> omega))) ?_))
    refine wl_op rfl rfl (ow_lr (S := Sat _ _) (lr_loadV1 (u := .int .i64 _) Tryz.underlying3 rfl rfl (by first | assumption | (refine Own.view ?_ (by assumption); exact fun _ => rfl) | exact OwnB.view (by assumption)) (by repeat (first | exact List.mem_cons_self | assumption | refine List.mem_cons_of_mem _ ?_)) (hx) (by exact fun _ => rfl) (by rfl)) hS ?_)
    refine wl_op rfl rfl (ow_fn (vs := [.int .i64 _]) en_28 rfl hS (ref_Number x.1) ?_)
    clear hS; rintro v15 _ w ⟨rfl, rfl⟩ hS; (try simp only [List.cons_append, List.nil_append] at hS)
    refine wl_op rfl rfl (ow_vr (vr_not rfl) ?_)
    refine wl_op rfl rfl (ow_vr (vr_move (v := .bool _) rfl) ?_)
    refine wl_split 17 rfl (fun hc => ?_) (fun hc => ?_)
    · (try simp only [decide_eq_true_eq, decide_eq_false_iff_not, Bool.not_eq_true, Bool.not_eq_false, Bool.not_eq_true', Bool.not_eq_false', Bool.and_eq_true, Bool.or_eq_true, Bool.and_eq_false_iff, Bool.or_eq_false_iff, Int.not_lt, Int.not_le, gt_iff_lt, ge_iff_le, ne_eq, Decidable.not_not, beq_iff_eq] at hc)
      have hg17 := hc; clear hc
      refine wl_noD rfl rfl rfl rfl rfl rfl ?_
      refine wl_noD rfl rfl rfl rfl rfl rfl ?_
      refine wl_noD rfl rfl rfl rfl rfl rfl ?_
      refine wl_noD rfl rfl rfl rfl rfl rfl ?_
      refine wl_noD rfl rfl rfl rfl rfl rfl ?_
      refine wl_noD rfl rfl rfl rfl rfl rfl ?_
      refine wl_noD rfl rfl rfl rfl rfl rfl ?_
      refine wl_op rfl rfl (ow_vr (vr_pick (b := true) (v := .bool _) rfl rfl) ?_)
      refine wl_nil ?_
      refine hK7 _ _ ?_
      refine cw_cond_t rfl rfl (rfl) ?_
      refine cw_seq fun K8 hK8 => ?_
      refine cw_region ?_
      refine wl_op rfl rfl (ow_vr (vr_assign (v := .bool false) rfl) ?_)
      refine wl_nil ?_
      refine hK8 _ _ ?_
      refine cw_ret ?_
      refine inB_ret (thenF_ret (thenF_ret (inB_ret (thenF_ret (?_)))))
      refine ret_one (fn := Tryz.f9) (n := 26) (t := 2) (.inl rfl) rfl rfl ?_
      exact ⟨[], ⟨congrArg Value.bool (by rw [eq_comm, fineL, List.all_eq_false]; exact ⟨x, List.mem_of_getElem? hx, by simp [okN] at hg17 ⊢; first | omega | (simp at hc1; omega)⟩), rfl⟩, hS⟩
    · (try simp only [decide_eq_true_eq, decide_eq_false_iff_not, Bool.not_eq_true, Bool.not_eq_false, Bool.not_eq_true', Bool.not_eq_false', Bool.and_eq_true, Bool.or_eq_true, Bool.and_eq_false_iff, Bool.or_eq_false_iff, Int.not_lt, Int.not_le, gt_iff_lt, ge_iff_le, ne_eq, Decidable.not_not, beq_iff_eq] at hc)
      have hg17 := hc; clear hc
      refine wl_yes rfl rfl rfl rfl rfl (ow_vr (vr_move (v := v) rfl) ?_)
      refine wl_yes rfl rfl rfl rfl rfl (ow_vr (vr_move (v := .int .i64 (k : Int)) rfl) ?_)
      first | (refine wl_yes rfl rfl rfl rfl rfl (ow_vr (vr_indexAddr Tryz.underlying28 sz_55 rfl rfl (by omega) (by omega)) ?_)) | (refine wl_yes rfl rfl rfl rfl rfl (ow_vr (vr_indexV (v := v) Tryz.underlying28 sz_55 rfl (by first | assumption | (refine Own.view ?_ (by assumption); exact fun _ => rfl) | exact OwnB.view (by assumption)) rfl (by omega) (by first | omega | (simp <;> omega))) ?_))
      first | (refine wl_yes rfl rfl rfl rfl rfl (ow_vr (vr_fieldAddr fo_55_1 rfl) ?_)) | (refine wl_yes rfl rfl rfl rfl rfl (ow_vr (vr_fieldAddrV fo_55_1 rfl (by first | assumption | (refine Own.view ?_ (by assumption); exact fun _ => rfl) | exact OwnB.view (by assumption)) (by first | omega | (simp <;> omega))) ?_))
      refine wl_yes rfl rfl rfl rfl rfl (ow_lr (S := Sat _ _) (lr_loadV1 (u := .int .i64 _) Tryz.underlying3 rfl rfl (by first | assumption | (refine Own.view ?_ (by assumption); exact fun _ => rfl) | exact OwnB.view (by assumption)) (by repeat (first | exact List.mem_cons_self | assumption | refine List.mem_cons_of_mem _ ?_)) (hx) (by exact fun _ => rfl) (by rfl)) hS ?_)
      refine wl_yes rfl rfl rfl rfl rfl (ow_fn (vs := [.int .i64 _]) en_28 rfl hS (ref_Number x.2) ?_)
      clear hS; rintro v23 _ w ⟨rfl, rfl⟩ hS; (try simp only [List.cons_append, List.nil_append] at hS)
      refine wl_yes rfl rfl rfl rfl rfl (ow_vr (vr_not rfl) ?_)
      refine wl_op rfl rfl (ow_vr (vr_pick (b := false) (v := .bool _) rfl rfl) ?_)
      refine wl_nil ?_
      refine hK7 _ _ ?_
      refine cw_cond rfl rfl (fun hc => ?_) (fun hc => ?_)
      · (try simp only [decide_eq_true_eq, decide_eq_false_iff_not, Bool.not_eq_true, Bool.not_eq_false, Bool.not_eq_true', Bool.not_eq_false', Bool.and_eq_true, Bool.or_eq_true, Bool.and_eq_false_iff, Bool.or_eq_false_iff, Int.not_lt, Int.not_le, gt_iff_lt, ge_iff_le, ne_eq, Decidable.not_not, beq_iff_eq] at hc)
        have hc1 := hc; clear hc
        refine cw_seq fun K9 hK9 => ?_
        refine cw_region ?_
        refine wl_op rfl rfl (ow_vr (vr_assign (v := .bool false) rfl) ?_)
        refine wl_nil ?_
        refine hK9 _ _ ?_
        refine cw_ret ?_
        refine inB_ret (thenF_ret (thenF_ret (inB_ret (thenF_ret (?_)))))
        refine ret_one (fn := Tryz.f9) (n := 26) (t := 2) (.inl rfl) rfl rfl ?_
        exact ⟨[], ⟨congrArg Value.bool (by rw [eq_comm, fineL, List.all_eq_false]; exact ⟨x, List.mem_of_getElem? hx, by simp [okN] at hg17 ⊢; first | omega | (simp at hc1; omega)⟩), rfl⟩, hS⟩
      · (try simp only [decide_eq_true_eq, decide_eq_false_iff_not, Bool.not_eq_true, Bool.not_eq_false, Bool.not_eq_true', Bool.not_eq_false', Bool.and_eq_true, Bool.or_eq_true, Bool.and_eq_false_iff, Bool.or_eq_false_iff, Int.not_lt, Int.not_le, gt_iff_lt, ge_iff_le, ne_eq, Decidable.not_not, beq_iff_eq] at hc)
        have hc1 := hc; clear hc
        refine cw_skip ?_
        refine hK6 _ _ ?_
        refine cw_region ?_
        refine wl_op rfl rfl (ow_vr (vr_move (v := .int .i64 (k : Int)) rfl) ?_)
        refine wl_op rfl rfl (ow_vr (vr_as (v' := .int .i64 ((k + 1 : Nat) : Int)) (vr_addi rfl rfl (by unfold inI64; omega)) (congrArg (Value.int .i64) (by omega))) ?_)
        refine wl_op rfl rfl (ow_vr (vr_assign (v := .int .i64 _) rfl) ?_)
        refine wl_nil ?_
        refine thenF_normal ⟨_, ?_, k + 1, _, (reb (reb rfl rfl) rfl), ?_, rfl, hS⟩
        · omega
        · refine ⟨by omega, ?_⟩; rw [take_snoc hx, List.all_append, hI0.2]; simp [okN]; omega
  · (try simp only [decide_eq_true_eq, decide_eq_false_iff_not, Bool.not_eq_true, Bool.not_eq_false, Bool.not_eq_true', Bool.not_eq_false', Bool.and_eq_true, Bool.or_eq_true, Bool.and_eq_false_iff, Bool.or_eq_false_iff, Int.not_lt, Int.not_le, gt_iff_lt, ge_iff_le, ne_eq, Decidable.not_not, beq_iff_eq] at hc)
    have hc0 := hc; clear hc
    refine cw_exit ?_
    refine hK2 _ _ ?_
    refine cw_seq fun K10 hK10 => ?_
    refine cw_region ?_
    refine wl_op rfl rfl (ow_vr (vr_assign (v := .bool true) rfl) ?_)
    refine wl_nil ?_
    refine hK10 _ _ ?_
    refine cw_ret ?_
    refine ret_one (fn := Tryz.f9) (n := 26) (t := 2) (.inl rfl) rfl rfl ?_
    exact ⟨[], ⟨congrArg Value.bool (by have h1 := hI0.2; rw [show k = cs.length by omega, List.take_length] at h1; exact h1.symm), rfl⟩, hS⟩
theorem loop_Head0 : FnV Tryz.prog 19 [.pointer none] (.int .i64 0) := by
  refine FnV.mk fun E F w hS => ?_
  refine returns_enter Tryz.func19 rfl Tryz.ntmps19 rfl ?_
  refine cw_seq fun K1 hK1 => ?_
  refine cw_region ?_
  refine wl_op rfl rfl (ow_vr (vr_assign (v := .int .i64 0) rfl) ?_)
  refine wl_nil ?_
  refine hK1 _ _ ?_
  refine cw_seq fun K2 hK2 => ?_
  refine cw_seq fun K3 hK3 => ?_
  refine cw_region ?_
  refine wl_op rfl rfl (ow_vr (vr_move (v := .pointer _) rfl) ?_)
  refine wl_op rfl rfl (ow_vr (vr_eqnil Tryz.underlying26 rfl) ?_)
  refine wl_nil ?_
  refine hK3 _ _ ?_
  refine cw_cond_t rfl rfl (rfl) ?_
  refine cw_seq fun K4 hK4 => ?_
  refine cw_region ?_
  refine wl_op rfl rfl (ow_vr (vr_assign (v := .int .i64 0) rfl) ?_)
  refine wl_nil ?_
  refine hK4 _ _ ?_
  refine cw_ret ?_
  refine thenF_ret (?_)
  refine ret_one (fn := Tryz.f19) (n := 9) (t := 2) (.inl rfl) rfl rfl ?_
  exact ⟨rfl, hS⟩
theorem loop_Next0 : FnV Tryz.prog 20 [.pointer none] (.int .i64 0) := by
  refine FnV.mk fun E F w hS => ?_
  refine returns_enter Tryz.func20 rfl Tryz.ntmps20 rfl ?_
  refine cw_seq fun K1 hK1 => ?_
  refine cw_region ?_
  refine wl_op rfl rfl (ow_vr (vr_assign (v := .int .i64 0) rfl) ?_)
  refine wl_nil ?_
  refine hK1 _ _ ?_
  refine cw_seq fun K2 hK2 => ?_
  refine cw_seq fun K3 hK3 => ?_
  refine cw_region ?_
  refine wl_op rfl rfl (ow_vr (vr_move (v := .pointer _) rfl) ?_)
  refine wl_op rfl rfl (ow_vr (vr_eqnil Tryz.underlying26 rfl) ?_)
  refine wl_nil ?_
  refine hK3 _ _ ?_
  refine cw_cond_t rfl rfl (rfl) ?_
  refine cw_seq fun K4 hK4 => ?_
  refine cw_region ?_
  refine wl_op rfl rfl (ow_vr (vr_assign (v := .int .i64 0) rfl) ?_)
  refine wl_nil ?_
  refine hK4 _ _ ?_
  refine cw_ret ?_
  refine thenF_ret (?_)
  refine ret_one (fn := Tryz.f20) (n := 9) (t := 2) (.inl rfl) rfl rfl ?_
  exact ⟨rfl, hS⟩
theorem loop_Room0 : FnV Tryz.prog 21 [.pointer none] (.int .i64 0) := by
  refine FnV.mk fun E F w hS => ?_
  refine returns_enter Tryz.func21 rfl Tryz.ntmps21 rfl ?_
  refine cw_seq fun K1 hK1 => ?_
  refine cw_region ?_
  refine wl_op rfl rfl (ow_vr (vr_assign (v := .int .i64 0) rfl) ?_)
  refine wl_nil ?_
  refine hK1 _ _ ?_
  refine cw_seq fun K2 hK2 => ?_
  refine cw_seq fun K3 hK3 => ?_
  refine cw_region ?_
  refine wl_op rfl rfl (ow_vr (vr_move (v := .pointer _) rfl) ?_)
  refine wl_op rfl rfl (ow_vr (vr_eqnil Tryz.underlying26 rfl) ?_)
  refine wl_nil ?_
  refine hK3 _ _ ?_
  refine cw_cond_t rfl rfl (rfl) ?_
  refine cw_seq fun K4 hK4 => ?_
  refine cw_region ?_
  refine wl_op rfl rfl (ow_vr (vr_assign (v := .int .i64 0) rfl) ?_)
  refine wl_nil ?_
  refine hK4 _ _ ?_
  refine cw_ret ?_
  refine thenF_ret (?_)
  refine ret_one (fn := Tryz.f21) (n := 19) (t := 2) (.inl rfl) rfl rfl ?_
  exact ⟨rfl, hS⟩
theorem loop_Cut0 (e : Int) : FnV Tryz.prog 15 [.pointer none, .int .i64 e] (.int .i64 1) := by
  refine FnV.mk fun E F w hS => ?_
  refine returns_enter Tryz.func15 rfl Tryz.ntmps15 rfl ?_
  refine cw_seq fun K1 hK1 => ?_
  refine cw_region ?_
  refine wl_op rfl rfl (ow_vr (vr_assign (v := .int .i64 0) rfl) ?_)
  refine wl_nil ?_
  refine hK1 _ _ ?_
  refine cw_seq fun K2 hK2 => ?_
  refine cw_seq fun K3 hK3 => ?_
  refine cw_region ?_
  refine wl_op rfl rfl (ow_vr (vr_move (v := .pointer _) rfl) ?_)
  refine wl_op rfl rfl (ow_vr (vr_eqnil Tryz.underlying26 rfl) ?_)
  refine wl_op rfl rfl (ow_vr (vr_move (v := .bool _) rfl) ?_)
  refine wl_known 7 rfl (c := true) (rfl) ?_
  refine wl_noD rfl rfl rfl rfl rfl rfl ?_
  refine wl_noD rfl rfl rfl rfl rfl rfl ?_
  refine wl_noD rfl rfl rfl rfl rfl rfl ?_
  refine wl_noD rfl rfl rfl rfl rfl rfl ?_
  refine wl_noD rfl rfl rfl rfl rfl rfl ?_
  refine wl_noD rfl rfl rfl rfl rfl rfl ?_
  refine wl_op rfl rfl (ow_vr (vr_pick (b := true) (v := .bool _) rfl rfl) ?_)
  refine wl_op rfl rfl (ow_vr (vr_move (v := .bool _) rfl) ?_)
  refine wl_noD rfl rfl rfl rfl rfl rfl ?_
  refine wl_noD rfl rfl rfl rfl rfl rfl ?_
  refine wl_op rfl rfl (ow_vr (vr_pick (b := true) (v := .bool _) rfl rfl) ?_)
  refine wl_nil ?_
  refine hK3 _ _ ?_
  refine cw_cond_t rfl rfl (rfl) ?_
  refine cw_seq fun K4 hK4 => ?_
  refine cw_region ?_
  refine wl_op rfl rfl (ow_vr (vr_assign (v := .int .i64 1) rfl) ?_)
  refine wl_nil ?_
  refine hK4 _ _ ?_
  refine cw_ret ?_
  refine thenF_ret (?_)
  refine ret_one (fn := Tryz.f15) (n := 30) (t := 4) (.inl rfl) rfl rfl ?_
  exact ⟨rfl, hS⟩
end Go.Proofs.YtjcagoighpmdkaaGreatDoor
