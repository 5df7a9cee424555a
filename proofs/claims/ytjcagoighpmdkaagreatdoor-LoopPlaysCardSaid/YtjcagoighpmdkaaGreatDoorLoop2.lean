/- A log's write, Append and Scan. -/
import Derived.Test.YtjcagoighpmdkaaGreatDoorLoop
namespace Go.Proofs.YtjcagoighpmdkaaGreatDoor
open Go Go.RowKit
set_option linter.unusedVariables false
set_option linter.unusedSimpArgs false
theorem changesGo_bound : ∀ (es : List Entr) (k : Nat) (out grp : List (Int × Int)) (n : Int), 0 ≤ n → n ≤ k → 0 ≤ (changesGo es k out grp n).2 ∧ (changesGo es k out grp n).2 ≤ (k : Int) + es.length ∧ (changesGo es k out grp n).1.length ≤ es.length + out.length + grp.length
  | [], k, out, grp, n, h0, h1 => by simp [changesGo]; omega
  | e :: es, k, out, grp, n, h0, h1 => by
    rw [changesGo]
    split
    · have := changesGo_bound es (k + 1) out (grp ++ [(e.cell, e.value)]) n h0 (by omega); simp at this ⊢; omega
    · split
      · have := changesGo_bound es (k + 1) (out ++ grp) [] ((k : Int) + 1) (by omega) (by omega); simp at this ⊢; omega
      · simp; omega
theorem changesE_bound (es : List Entr) : 0 ≤ (changesE es).2 ∧ (changesE es).2 ≤ es.length ∧ (changesE es).1.length ≤ es.length := by
  have := changesGo_bound es 0 [] [] 0 (by omega) (by omega)
  rw [changesE]; simp at this; omega
theorem writeL_n (from_ n : Int) : ∀ (es : List Entr) (d : Dsk), (writeL d from_ n es).2.n = d.n ∧ (writeL d from_ n es).2.waits.length ≤ d.waits.length + es.length ∧ (writeL d from_ n es).2.keep.length ≤ d.keep.length
  | [], d => by
    rw [writeL, barrierD]
    have hf : ∀ d : Dsk, (fallsD d).2.n = d.n := fun d => by rw [fallsD]; split <;> rfl
    have h2 := falls_waits d
    have hn : (doneD d).2.n = d.n := by rw [doneD]; split; exact hf d; exact hf d
    have hk : (doneD d).2.keep.length ≤ d.keep.length := by rw [doneD]; split; simp [crashD]; simp only; rw [h2.2.1]; exact Nat.le_refl _
    have hw := done_waits d
    split
    · exact ⟨rfl, by simp, Nat.le_refl _⟩
    split
    · exact ⟨hn, by simp, hk⟩
    · exact ⟨hn, by simpa using hw, hk⟩
  | e :: es, d => by
    have h := writeD_n d (from_ + e.lsn % n) (putE e)
    rw [writeL]
    split
    · have h2 := writeL_n from_ n es (writeD d (from_ + e.lsn % n) (putE e)).2
      exact ⟨h2.1.trans h.1, by simp; omega, by omega⟩
    · exact ⟨h.1, by simp; omega, h.2.2⟩
attribute [local irreducible] actF WL CW OW PL SW VR LR yes Returns Fn
section
variable {p : Nat} {d : Dsk} {Δ : Chunk}
theorem loop_write (hd : DiskAt p d Δ) (hwd : WfD d) (q : Nat) (L : Lp) (hL : WfL L) (es : List Entr) (v : Value) (De : Chunk) (hv : View 5 encE v es De) (hall : es.all rightE = true) (hn : es.length ≤ 10000) :
    FnM Tryz.prog 26 [ptr q, v] [loopC q p L, Δ] [De] (fun u Δs => ∃ Δ' Derr, Δs = [loopC q p L, Δ', Derr] ∧ DiskAt p (writeL d L.from_ L.n es).2 Δ' ∧ ErrO u (writeL d L.from_ L.n es).1 Derr) := by
  refine FnM.mk fun E F w hS hF => ?_
  have hFe : De ∈ F := hF _ (by simp)
  have hk0 := hwd.keep
  have hw0 := hwd.waits
  have hn0 := hL.n0
  have hn1 := hL.n1
  have hf0 := hL.f0
  have hf1 := hL.f1
  replace hS : Sat E (loopC q p L :: Δ :: F) w := hS
  refine returns_enter Tryz.func26 rfl Tryz.ntmps26 rfl ?_
  refine cw_seq fun K1 hK1 => ?_
  refine cw_region ?_
  refine wl_op rfl rfl (ow_vr (vr_assign (v := .nilIface) rfl) ?_)
  refine wl_nil ?_
  refine hK1 _ _ ?_
  refine cw_seq fun K2 hK2 => ?_
  refine cw_seq fun K3 hK3 => ?_
  refine cw_region ?_
  refine wl_op rfl rfl (ow_vr (vr_move (v := v) rfl) ?_)
  refine wl_op rfl rfl (ow_vr (vr_len_v (v := v) Tryz.underlying63 rfl hv) ?_)
  refine wl_op rfl rfl (ow_vr (vr_move (v := .int .i64 0) rfl) ?_)
  refine wl_nil ?_
  refine hK3 _ _ ?_
  refine cw_block ?_
  refine cw_loop (fun m f w => ∃ (k : Nat) (d' : Dsk) (Δd : Chunk) (g : Nat → Value), f = (upd (upd (upd (upd g 0 (ptr q)) 10 (v)) 11 (.int .i64 (es.length : Int))) 12 (.int .i64 (k : Int))) ∧ (k ≤ es.length ∧ DiskAt p d' Δd ∧ writeL d' L.from_ L.n (es.drop k) = writeL d L.from_ L.n es ∧ d'.waits.length ≤ d.waits.length + k ∧ d'.keep.length ≤ d.keep.length) ∧ m = es.length - k ∧ Sat E (loopC q p L :: Δd :: F) w) ⟨0, d, Δ, _, (reb (reb (reb (reb rfl rfl) rfl) rfl) rfl), ?_, rfl, hS⟩ ?_
  · exact ⟨by omega, hd, rfl, by omega, by omega⟩
  clear hS; rintro m f w ⟨k, d', Δd, g, rfl, hI0, rfl, hS⟩
  obtain ⟨hk, hd', hM, hwk, hkk⟩ := hI0
  refine cw_seq fun K4 hK4 => ?_
  refine cw_region ?_
  refine wl_op rfl rfl (ow_vr (vr_lss rfl rfl) ?_)
  refine wl_nil ?_
  refine hK4 _ _ ?_
  refine cw_seq fun K5 hK5 => ?_
  refine cw_cond rfl rfl (fun hc => ?_) (fun hc => ?_)
  · (try simp only [decide_eq_true_eq, decide_eq_false_iff_not, Bool.not_eq_true, Bool.not_eq_false, Bool.not_eq_true', Bool.not_eq_false', Bool.and_eq_true, Bool.or_eq_true, Bool.and_eq_false_iff, Bool.or_eq_false_iff, Int.not_lt, Int.not_le, gt_iff_lt, ge_iff_le, ne_eq, Decidable.not_not, beq_iff_eq] at hc)
    have hc0 := hc; clear hc
    refine cw_skip ?_
    refine hK5 _ _ ?_
    refine cw_seq fun K6 hK6 => ?_
    refine cw_block ?_
    refine cw_seq fun K7 hK7 => ?_
    obtain ⟨x, hx⟩ := get_lt (xs := es) (k := k) (by omega)
    have hrx : rightE x = true := List.all_eq_true.1 hall x (List.mem_of_getElem? hx)
    have hrs := rightE_spec hrx
    have hmod := mod_in (a := x.lsn) hn0
    have hpx : putE x = laidB x := by rw [putE, if_pos hrx]
    have hll := laid_length hrx
    rw [drop_cons hx, writeL, hpx] at hM
    have hWn := writeD_n d' (L.from_ + x.lsn % L.n) (laidB x)
    refine cw_region ?_
    first | (refine wl_op rfl rfl (ow_vr (vr_indexAddr Tryz.underlying63 sz_74 rfl rfl (by omega) (by omega)) ?_)) | (refine wl_op rfl rfl (ow_vr (vr_indexV (v := v) Tryz.underlying63 sz_74 rfl (by first | assumption | (refine Own.view ?_ (by assumption); exact fun _ => rfl) | exact OwnB.view (by assumption)) rfl (by omega) (by first | omega | (simp <;> omega))) ?_))
    refine wl_op rfl rfl (ow_lr (S := Sat _ _) (lr_loadVA (cs := [.int .i64 _, .int .i64 _, .int .i64 _, .int .i64 _, .int .i64 _]) Tryz.underlying74 rfl sz_74 rfl hv (by repeat (first | exact List.mem_cons_self | assumption | refine List.mem_cons_of_mem _ ?_)) (hx) (by exact fun _ => rfl) (by rfl)) hS ?_)
    refine wl_op rfl rfl (ow_alloc (cs := [_, _, _, _, _]) hS zr_74 rfl ?_)
    clear hS; intro b6 w hS
    refine wl_op rfl rfl (ow_storeA (vs := [.int .i64 _, .int .i64 _, .int .i64 _, .int .i64 _, .int .i64 _]) hS sz_74 rfl rfl rfl (by first | rfl | (simp only [List.all_cons, List.all_nil, Bool.and_true, Bool.and_eq_true]; repeat (first | refine ⟨by first | rfl | assumption, ?_⟩ | rfl | assumption))) (by first | exact Has.here | exact Has.there (Has.here) | exact Has.there (Has.there (Has.here)) | exact Has.there (Has.there (Has.there (Has.here))) | exact Has.there (Has.there (Has.there (Has.there (Has.here)))) | exact Has.there (Has.there (Has.there (Has.there (Has.there (Has.here))))) | exact Has.there (Has.there (Has.there (Has.there (Has.there (Has.there (Has.here)))))) | exact Has.there (Has.there (Has.there (Has.there (Has.there (Has.there (Has.there (Has.here)))))))) (by simp) ?_)
    clear hS; intro w hS; try simp only [putAt, List.set_cons_zero, List.set_cons_succ] at hS
    refine wl_nil ?_
    refine hK7 _ _ ?_
    refine cw_seq fun K8 hK8 => ?_
    refine cw_region ?_
    first | (refine wl_op rfl rfl (ow_lr (S := Sat _ _) (lr_loadA (vs := [.int .i64 _, .int .i64 _, .int .i64 _, .int .i64 _, .int .i64 _]) Tryz.underlying74 rfl sz_74 rfl (by first | exact Has.here | exact Has.there (Has.here) | exact Has.there (Has.there (Has.here)) | exact Has.there (Has.there (Has.there (Has.here))) | exact Has.there (Has.there (Has.there (Has.there (Has.here)))) | exact Has.there (Has.there (Has.there (Has.there (Has.there (Has.here))))) | exact Has.there (Has.there (Has.there (Has.there (Has.there (Has.there (Has.here)))))) | exact Has.there (Has.there (Has.there (Has.there (Has.there (Has.there (Has.there (Has.here)))))))) rfl rfl) hS ?_)) | (refine wl_op rfl rfl (ow_lr (S := Sat _ _) (lr_loadA (vs := [_, _, _, _, _]) Tryz.underlying74 rfl sz_74 rfl (by first | exact Has.here | exact Has.there (Has.here) | exact Has.there (Has.there (Has.here)) | exact Has.there (Has.there (Has.there (Has.here))) | exact Has.there (Has.there (Has.there (Has.there (Has.here)))) | exact Has.there (Has.there (Has.there (Has.there (Has.there (Has.here))))) | exact Has.there (Has.there (Has.there (Has.there (Has.there (Has.there (Has.here)))))) | exact Has.there (Has.there (Has.there (Has.there (Has.there (Has.there (Has.there (Has.here)))))))) rfl rfl) hS ?_))
    refine wl_op rfl rfl (ow_fn (vs := [.agg _]) en_59 rfl hS (entry_PutT hrx) ?_)
    clear hS; rintro v18 _ w ⟨rfl, rfl⟩ hS; (try simp only [List.cons_append, List.nil_append] at hS)
    refine wl_op rfl rfl (ow_vr (vr_move (v := .tuple _) rfl) ?_)
    refine wl_op rfl rfl (ow_vr (vr_extract (v := str _) rfl rfl) ?_)
    refine wl_op rfl rfl (ow_vr (vr_extract (v := .bool _) rfl rfl) ?_)
    refine wl_op rfl rfl (ow_vr (vr_assign (v := str _) rfl) ?_)
    refine wl_op rfl rfl (ow_vr (vr_assign (v := .bool _) rfl) ?_)
    refine wl_nil ?_
    refine hK8 _ _ ?_
    refine cw_seq fun K9 hK9 => ?_
    replace hS := hS.front2
    refine cw_draw_s (Sat E ([(b6, .cells [.int .i64 x.kind, .int .i64 x.lsn, .int .i64 x.epoch, .int .i64 x.cell, .int .i64 x.value].toArray 74 (0, 0))] :: loopC q p L :: F)) hS (fun _ h => h.tail1) (fun _ _ h hg => Sat.below h hg) [(0, 0), (1, 0), (2, 0), (3, 1), (4, 0), (5, 0), (6, 0), (7, 1), (8, 0), (9, 1), (10, 0), (11, 0), (12, 0), (13, 1), (14, 0), (15, 0), (16, 0), (17, 2), (18, 0)] mixed (planFast_ok (by kernel_rfl)) (by rintro _ _ _ ⟨⟩) ?_
    clear hS; intro w hS
    refine pl_take rfl (yes_none rfl) (vr_move (v := (ptr q)) rfl) ?_
    refine pl_take rfl (yes_none rfl) (vr_nilCheck rfl) ?_
    first | (refine pl_take rfl (yes_none rfl) (vr_fieldAddr fo_62_0 rfl) ?_) | (refine pl_take rfl (yes_none rfl) (vr_fieldAddrV fo_62_0 rfl (by first | assumption | (refine Own.view ?_ (by assumption); exact fun _ => rfl) | exact OwnB.view (by assumption)) (by first | omega | (simp <;> omega))) ?_)
    refine pl_load rfl (yes_none rfl) (lr_load1 Tryz.underlying24 rfl rfl (by first | exact Has.here | exact Has.there (Has.here) | exact Has.there (Has.there (Has.here)) | exact Has.there (Has.there (Has.there (Has.here))) | exact Has.there (Has.there (Has.there (Has.there (Has.here)))) | exact Has.there (Has.there (Has.there (Has.there (Has.there (Has.here))))) | exact Has.there (Has.there (Has.there (Has.there (Has.there (Has.there (Has.here)))))) | exact Has.there (Has.there (Has.there (Has.there (Has.there (Has.there (Has.there (Has.here)))))))) rfl) ?_
    refine pl_take rfl (yes_none rfl) (vr_move (v := (ptr q)) rfl) ?_
    refine pl_take rfl (yes_none rfl) (vr_nilCheck rfl) ?_
    first | (refine pl_take rfl (yes_none rfl) (vr_fieldAddr fo_62_1 rfl) ?_) | (refine pl_take rfl (yes_none rfl) (vr_fieldAddrV fo_62_1 rfl (by first | assumption | (refine Own.view ?_ (by assumption); exact fun _ => rfl) | exact OwnB.view (by assumption)) (by first | omega | (simp <;> omega))) ?_)
    refine pl_load rfl (yes_none rfl) (lr_load1 Tryz.underlying3 rfl rfl (by first | exact Has.here | exact Has.there (Has.here) | exact Has.there (Has.there (Has.here)) | exact Has.there (Has.there (Has.there (Has.here))) | exact Has.there (Has.there (Has.there (Has.there (Has.here)))) | exact Has.there (Has.there (Has.there (Has.there (Has.there (Has.here))))) | exact Has.there (Has.there (Has.there (Has.there (Has.there (Has.there (Has.here)))))) | exact Has.there (Has.there (Has.there (Has.there (Has.there (Has.there (Has.there (Has.here)))))))) rfl) ?_
    first | (refine pl_take rfl (yes_none rfl) (vr_fieldAddr fo_74_1 rfl) ?_) | (refine pl_take rfl (yes_none rfl) (vr_fieldAddrV fo_74_1 rfl (by first | assumption | (refine Own.view ?_ (by assumption); exact fun _ => rfl) | exact OwnB.view (by assumption)) (by first | omega | (simp <;> omega))) ?_)
    refine pl_load rfl (yes_none rfl) (lr_load1 Tryz.underlying3 rfl rfl (by first | exact Has.here | exact Has.there (Has.here) | exact Has.there (Has.there (Has.here)) | exact Has.there (Has.there (Has.there (Has.here))) | exact Has.there (Has.there (Has.there (Has.there (Has.here)))) | exact Has.there (Has.there (Has.there (Has.there (Has.there (Has.here))))) | exact Has.there (Has.there (Has.there (Has.there (Has.there (Has.there (Has.here)))))) | exact Has.there (Has.there (Has.there (Has.there (Has.there (Has.there (Has.there (Has.here)))))))) rfl) ?_
    refine pl_take rfl (yes_none rfl) (vr_move (v := (ptr q)) rfl) ?_
    refine pl_take rfl (yes_none rfl) (vr_nilCheck rfl) ?_
    first | (refine pl_take rfl (yes_none rfl) (vr_fieldAddr fo_62_2 rfl) ?_) | (refine pl_take rfl (yes_none rfl) (vr_fieldAddrV fo_62_2 rfl (by first | assumption | (refine Own.view ?_ (by assumption); exact fun _ => rfl) | exact OwnB.view (by assumption)) (by first | omega | (simp <;> omega))) ?_)
    refine pl_load rfl (yes_none rfl) (lr_load1 Tryz.underlying3 rfl rfl (by first | exact Has.here | exact Has.there (Has.here) | exact Has.there (Has.there (Has.here)) | exact Has.there (Has.there (Has.there (Has.here))) | exact Has.there (Has.there (Has.there (Has.there (Has.here)))) | exact Has.there (Has.there (Has.there (Has.there (Has.there (Has.here))))) | exact Has.there (Has.there (Has.there (Has.there (Has.there (Has.there (Has.here)))))) | exact Has.there (Has.there (Has.there (Has.there (Has.there (Has.there (Has.there (Has.here)))))))) rfl) ?_
    refine pl_take rfl (yes_none rfl) (vr_rem rfl rfl (by omega) (by omega)) ?_
    first | (refine pl_take rfl (yes_none rfl) (vr_addi rfl rfl (by unfold inI64; omega)) ?_) | (refine pl_take rfl (yes_none rfl) (vr_add rfl rfl) ?_)
    refine pl_take rfl (yes_none rfl) (vr_move (v := str _) rfl) ?_
    refine pl_act hS rfl (yes_none rfl) ?_
    clear hS; intro w hS
    refine (ow_fn (vs := [.pointer _, .int .i64 _, str _]) en_60 rfl hS (disk_Write hd' (L.from_ + x.lsn % L.n) (laidB x) (by omega) (by omega) (by omega)) ?_)
    clear hS; rintro v38 _ w ⟨rfl, Δ2, rfl, hd2⟩ hS; (try simp only [List.cons_append, List.nil_append] at hS)
    refine ⟨by first | exact hS | exact hS.tail1 | exact hS.tail1.tail1 | exact hS.tail1.tail1.tail1, ?_⟩
    refine pl_take rfl (yes_none rfl) (vr_assign (v := .int .i64 _) rfl) ?_
    refine pl_nil hS ?_
    clear hS; intro w hS
    refine hK9 _ _ ?_
    refine cw_seq fun K10 hK10 => ?_
    refine cw_region ?_
    refine wl_op rfl rfl (ow_vr (vr_move (v := .int .i64 _) rfl) ?_)
    refine wl_op rfl rfl (ow_vr (vr_neq rfl rfl) ?_)
    refine wl_nil ?_
    refine hK10 _ _ ?_
    refine cw_cond rfl rfl (fun hc => ?_) (fun hc => ?_)
    · (try simp only [decide_eq_true_eq, decide_eq_false_iff_not, Bool.not_eq_true, Bool.not_eq_false, Bool.not_eq_true', Bool.not_eq_false', Bool.and_eq_true, Bool.or_eq_true, Bool.and_eq_false_iff, Bool.or_eq_false_iff, Int.not_lt, Int.not_le, gt_iff_lt, ge_iff_le, ne_eq, Decidable.not_not, beq_iff_eq] at hc)
      have hbad := hc; clear hc
      refine cw_seq fun K11 hK11 => ?_
      rw [if_neg hbad] at hM
      refine cw_region ?_
      refine wl_op rfl rfl (ow_vr (vr_move (v := .int .i64 _) rfl) ?_)
      first | (refine wl_op rfl rfl (ow_vr (vr_fieldAddr fo_74_1 rfl) ?_)) | (refine wl_op rfl rfl (ow_vr (vr_fieldAddrV fo_74_1 rfl (by first | assumption | (refine Own.view ?_ (by assumption); exact fun _ => rfl) | exact OwnB.view (by assumption)) (by first | omega | (simp <;> omega))) ?_))
      refine wl_op rfl rfl (ow_lr (S := Sat _ _) (lr_load1 Tryz.underlying3 rfl rfl (by first | exact Has.here | exact Has.there (Has.here) | exact Has.there (Has.there (Has.here)) | exact Has.there (Has.there (Has.there (Has.here))) | exact Has.there (Has.there (Has.there (Has.there (Has.here)))) | exact Has.there (Has.there (Has.there (Has.there (Has.there (Has.here))))) | exact Has.there (Has.there (Has.there (Has.there (Has.there (Has.there (Has.here)))))) | exact Has.there (Has.there (Has.there (Has.there (Has.there (Has.there (Has.there (Has.here)))))))) rfl) hS ?_)
      refine wl_op rfl rfl (ow_fn (vs := [.int .i64 _, .int .i64 _]) en_62 rfl hS (trap_New _ _) ?_)
      clear hS; rintro v44 _ w ⟨De1, rfl, he1⟩ hS; (try simp only [List.cons_append, List.nil_append] at hS)
      refine wl_op rfl rfl (ow_fn (vs := [v44, str _]) en_61 rfl hS (trap_In he1 _) ?_)
      clear hS; rintro v45 _ w ⟨De2, rfl, he2⟩ hS; (try simp only [List.cons_append, List.nil_append] at hS)
      refine wl_op rfl rfl (ow_vr (vr_assign (v := v45) rfl) ?_)
      refine wl_nil ?_
      refine hK11 _ _ ?_
      refine cw_ret ?_
      refine inB_ret (thenF_ret (thenF_ret (inB_ret (thenF_ret (?_)))))
      refine ret_one (fn := Tryz.f26) (n := 58) (t := 4) (.inl rfl) rfl rfl ?_
      exact ⟨[_, _, _], ⟨Δ2, De2, rfl, by rw [← hM]; exact hd2, by rw [← hM]; exact he2⟩, (show Sat E ([loopC q p L, Δ2, De2] ++ F) w from (hS.front2.tail1).perm (by classical exact List.perm_iff_count.2 fun x => by simp only [List.cons_append, List.nil_append, List.flatten_cons, List.flatten_nil, List.flatten_append, List.count_append, List.append_nil, List.count_cons, List.count_nil] <;> omega))⟩
    · (try simp only [decide_eq_true_eq, decide_eq_false_iff_not, Bool.not_eq_true, Bool.not_eq_false, Bool.not_eq_true', Bool.not_eq_false', Bool.and_eq_true, Bool.or_eq_true, Bool.and_eq_false_iff, Bool.or_eq_false_iff, Int.not_lt, Int.not_le, gt_iff_lt, ge_iff_le, ne_eq, Decidable.not_not, beq_iff_eq] at hc)
      have hbad := hc; clear hc
      refine cw_skip ?_
      refine hK6 _ _ ?_
      refine cw_region ?_
      first | (refine wl_op rfl rfl (ow_vr (vr_addi rfl rfl (by unfold inI64; omega)) ?_)) | (refine wl_op rfl rfl (ow_vr (vr_add rfl rfl) ?_))
      refine wl_op rfl rfl (ow_vr (vr_move (v := .int .i64 _) rfl) ?_)
      refine wl_nil ?_
      replace hS := hS.front1.tail1.front1
      refine thenF_normal ⟨_, ?_, k + 1, (writeD d' (L.from_ + x.lsn % L.n) (laidB x)).2, Δ2, _, (reb (reb (reb (reb rfl rfl) rfl) rfl) rfl), ?_, rfl, hS⟩
      · omega
      · exact ⟨by omega, hd2, by rw [← hM, if_pos (by omega)], by omega, by omega⟩
  · (try simp only [decide_eq_true_eq, decide_eq_false_iff_not, Bool.not_eq_true, Bool.not_eq_false, Bool.not_eq_true', Bool.not_eq_false', Bool.and_eq_true, Bool.or_eq_true, Bool.and_eq_false_iff, Bool.or_eq_false_iff, Int.not_lt, Int.not_le, gt_iff_lt, ge_iff_le, ne_eq, Decidable.not_not, beq_iff_eq] at hc)
    have hc0 := hc; clear hc
    refine cw_exit ?_
    refine hK2 _ _ ?_
    refine cw_seq fun K12 hK12 => ?_
    rw [show k = es.length by omega, List.drop_length, writeL] at hM
    replace hS := hS.front1
    refine cw_draw_s (Sat E (loopC q p L :: F)) hS (fun _ h => h.tail1) (fun _ _ h hg => Sat.below h hg) [(0, 0), (1, 0), (2, 0), (3, 1), (5, 0), (6, 0), (7, 0), (8, 1), (4, 2), (9, 2), (10, 2), (11, 0)] mixed (planFast_ok (by kernel_rfl)) (by rintro _ _ _ ⟨⟩) ?_
    clear hS; intro w hS
    refine pl_take rfl (yes_none rfl) (vr_move (v := (ptr q)) rfl) ?_
    refine pl_take rfl (yes_none rfl) (vr_nilCheck rfl) ?_
    first | (refine pl_take rfl (yes_none rfl) (vr_fieldAddr fo_62_0 rfl) ?_) | (refine pl_take rfl (yes_none rfl) (vr_fieldAddrV fo_62_0 rfl (by first | assumption | (refine Own.view ?_ (by assumption); exact fun _ => rfl) | exact OwnB.view (by assumption)) (by first | omega | (simp <;> omega))) ?_)
    refine pl_load rfl (yes_none rfl) (lr_load1 Tryz.underlying24 rfl rfl (by first | exact Has.here | exact Has.there (Has.here) | exact Has.there (Has.there (Has.here)) | exact Has.there (Has.there (Has.there (Has.here))) | exact Has.there (Has.there (Has.there (Has.there (Has.here)))) | exact Has.there (Has.there (Has.there (Has.there (Has.there (Has.here))))) | exact Has.there (Has.there (Has.there (Has.there (Has.there (Has.there (Has.here)))))) | exact Has.there (Has.there (Has.there (Has.there (Has.there (Has.there (Has.there (Has.here)))))))) rfl) ?_
    refine pl_take rfl (yes_none rfl) (vr_move (v := (ptr q)) rfl) ?_
    refine pl_take rfl (yes_none rfl) (vr_nilCheck rfl) ?_
    first | (refine pl_take rfl (yes_none rfl) (vr_fieldAddr fo_62_4 rfl) ?_) | (refine pl_take rfl (yes_none rfl) (vr_fieldAddrV fo_62_4 rfl (by first | assumption | (refine Own.view ?_ (by assumption); exact fun _ => rfl) | exact OwnB.view (by assumption)) (by first | omega | (simp <;> omega))) ?_)
    refine pl_load rfl (yes_none rfl) (lr_load1 Tryz.underlying3 rfl rfl (by first | exact Has.here | exact Has.there (Has.here) | exact Has.there (Has.there (Has.here)) | exact Has.there (Has.there (Has.there (Has.here))) | exact Has.there (Has.there (Has.there (Has.there (Has.here)))) | exact Has.there (Has.there (Has.there (Has.there (Has.there (Has.here))))) | exact Has.there (Has.there (Has.there (Has.there (Has.there (Has.there (Has.here)))))) | exact Has.there (Has.there (Has.there (Has.there (Has.there (Has.there (Has.there (Has.here)))))))) rfl) ?_
    refine pl_act hS rfl (yes_none rfl) ?_
    clear hS; intro w hS
    refine (ow_fn (vs := [.pointer _]) en_63 rfl hS (disk_Barrier hd' (by omega) (by omega)) ?_)
    clear hS; rintro v51 _ w ⟨rfl, Δ3, rfl, hd3⟩ hS; (try simp only [List.cons_append, List.nil_append] at hS)
    refine ⟨by first | exact hS | exact hS.tail1 | exact hS.tail1.tail1 | exact hS.tail1.tail1.tail1, ?_⟩
    refine pl_act hS rfl (yes_none rfl) ?_
    clear hS; intro w hS
    refine (ow_fn (vs := [.int .i64 _, .int .i64 _]) en_62 rfl hS (trap_New _ _) ?_)
    clear hS; rintro v56 _ w ⟨De3, rfl, he3⟩ hS; (try simp only [List.cons_append, List.nil_append] at hS)
    refine ⟨by first | exact hS | exact hS.tail1 | exact hS.tail1.tail1 | exact hS.tail1.tail1.tail1, ?_⟩
    refine pl_act hS rfl (yes_none rfl) ?_
    clear hS; intro w hS
    refine (ow_fn (vs := [v56, str _]) en_61 rfl hS (trap_In he3 _) ?_)
    clear hS; rintro v57 _ w ⟨De4, rfl, he4⟩ hS; (try simp only [List.cons_append, List.nil_append] at hS)
    refine ⟨by first | exact hS | exact hS.tail1 | exact hS.tail1.tail1 | exact hS.tail1.tail1.tail1, ?_⟩
    refine pl_take rfl (yes_none rfl) (vr_assign (v := v57) rfl) ?_
    refine pl_nil hS ?_
    clear hS; intro w hS
    refine hK12 _ _ ?_
    refine cw_ret ?_
    refine ret_one (fn := Tryz.f26) (n := 58) (t := 4) (.inl rfl) rfl rfl ?_
    exact ⟨[_, _, _], ⟨Δ3, De4, rfl, by rw [← hM]; exact hd3, by rw [← hM]; exact he4⟩, (show Sat E ([loopC q p L, Δ3, De4] ++ F) w from hS.perm (by classical exact List.perm_iff_count.2 fun x => by simp only [List.cons_append, List.nil_append, List.flatten_cons, List.flatten_nil, List.flatten_append, List.count_append, List.append_nil, List.count_cons, List.count_nil] <;> omega))⟩
theorem loop_Append (hd : DiskAt p d Δ) (hwd : WfD d) (q : Nat) (L : Lp) (hL : WfL L) (c : List (Int × Int)) (v : Value) (Dc G : Chunk) (hv : View 2 encC v c Dc) (hG : Glob G) (hn : c.length ≤ 5000) :
    FnM Tryz.prog 8 [ptr q, v] [loopC q p L, Δ] [Dc, G] (fun u Δs => u = .int .i64 (appendL d L c).1 ∧ ∃ Δ', Δs = [loopC q p (appendL d L c).2.2, Δ'] ∧ DiskAt p (appendL d L c).2.1 Δ') := by
  refine FnM.mk fun E F w hS hF => ?_
  have hFc : Dc ∈ F := hF _ (by simp)
  have hFg : G ∈ F := hF _ (by simp)
  have h1 := hL.n0; have h2 := hL.n1; have h3 := hL.h0; have h4 := hL.h1; have h5 := hL.h2; have h6 := hL.x
  have hgl := groupL_length L.next L.epoch c
  replace hS : Sat E (loopC q p L :: Δ :: F) w := hS
  refine returns_enter Tryz.func8 rfl Tryz.ntmps8 rfl ?_
  refine cw_seq fun K1 hK1 => ?_
  refine cw_region ?_
  refine wl_op rfl rfl (ow_vr (vr_assign (v := .int .i64 0) rfl) ?_)
  refine wl_nil ?_
  refine hK1 _ _ ?_
  refine cw_seq fun K2 hK2 => ?_
  refine cw_seq fun K3 hK3 => ?_
  refine cw_region ?_
  refine wl_op rfl rfl (ow_vr (vr_move (v := .pointer _) rfl) ?_)
  refine wl_op rfl rfl (ow_vr (vr_eqnil Tryz.underlying26 rfl) ?_)
  refine wl_nil ?_
  refine hK3 _ _ ?_
  refine cw_cond_f rfl rfl (rfl) ?_
  refine cw_skip ?_
  refine hK2 _ _ ?_
  refine cw_seq fun K4 hK4 => ?_
  refine cw_draw_sat hS [(0, 0), (1, 0), (2, 0), (3, 1), (4, 0), (5, 0), (6, 0), (7, 1), (8, 0), (9, 2), (10, 0), (11, 0), (12, 0), (13, 0), (14, 0)] mixed (planFast_ok (by kernel_rfl)) (by rintro _ _ _ ⟨⟩) ?_
  clear hS; intro w hS
  refine pl_take rfl (yes_none rfl) (vr_move (v := .pointer _) rfl) ?_
  refine pl_take rfl (yes_none rfl) (vr_nilCheck rfl) ?_
  first | (refine pl_take rfl (yes_none rfl) (vr_fieldAddr fo_62_4 rfl) ?_) | (refine pl_take rfl (yes_none rfl) (vr_fieldAddrV fo_62_4 rfl (by first | assumption | (refine Own.view ?_ (by assumption); exact fun _ => rfl) | exact OwnB.view (by assumption)) (by first | omega | (simp <;> omega))) ?_)
  refine pl_load rfl (yes_none rfl) (lr_load1 Tryz.underlying3 rfl rfl (by first | exact Has.here | exact Has.there (Has.here) | exact Has.there (Has.there (Has.here)) | exact Has.there (Has.there (Has.there (Has.here))) | exact Has.there (Has.there (Has.there (Has.there (Has.here)))) | exact Has.there (Has.there (Has.there (Has.there (Has.there (Has.here))))) | exact Has.there (Has.there (Has.there (Has.there (Has.there (Has.there (Has.here)))))) | exact Has.there (Has.there (Has.there (Has.there (Has.there (Has.there (Has.there (Has.here)))))))) rfl) ?_
  refine pl_take rfl (yes_none rfl) (vr_move (v := .pointer _) rfl) ?_
  refine pl_take rfl (yes_none rfl) (vr_nilCheck rfl) ?_
  first | (refine pl_take rfl (yes_none rfl) (vr_fieldAddr fo_62_5 rfl) ?_) | (refine pl_take rfl (yes_none rfl) (vr_fieldAddrV fo_62_5 rfl (by first | assumption | (refine Own.view ?_ (by assumption); exact fun _ => rfl) | exact OwnB.view (by assumption)) (by first | omega | (simp <;> omega))) ?_)
  refine pl_load rfl (yes_none rfl) (lr_load1 Tryz.underlying3 rfl rfl (by first | exact Has.here | exact Has.there (Has.here) | exact Has.there (Has.there (Has.here)) | exact Has.there (Has.there (Has.there (Has.here))) | exact Has.there (Has.there (Has.there (Has.there (Has.here)))) | exact Has.there (Has.there (Has.there (Has.there (Has.there (Has.here))))) | exact Has.there (Has.there (Has.there (Has.there (Has.there (Has.there (Has.here)))))) | exact Has.there (Has.there (Has.there (Has.there (Has.there (Has.there (Has.there (Has.here)))))))) rfl) ?_
  refine pl_take rfl (yes_none rfl) (vr_move (v := v) rfl) ?_
  refine pl_act hS rfl (yes_none rfl) ?_
  clear hS; intro w hS
  refine (ow_fng (vs := [.int .i64 _, .int .i64 _, v]) en_25 rfl hS (entry_GroupA L.next L.epoch c v Dc hv (by omega) (by unfold inI64; omega)) (by repeat (first | exact needs0 | (refine needsC ?_ ?_; · (repeat (first | exact List.mem_cons_self | assumption | refine List.mem_cons_of_mem _ ?_))))) ?_)
  clear hS; rintro v20 _ w ⟨vG, DG, rfl, rfl, hoG⟩ hS; (try simp only [List.cons_append, List.nil_append] at hS)
  refine ⟨by first | exact hS | exact hS.tail1 | exact hS.tail1.tail1 | exact hS.tail1.tail1.tail1, ?_⟩
  refine pl_take rfl (yes_none rfl) (vr_move (v := .tuple _) rfl) ?_
  refine pl_take rfl (yes_none rfl) (vr_extract (v := vG) rfl rfl) ?_
  refine pl_take rfl (yes_none rfl) (vr_extract (v := .bool _) rfl rfl) ?_
  refine pl_take rfl (yes_none rfl) (vr_assign (v := vG) rfl) ?_
  refine pl_take rfl (yes_none rfl) (vr_assign (v := .bool _) rfl) ?_
  refine pl_nil hS ?_
  clear hS; intro w hS
  refine hK4 _ _ ?_
  refine cw_seq fun K5 hK5 => ?_
  refine cw_block ?_
  refine cw_seq fun K6 hK6 => ?_
  refine cw_region ?_
  refine wl_op rfl rfl (ow_vr (vr_move (v := .bool _) rfl) ?_)
  refine wl_op rfl rfl (ow_vr (vr_not rfl) ?_)
  refine wl_op rfl rfl (ow_vr (vr_assign (v := .bool _) rfl) ?_)
  refine wl_nil ?_
  refine hK6 _ _ ?_
  refine cw_cond rfl rfl (fun hc => ?_) (fun hc => ?_)
  · (try simp only [decide_eq_true_eq, decide_eq_false_iff_not, Bool.not_eq_true, Bool.not_eq_false, Bool.not_eq_true', Bool.not_eq_false', Bool.and_eq_true, Bool.or_eq_true, Bool.and_eq_false_iff, Bool.or_eq_false_iff, Int.not_lt, Int.not_le, gt_iff_lt, ge_iff_le, ne_eq, Decidable.not_not, beq_iff_eq] at hc)
    have hall := hc; clear hc
    refine cw_seq fun K7 hK7 => ?_
    have he : appendL d L c = (1, d, L) := by rw [appendL, if_neg (by simp_all)]
    refine cw_region ?_
    refine wl_op rfl rfl (ow_vr (vr_assign (v := .int .i64 1) rfl) ?_)
    refine wl_nil ?_
    refine hK7 _ _ ?_
    refine cw_ret ?_
    refine inB_ret (thenF_ret (?_))
    refine ret_one (fn := Tryz.f8) (n := 48) (t := 4) (.inl rfl) rfl rfl ?_
    exact ⟨[_, Δ], ⟨by rw [he] <;> rfl, Δ, by rw [he], by rw [he]; exact hd⟩, hS.tail1⟩
  · (try simp only [decide_eq_true_eq, decide_eq_false_iff_not, Bool.not_eq_true, Bool.not_eq_false, Bool.not_eq_true', Bool.not_eq_false', Bool.and_eq_true, Bool.or_eq_true, Bool.and_eq_false_iff, Bool.or_eq_false_iff, Int.not_lt, Int.not_le, gt_iff_lt, ge_iff_le, ne_eq, Decidable.not_not, beq_iff_eq] at hc)
    have hall := hc; clear hc
    refine cw_seq fun K8 hK8 => ?_
    replace hall : (groupL L.next L.epoch c).all rightE = true := by simpa using hall
    rw [if_pos hall] at hoG
    have hvG := hoG.view (by exact fun _ => rfl)
    replace hS := hS.front1
    refine cw_region ?_
    refine wl_op rfl rfl (ow_vr (vr_move (v := .pointer _) rfl) ?_)
    refine wl_op rfl rfl (ow_fn (vs := [.pointer _]) en_21 rfl hS (loop_Room q p L hL) ?_)
    clear hS; rintro v28 _ w ⟨rfl, rfl⟩ hS; (try simp only [List.cons_append, List.nil_append] at hS)
    refine wl_op rfl rfl (ow_vr (vr_move (v := vG) rfl) ?_)
    refine wl_op rfl rfl (ow_vr (vr_len_v (v := vG) Tryz.underlying63 rfl hvG) ?_)
    refine wl_op rfl rfl (ow_vr (vr_lss rfl rfl) ?_)
    refine wl_op rfl rfl (ow_vr (vr_assign (v := .bool _) rfl) ?_)
    refine wl_nil ?_
    refine hK8 _ _ ?_
    refine cw_cond rfl rfl (fun hc => ?_) (fun hc => ?_)
    · (try simp only [decide_eq_true_eq, decide_eq_false_iff_not, Bool.not_eq_true, Bool.not_eq_false, Bool.not_eq_true', Bool.not_eq_false', Bool.and_eq_true, Bool.or_eq_true, Bool.and_eq_false_iff, Bool.or_eq_false_iff, Int.not_lt, Int.not_le, gt_iff_lt, ge_iff_le, ne_eq, Decidable.not_not, beq_iff_eq] at hc)
      have hroom := hc; clear hc
      refine cw_seq fun K9 hK9 => ?_
      have he : appendL d L c = (5, d, L) := by rw [appendL, if_pos hall, if_pos hroom]
      refine cw_region ?_
      refine wl_op rfl rfl (ow_vr (vr_assign (v := .int .i64 5) rfl) ?_)
      refine wl_nil ?_
      refine hK9 _ _ ?_
      refine cw_ret ?_
      refine inB_ret (thenF_ret (?_))
      refine ret_one (fn := Tryz.f8) (n := 48) (t := 4) (.inl rfl) rfl rfl ?_
      exact ⟨[_, Δ], ⟨by rw [he] <;> rfl, Δ, by rw [he], by rw [he]; exact hd⟩, hS.front1.tail1⟩
    · (try simp only [decide_eq_true_eq, decide_eq_false_iff_not, Bool.not_eq_true, Bool.not_eq_false, Bool.not_eq_true', Bool.not_eq_false', Bool.and_eq_true, Bool.or_eq_true, Bool.and_eq_false_iff, Bool.or_eq_false_iff, Int.not_lt, Int.not_le, gt_iff_lt, ge_iff_le, ne_eq, Decidable.not_not, beq_iff_eq] at hc)
      have hroom := hc; clear hc
      refine cw_skip ?_
      refine hK5 _ _ ?_
      refine cw_seq fun K10 hK10 => ?_
      refine cw_seq fun K11 hK11 => ?_
      replace hS := hS.perm (flat_cons flat_swap)
      refine cw_region ?_
      refine wl_op rfl rfl (ow_vr (vr_move (v := .pointer _) rfl) ?_)
      refine wl_op rfl rfl (ow_vr (vr_move (v := vG) rfl) ?_)
      refine wl_op rfl rfl (ow_fnm (vs := [.pointer _, vG]) en_26 rfl hS (loop_write hd hwd q L hL _ vG DG hvG hall (by omega)) (by repeat (first | exact needs0 | (refine needsC ?_ ?_; · (repeat (first | exact List.mem_cons_self | assumption | refine List.mem_cons_of_mem _ ?_))))) ?_)
      clear hS; rintro v34 _ w ⟨Δ2, Derr, rfl, hd2, herr⟩ hS; (try simp only [List.cons_append, List.nil_append] at hS)
      refine wl_op rfl rfl (ow_vr (vr_assign (v := v34) rfl) ?_)
      refine wl_nil ?_
      refine hK11 _ _ ?_
      refine cw_seq fun K12 hK12 => ?_
      have hii := herr.isI
      have hni := herr.nil
      refine cw_region ?_
      refine wl_op rfl rfl (ow_vr (vr_move (v := v34) rfl) ?_)
      refine wl_op rfl rfl (ow_vr (vr_nenilI (v := v34) Tryz.underlying67 rfl (by first | assumption | rfl)) ?_)
      refine wl_nil ?_
      refine hK12 _ _ ?_
      refine cw_cond rfl rfl (fun hc => ?_) (fun hc => ?_)
      · (try simp only [decide_eq_true_eq, decide_eq_false_iff_not, Bool.not_eq_true, Bool.not_eq_false, Bool.not_eq_true', Bool.not_eq_false', Bool.and_eq_true, Bool.or_eq_true, Bool.and_eq_false_iff, Bool.or_eq_false_iff, Int.not_lt, Int.not_le, gt_iff_lt, ge_iff_le, ne_eq, Decidable.not_not, beq_iff_eq] at hc)
        have hbad := hc; clear hc
        refine cw_seq fun K13 hK13 => ?_
        have hne : (writeL d L.from_ L.n (groupL L.next L.epoch c)).1 ≠ 0 := by rw [hni] at hbad; simpa using hbad
        have he : appendL d L c = ((writeL d L.from_ L.n (groupL L.next L.epoch c)).1, (writeL d L.from_ L.n (groupL L.next L.epoch c)).2, L) := by rw [appendL, if_pos hall, if_neg (by omega), if_neg hne]
        refine cw_region ?_
        refine wl_op rfl rfl (ow_vr (vr_move (v := v34) rfl) ?_)
        refine wl_op rfl rfl (ow_fng (vs := [v34]) en_27 rfl hS (trap_Errno herr hG) (by repeat (first | exact needs0 | (refine needsC ?_ ?_; · (repeat (first | exact List.mem_cons_self | assumption | refine List.mem_cons_of_mem _ ?_))))) ?_)
        clear hS; rintro v38 _ w ⟨rfl, rfl⟩ hS; (try simp only [List.cons_append, List.nil_append] at hS)
        refine wl_op rfl rfl (ow_vr (vr_assign (v := .int .i64 _) rfl) ?_)
        refine wl_nil ?_
        refine hK13 _ _ ?_
        refine cw_ret ?_
        refine thenF_ret (?_)
        refine ret_one (fn := Tryz.f8) (n := 48) (t := 4) (.inl rfl) rfl rfl ?_
        exact ⟨[_, Δ2], ⟨by rw [he] <;> rfl, Δ2, by rw [he], by rw [he]; exact hd2⟩, hS.sub (by simp)⟩
      · (try simp only [decide_eq_true_eq, decide_eq_false_iff_not, Bool.not_eq_true, Bool.not_eq_false, Bool.not_eq_true', Bool.not_eq_false', Bool.and_eq_true, Bool.or_eq_true, Bool.and_eq_false_iff, Bool.or_eq_false_iff, Int.not_lt, Int.not_le, gt_iff_lt, ge_iff_le, ne_eq, Decidable.not_not, beq_iff_eq] at hc)
        have hbad := hc; clear hc
        refine cw_skip ?_
        refine hK10 _ _ ?_
        refine cw_seq fun K14 hK14 => ?_
        have h0 : (writeL d L.from_ L.n (groupL L.next L.epoch c)).1 = 0 := by rw [hni] at hbad; simpa using hbad
        have he : appendL d L c = (0, (writeL d L.from_ L.n (groupL L.next L.epoch c)).2, { L with next := L.next + (groupL L.next L.epoch c).length }) := by rw [appendL, if_pos hall, if_neg (by omega), if_pos h0]
        refine cw_region ?_
        refine wl_op rfl rfl (ow_vr (vr_move (v := .pointer _) rfl) ?_)
        refine wl_op rfl rfl (ow_vr (vr_nilCheck rfl) ?_)
        first | (refine wl_op rfl rfl (ow_vr (vr_fieldAddr fo_62_4 rfl) ?_)) | (refine wl_op rfl rfl (ow_vr (vr_fieldAddrV fo_62_4 rfl (by first | assumption | (refine Own.view ?_ (by assumption); exact fun _ => rfl) | exact OwnB.view (by assumption)) (by first | omega | (simp <;> omega))) ?_))
        refine wl_op rfl rfl (ow_lr (S := Sat _ _) (lr_load1 Tryz.underlying3 rfl rfl (by first | exact Has.here | exact Has.there (Has.here) | exact Has.there (Has.there (Has.here)) | exact Has.there (Has.there (Has.there (Has.here))) | exact Has.there (Has.there (Has.there (Has.there (Has.here)))) | exact Has.there (Has.there (Has.there (Has.there (Has.there (Has.here))))) | exact Has.there (Has.there (Has.there (Has.there (Has.there (Has.there (Has.here)))))) | exact Has.there (Has.there (Has.there (Has.there (Has.there (Has.there (Has.there (Has.here)))))))) rfl) hS ?_)
        refine wl_op rfl rfl (ow_vr (vr_move (v := vG) rfl) ?_)
        refine wl_op rfl rfl (ow_vr (vr_len_v (v := vG) Tryz.underlying63 rfl hvG) ?_)
        first | (refine wl_op rfl rfl (ow_vr (vr_addi rfl rfl (by unfold inI64; omega)) ?_)) | (refine wl_op rfl rfl (ow_vr (vr_add rfl rfl) ?_))
        refine wl_op rfl rfl (ow_vr (vr_nilCheck rfl) ?_)
        first | (refine wl_op rfl rfl (ow_vr (vr_fieldAddr fo_62_4 rfl) ?_)) | (refine wl_op rfl rfl (ow_vr (vr_fieldAddrV fo_62_4 rfl (by first | assumption | (refine Own.view ?_ (by assumption); exact fun _ => rfl) | exact OwnB.view (by assumption)) (by first | omega | (simp <;> omega))) ?_))
        refine wl_op rfl rfl (ow_store1 (v := .int .i64 _) hS sz_3 rfl rfl (by first | rfl | exact Own.isOne (by assumption)) (by first | exact Has.here | exact Has.there (Has.here) | exact Has.there (Has.there (Has.here)) | exact Has.there (Has.there (Has.there (Has.here))) | exact Has.there (Has.there (Has.there (Has.there (Has.here)))) | exact Has.there (Has.there (Has.there (Has.there (Has.there (Has.here))))) | exact Has.there (Has.there (Has.there (Has.there (Has.there (Has.there (Has.here)))))) | exact Has.there (Has.there (Has.there (Has.there (Has.there (Has.there (Has.there (Has.here)))))))) (by simp) ?_)
        clear hS; intro w hS; try simp only [List.set_cons_zero, List.set_cons_succ] at hS
        refine wl_nil ?_
        refine hK14 _ _ ?_
        refine cw_seq fun K15 hK15 => ?_
        refine cw_region ?_
        refine wl_op rfl rfl (ow_vr (vr_assign (v := .int .i64 0) rfl) ?_)
        refine wl_nil ?_
        refine hK15 _ _ ?_
        refine cw_ret ?_
        refine ret_one (fn := Tryz.f8) (n := 48) (t := 4) (.inl rfl) rfl rfl ?_
        exact ⟨[_, Δ2], ⟨by rw [he] <;> rfl, Δ2, by rw [he], by rw [he]; exact hd2⟩, hS.sub (by simp)⟩
theorem loop_Append0 (v : Value) : FnV Tryz.prog 8 [.pointer none, v] (.int .i64 1) := by
  refine FnV.mk fun E F w hS => ?_
  refine returns_enter Tryz.func8 rfl Tryz.ntmps8 rfl ?_
  refine cw_seq fun K1 hK1 => ?_
  refine cw_region ?_
  refine wl_op rfl rfl (ow_vr (vr_assign (v := .int .i64 0) rfl) ?_)
  refine wl_nil ?_
  refine hK1 _ _ ?_
  refine cw_seq fun K2 hK2 => ?_
  refine cw_seq fun K3 hK3 => ?_
  refine cw_region ?_
  refine wl_op rfl rfl (ow_vr (vr_move (v := .pointer _) rfl) ?_)
  refine wl_op rfl rfl (ow_vr (vr_eqnil Tryz.underlying26 rfl) ?_)
  refine wl_nil ?_
  refine hK3 _ _ ?_
  refine cw_cond_t rfl rfl (rfl) ?_
  refine cw_seq fun K4 hK4 => ?_
  refine cw_region ?_
  refine wl_op rfl rfl (ow_vr (vr_assign (v := .int .i64 1) rfl) ?_)
  refine wl_nil ?_
  refine hK4 _ _ ?_
  refine cw_ret ?_
  refine thenF_ret (?_)
  refine ret_one (fn := Tryz.f8) (n := 48) (t := 4) (.inl rfl) rfl rfl ?_
  exact ⟨rfl, hS⟩
theorem loop_Scan0 (hd : DiskAt p d Δ) (hwd : WfD d) (from_ n head epoch : Int) (hx : head ≤ 9223372036854775807) (hm : mayL d.n from_ n head head epoch = false) :
    Fn Tryz.prog 13 [ptr p, .int .i64 from_, .int .i64 n, .int .i64 head, .int .i64 epoch] [Δ] (fun u Δs => u = .tuple #[.slice none 0 0, .int .i64 0, .int .i64 1] ∧ Δs = [Δ]) := by
  refine Fn.mk fun E F w hS => ?_
  refine returns_enter Tryz.func13 rfl Tryz.ntmps13 rfl ?_
  refine cw_seq fun K1 hK1 => ?_
  refine cw_region ?_
  refine wl_op rfl rfl (ow_vr (vr_assign (v := .slice none 0 0) rfl) ?_)
  refine wl_op rfl rfl (ow_vr (vr_assign (v := .int .i64 0) rfl) ?_)
  refine wl_op rfl rfl (ow_vr (vr_assign (v := .int .i64 0) rfl) ?_)
  refine wl_nil ?_
  refine hK1 _ _ ?_
  refine cw_seq fun K2 hK2 => ?_
  refine cw_seq fun K3 hK3 => ?_
  refine cw_region ?_
  refine wl_op rfl rfl (ow_vr (vr_move (v := .pointer _) rfl) ?_)
  refine wl_op rfl rfl (ow_vr (vr_move (v := .int .i64 _) rfl) ?_)
  refine wl_op rfl rfl (ow_vr (vr_move (v := .int .i64 _) rfl) ?_)
  refine wl_op rfl rfl (ow_vr (vr_move (v := .int .i64 _) rfl) ?_)
  refine wl_op rfl rfl (ow_vr (vr_move (v := .int .i64 _) rfl) ?_)
  refine wl_op rfl rfl (ow_vr (vr_move (v := .int .i64 _) rfl) ?_)
  refine wl_op rfl rfl (ow_fn (vs := [.pointer _, .int .i64 _, .int .i64 _, .int .i64 _, .int .i64 _, .int .i64 _]) en_23 rfl hS (loop_mayT hd hwd from_ n head head epoch hx) ?_)
  clear hS; rintro v27 _ w ⟨rfl, rfl⟩ hS; (try simp only [List.cons_append, List.nil_append] at hS)
  refine wl_op rfl rfl (ow_vr (vr_not rfl) ?_)
  refine wl_nil ?_
  refine hK3 _ _ ?_
  refine cw_cond_t rfl rfl (by rw [hm]; rfl) ?_
  refine cw_seq fun K4 hK4 => ?_
  refine cw_region ?_
  refine wl_op rfl rfl (ow_vr (vr_assign (v := .slice none 0 0) rfl) ?_)
  refine wl_op rfl rfl (ow_vr (vr_assign (v := .int .i64 0) rfl) ?_)
  refine wl_op rfl rfl (ow_vr (vr_assign (v := .int .i64 1) rfl) ?_)
  refine wl_nil ?_
  refine hK4 _ _ ?_
  refine cw_ret ?_
  refine thenF_ret (?_)
  refine ret_three (fn := Tryz.f13) (n := 82) (t := 10) (u := 11) (v := 12) (.inl rfl) rfl rfl rfl rfl ?_
  exact ⟨[Δ], ⟨rfl, rfl⟩, hS⟩
theorem loop_Scan (hd : DiskAt p d Δ) (hwd : WfD d) (from_ n head epoch : Int) (hoff : d.off = false) (hm : mayL d.n from_ n head head epoch = true) (hb : ∀ k, (readD d k).length ≤ 1000) :
    Fn Tryz.prog 13 [ptr p, .int .i64 from_, .int .i64 n, .int .i64 head, .int .i64 epoch] [Δ] (fun u Δs => ∃ v D, u = .tuple #[v, .int .i64 (head + (changesE (scanGo (readD d) from_ n epoch n.toNat head)).2), .int .i64 0] ∧ Δs = [D, Δ] ∧ Own 55 2 encC v (changesE (scanGo (readD d) from_ n epoch n.toNat head)).1 D) := by
  refine Fn.mk fun E F w hS => ?_
  have hM := hm
  simp only [mayL, decide_eq_true_eq] at hM
  have hn1 := hwd.n1
  have hw0 := hwd.waits
  have hcb := changesE_bound (scanGo (readD d) from_ n epoch n.toNat head)
  have hsl := scanGo_length (readD d) from_ n epoch n.toNat head
  refine returns_enter Tryz.func13 rfl Tryz.ntmps13 rfl ?_
  refine cw_seq fun K1 hK1 => ?_
  refine cw_region ?_
  refine wl_op rfl rfl (ow_vr (vr_assign (v := .slice none 0 0) rfl) ?_)
  refine wl_op rfl rfl (ow_vr (vr_assign (v := .int .i64 0) rfl) ?_)
  refine wl_op rfl rfl (ow_vr (vr_assign (v := .int .i64 0) rfl) ?_)
  refine wl_nil ?_
  refine hK1 _ _ ?_
  refine cw_seq fun K2 hK2 => ?_
  refine cw_seq fun K3 hK3 => ?_
  refine cw_region ?_
  refine wl_op rfl rfl (ow_vr (vr_move (v := .pointer _) rfl) ?_)
  refine wl_op rfl rfl (ow_vr (vr_move (v := .int .i64 _) rfl) ?_)
  refine wl_op rfl rfl (ow_vr (vr_move (v := .int .i64 _) rfl) ?_)
  refine wl_op rfl rfl (ow_vr (vr_move (v := .int .i64 _) rfl) ?_)
  refine wl_op rfl rfl (ow_vr (vr_move (v := .int .i64 _) rfl) ?_)
  refine wl_op rfl rfl (ow_vr (vr_move (v := .int .i64 _) rfl) ?_)
  refine wl_op rfl rfl (ow_fn (vs := [.pointer _, .int .i64 _, .int .i64 _, .int .i64 _, .int .i64 _, .int .i64 _]) en_23 rfl hS (loop_mayT hd hwd from_ n head head epoch (by omega)) ?_)
  clear hS; rintro v27 _ w ⟨rfl, rfl⟩ hS; (try simp only [List.cons_append, List.nil_append] at hS)
  refine wl_op rfl rfl (ow_vr (vr_not rfl) ?_)
  refine wl_nil ?_
  refine hK3 _ _ ?_
  refine cw_cond_f rfl rfl (by rw [hm]; rfl) ?_
  refine cw_skip ?_
  refine hK2 _ _ ?_
  refine cw_seq fun K4 hK4 => ?_
  have hS := Sat.nilc.2 hS
  refine cw_region ?_
  refine wl_op rfl rfl (ow_vr (vr_assign (v := .slice none 0 0) rfl) ?_)
  refine wl_nil ?_
  refine hK4 _ _ ?_
  refine cw_seq fun K5 hK5 => ?_
  refine cw_seq fun K6 hK6 => ?_
  refine cw_region ?_
  refine wl_op rfl rfl (ow_vr (vr_move (v := .int .i64 _) rfl) ?_)
  refine wl_op rfl rfl (ow_vr (vr_as (v' := .int .i64 (head + ((0 : Nat) : Int))) (vr_assign rfl) (congrArg (Value.int .i64) (by omega))) ?_)
  refine wl_nil ?_
  refine hK6 _ _ ?_
  refine cw_block ?_
  refine cw_loop (fun m f w => ∃ (k : Nat) (es : List Entr) (v13 : Value) (D13 : Chunk) (g : Nat → Value), f = (upd (upd (upd (upd (upd (upd (upd g 0 (ptr p)) 1 (.int .i64 from_)) 2 (.int .i64 n)) 3 (.int .i64 head)) 4 (.int .i64 epoch)) 13 (v13)) 14 (.int .i64 (head + (k : Int)))) ∧ ((k : Int) ≤ n ∧ es.length = k ∧ Own 74 5 encE v13 es D13 ∧ es ++ scanGo (readD d) from_ n epoch (n.toNat - k) (head + (k : Int)) = scanGo (readD d) from_ n epoch n.toNat head) ∧ m = n.toNat - k ∧ Sat E (D13 :: Δ :: F) w) ⟨0, [], .slice none 0 0, [], _, (reb (reb (reb (reb (reb (reb (reb rfl rfl) rfl) rfl) rfl) rfl) rfl) rfl), ?_, rfl, hS⟩ ?_
  · exact ⟨by omega, rfl, Own.nil, by simp⟩
  clear hS; rintro m f w ⟨k, es, v13, D13, g, rfl, hI0, rfl, hS⟩
  obtain ⟨hk, hel, ho13, hR⟩ := hI0
  refine cw_seq fun K7 hK7 => ?_
  refine cw_seq fun K8 hK8 => ?_
  refine cw_region ?_
  refine wl_op rfl rfl (ow_vr (vr_move (v := .int .i64 (head + (k : Int))) rfl) ?_)
  refine wl_op rfl rfl (ow_vr (vr_move (v := .int .i64 head) rfl) ?_)
  first | (refine wl_op rfl rfl (ow_vr (vr_subi rfl rfl (by unfold inI64; omega)) ?_)) | (refine wl_op rfl rfl (ow_vr (vr_sub rfl rfl) ?_))
  refine wl_op rfl rfl (ow_vr (vr_move (v := .int .i64 n) rfl) ?_)
  refine wl_op rfl rfl (ow_vr (vr_lss rfl rfl) ?_)
  refine wl_nil ?_
  refine hK8 _ _ ?_
  refine cw_cond rfl rfl (fun hc => ?_) (fun hc => ?_)
  · (try simp only [decide_eq_true_eq, decide_eq_false_iff_not, Bool.not_eq_true, Bool.not_eq_false, Bool.not_eq_true', Bool.not_eq_false', Bool.and_eq_true, Bool.or_eq_true, Bool.and_eq_false_iff, Bool.or_eq_false_iff, Int.not_lt, Int.not_le, gt_iff_lt, ge_iff_le, ne_eq, Decidable.not_not, beq_iff_eq] at hc)
    have hc1 := hc; clear hc
    refine cw_skip ?_
    refine hK7 _ _ ?_
    refine cw_seq fun K9 hK9 => ?_
    refine cw_block ?_
    refine cw_seq fun K10 hK10 => ?_
    have hmod := mod_in (a := head + (k : Int)) (show 1 ≤ n by omega)
    have hmy : mayE d (from_ + (head + (k : Int)) % n) = 0 := by rw [mayE, hoff, if_neg (by simp), if_neg (by omega)]
    rw [show n.toNat - k = (n.toNat - (k + 1)) + 1 by omega, scanGo] at hR
    have hrd := disk_Read hd (from_ + (head + (k : Int)) % n) (by omega)
    rw [if_pos hmy, hmy] at hrd
    obtain ⟨b, hbq⟩ : ∃ b, readD d (from_ + (head + (k : Int)) % n) = b := ⟨_, rfl⟩
    have hbl : b.length ≤ 1000 := by rw [← hbq]; exact hb _
    rw [hbq] at hR hrd
    replace hS := hS.front1
    refine cw_region ?_
    refine wl_op rfl rfl (ow_vr (vr_move (v := (ptr p)) rfl) ?_)
    refine wl_op rfl rfl (ow_vr (vr_move (v := .int .i64 from_) rfl) ?_)
    refine wl_op rfl rfl (ow_vr (vr_move (v := .int .i64 (head + (k : Int))) rfl) ?_)
    refine wl_op rfl rfl (ow_vr (vr_move (v := .int .i64 n) rfl) ?_)
    refine wl_op rfl rfl (ow_vr (vr_rem rfl rfl (by omega) (by omega)) ?_)
    first | (refine wl_op rfl rfl (ow_vr (vr_addi rfl rfl (by unfold inI64; omega)) ?_)) | (refine wl_op rfl rfl (ow_vr (vr_add rfl rfl) ?_))
    refine wl_op rfl rfl (ow_fn (vs := [(ptr p), .int .i64 _]) en_29 rfl hS (hrd) ?_)
    clear hS; rintro v44 _ w ⟨rfl, rfl⟩ hS; (try simp only [List.cons_append, List.nil_append] at hS)
    refine wl_op rfl rfl (ow_vr (vr_move (v := .tuple _) rfl) ?_)
    refine wl_op rfl rfl (ow_vr (vr_extract (v := str _) rfl rfl) ?_)
    refine wl_op rfl rfl (ow_vr (vr_extract (v := .int .i64 _) rfl rfl) ?_)
    refine wl_op rfl rfl (ow_vr (vr_assign (v := str _) rfl) ?_)
    refine wl_op rfl rfl (ow_vr (vr_assign (v := .int .i64 _) rfl) ?_)
    refine wl_nil ?_
    refine hK10 _ _ ?_
    refine cw_seq fun K11 hK11 => ?_
    refine cw_seq fun K12 hK12 => ?_
    refine cw_region ?_
    refine wl_op rfl rfl (ow_vr (vr_move (v := .int .i64 _) rfl) ?_)
    refine wl_op rfl rfl (ow_vr (vr_neq rfl rfl) ?_)
    refine wl_nil ?_
    refine hK12 _ _ ?_
    refine cw_cond_f rfl rfl (rfl) ?_
    refine cw_skip ?_
    refine hK11 _ _ ?_
    refine cw_seq fun K13 hK13 => ?_
    refine cw_region ?_
    refine wl_op rfl rfl (ow_vr (vr_move (v := str _) rfl) ?_)
    refine wl_op rfl rfl (ow_fn (vs := [str _]) en_30 rfl hS (entry_Get b hbl) ?_)
    clear hS; rintro v52 _ w ⟨rfl, rfl⟩ hS; (try simp only [List.cons_append, List.nil_append] at hS)
    refine wl_op rfl rfl (ow_vr (vr_move (v := .tuple _) rfl) ?_)
    refine wl_op rfl rfl (ow_vr (vr_extract (v := .agg _) rfl rfl) ?_)
    refine wl_op rfl rfl (ow_vr (vr_extract (v := .bool _) rfl rfl) ?_)
    refine wl_op rfl rfl (ow_alloc (cs := [_, _, _, _, _]) hS zr_74 rfl ?_)
    clear hS; intro b17 w hS
    refine wl_op rfl rfl (ow_storeA (vs := [.int .i64 _, .int .i64 _, .int .i64 _, .int .i64 _, .int .i64 _]) hS sz_74 rfl rfl rfl (by first | rfl | (simp only [List.all_cons, List.all_nil, Bool.and_true, Bool.and_eq_true]; repeat (first | refine ⟨by first | rfl | assumption, ?_⟩ | rfl | assumption))) (by first | exact Has.here | exact Has.there (Has.here) | exact Has.there (Has.there (Has.here)) | exact Has.there (Has.there (Has.there (Has.here))) | exact Has.there (Has.there (Has.there (Has.there (Has.here)))) | exact Has.there (Has.there (Has.there (Has.there (Has.there (Has.here))))) | exact Has.there (Has.there (Has.there (Has.there (Has.there (Has.there (Has.here)))))) | exact Has.there (Has.there (Has.there (Has.there (Has.there (Has.there (Has.there (Has.here)))))))) (by simp) ?_)
    clear hS; intro w hS; try simp only [putAt, List.set_cons_zero, List.set_cons_succ] at hS
    refine wl_op rfl rfl (ow_vr (vr_assign (v := .bool _) rfl) ?_)
    refine wl_nil ?_
    refine hK13 _ _ ?_
    refine cw_seq fun K14 hK14 => ?_
    refine cw_seq fun K15 hK15 => ?_
    refine cw_region ?_
    refine wl_op rfl rfl (ow_vr (vr_move (v := .bool _) rfl) ?_)
    refine wl_op rfl rfl (ow_vr (vr_not rfl) ?_)
    refine wl_op rfl rfl (ow_vr (vr_move (v := .bool _) rfl) ?_)
    refine wl_split 57 rfl (fun hc => ?_) (fun hc => ?_)
    · (try simp only [decide_eq_true_eq, decide_eq_false_iff_not, Bool.not_eq_true, Bool.not_eq_false, Bool.not_eq_true', Bool.not_eq_false', Bool.and_eq_true, Bool.or_eq_true, Bool.and_eq_false_iff, Bool.or_eq_false_iff, Int.not_lt, Int.not_le, gt_iff_lt, ge_iff_le, ne_eq, Decidable.not_not, beq_iff_eq] at hc)
      have hg1 := hc; clear hc
      refine wl_noD rfl rfl rfl rfl rfl rfl ?_
      refine wl_noD rfl rfl rfl rfl rfl rfl ?_
      refine wl_noD rfl rfl rfl rfl rfl rfl ?_
      refine wl_noD rfl rfl rfl rfl rfl rfl ?_
      refine wl_op rfl rfl (ow_vr (vr_pick (b := true) (v := .bool _) rfl rfl) ?_)
      refine wl_op rfl rfl (ow_vr (vr_move (v := .bool _) rfl) ?_)
      refine wl_noD rfl rfl rfl rfl rfl rfl ?_
      refine wl_noD rfl rfl rfl rfl rfl rfl ?_
      refine wl_noD rfl rfl rfl rfl rfl rfl ?_
      refine wl_noD rfl rfl rfl rfl rfl rfl ?_
      refine wl_op rfl rfl (ow_vr (vr_pick (b := true) (v := .bool _) rfl rfl) ?_)
      refine wl_nil ?_
      refine hK15 _ _ ?_
      refine cw_cond_t rfl rfl (rfl) ?_
      refine cw_exit ?_
      refine hK5 _ _ ?_
      refine cw_seq fun K16 hK16 => ?_
      have hcond : ¬ (getOkE b = true ∧ (getE b).lsn = head + (k : Int) ∧ (getE b).epoch = epoch) := by rintro ⟨h1, h2, h3⟩; simp_all
      rw [if_neg hcond, List.append_nil] at hR
      rw [hR] at ho13
      replace hS := hS.tail1.front1
      refine cw_region ?_
      refine wl_op rfl rfl (ow_vr (vr_move (v := v13) rfl) ?_)
      refine wl_op rfl rfl (ow_fng (vs := [v13]) en_31 rfl hS (entry_Changes _ v13 D13 (ho13.view (by exact fun _ => rfl)) (by omega)) (by repeat (first | exact needs0 | (refine needsC ?_ ?_; · (repeat (first | exact List.mem_cons_self | assumption | refine List.mem_cons_of_mem _ ?_))))) ?_)
      clear hS; rintro v75 _ w ⟨vC, DC, rfl, rfl, hoC⟩ hS; (try simp only [List.cons_append, List.nil_append] at hS)
      refine wl_op rfl rfl (ow_vr (vr_move (v := .tuple _) rfl) ?_)
      refine wl_op rfl rfl (ow_vr (vr_extract (v := vC) rfl rfl) ?_)
      refine wl_op rfl rfl (ow_vr (vr_extract (v := .int .i64 _) rfl rfl) ?_)
      refine wl_op rfl rfl (ow_vr (vr_assign (v := vC) rfl) ?_)
      refine wl_op rfl rfl (ow_vr (vr_assign (v := .int .i64 _) rfl) ?_)
      refine wl_nil ?_
      refine hK16 _ _ ?_
      refine cw_seq fun K17 hK17 => ?_
      refine cw_region ?_
      refine wl_op rfl rfl (ow_vr (vr_move (v := vC) rfl) ?_)
      refine wl_op rfl rfl (ow_vr (vr_move (v := .int .i64 head) rfl) ?_)
      refine wl_op rfl rfl (ow_vr (vr_move (v := .int .i64 _) rfl) ?_)
      first | (refine wl_op rfl rfl (ow_vr (vr_addi rfl rfl (by unfold inI64; omega)) ?_)) | (refine wl_op rfl rfl (ow_vr (vr_add rfl rfl) ?_))
      refine wl_op rfl rfl (ow_vr (vr_assign (v := vC) rfl) ?_)
      refine wl_op rfl rfl (ow_vr (vr_assign (v := .int .i64 _) rfl) ?_)
      refine wl_op rfl rfl (ow_vr (vr_assign (v := .int .i64 0) rfl) ?_)
      refine wl_nil ?_
      refine hK17 _ _ ?_
      refine cw_ret ?_
      refine ret_three (fn := Tryz.f13) (n := 82) (t := 10) (u := 11) (v := 12) (.inl rfl) rfl rfl rfl rfl ?_
      exact ⟨[DC, Δ], ⟨vC, DC, rfl, rfl, hoC⟩, hS.front1.tail1⟩
    · (try simp only [decide_eq_true_eq, decide_eq_false_iff_not, Bool.not_eq_true, Bool.not_eq_false, Bool.not_eq_true', Bool.not_eq_false', Bool.and_eq_true, Bool.or_eq_true, Bool.and_eq_false_iff, Bool.or_eq_false_iff, Int.not_lt, Int.not_le, gt_iff_lt, ge_iff_le, ne_eq, Decidable.not_not, beq_iff_eq] at hc)
      have hg1 := hc; clear hc
      first | (refine wl_yes rfl rfl rfl rfl rfl (ow_vr (vr_fieldAddr fo_74_1 rfl) ?_)) | (refine wl_yes rfl rfl rfl rfl rfl (ow_vr (vr_fieldAddrV fo_74_1 rfl (by first | assumption | (refine Own.view ?_ (by assumption); exact fun _ => rfl) | exact OwnB.view (by assumption)) (by first | omega | (simp <;> omega))) ?_))
      refine wl_yes rfl rfl rfl rfl rfl (ow_lr (S := Sat _ _) (lr_load1 Tryz.underlying3 rfl rfl (by first | exact Has.here | exact Has.there (Has.here) | exact Has.there (Has.there (Has.here)) | exact Has.there (Has.there (Has.there (Has.here))) | exact Has.there (Has.there (Has.there (Has.there (Has.here)))) | exact Has.there (Has.there (Has.there (Has.there (Has.there (Has.here))))) | exact Has.there (Has.there (Has.there (Has.there (Has.there (Has.there (Has.here)))))) | exact Has.there (Has.there (Has.there (Has.there (Has.there (Has.there (Has.there (Has.here)))))))) rfl) hS ?_)
      refine wl_yes rfl rfl rfl rfl rfl (ow_vr (vr_move (v := .int .i64 (head + (k : Int))) rfl) ?_)
      refine wl_yes rfl rfl rfl rfl rfl (ow_vr (vr_neq rfl rfl) ?_)
      refine wl_op rfl rfl (ow_vr (vr_pick (b := false) (v := .bool _) rfl rfl) ?_)
      refine wl_op rfl rfl (ow_vr (vr_move (v := .bool _) rfl) ?_)
      refine wl_split 63 rfl (fun hc => ?_) (fun hc => ?_)
      · (try simp only [decide_eq_true_eq, decide_eq_false_iff_not, Bool.not_eq_true, Bool.not_eq_false, Bool.not_eq_true', Bool.not_eq_false', Bool.and_eq_true, Bool.or_eq_true, Bool.and_eq_false_iff, Bool.or_eq_false_iff, Int.not_lt, Int.not_le, gt_iff_lt, ge_iff_le, ne_eq, Decidable.not_not, beq_iff_eq] at hc)
        have hg2 := hc; clear hc
        refine wl_noD rfl rfl rfl rfl rfl rfl ?_
        refine wl_noD rfl rfl rfl rfl rfl rfl ?_
        refine wl_noD rfl rfl rfl rfl rfl rfl ?_
        refine wl_noD rfl rfl rfl rfl rfl rfl ?_
        refine wl_op rfl rfl (ow_vr (vr_pick (b := true) (v := .bool _) rfl rfl) ?_)
        refine wl_nil ?_
        refine hK15 _ _ ?_
        refine cw_cond_t rfl rfl (rfl) ?_
        refine cw_exit ?_
        refine hK5 _ _ ?_
        refine cw_seq fun K18 hK18 => ?_
        have hcond : ¬ (getOkE b = true ∧ (getE b).lsn = head + (k : Int) ∧ (getE b).epoch = epoch) := by rintro ⟨h1, h2, h3⟩; simp_all
        rw [if_neg hcond, List.append_nil] at hR
        rw [hR] at ho13
        replace hS := hS.tail1.front1
        refine cw_region ?_
        refine wl_op rfl rfl (ow_vr (vr_move (v := v13) rfl) ?_)
        refine wl_op rfl rfl (ow_fng (vs := [v13]) en_31 rfl hS (entry_Changes _ v13 D13 (ho13.view (by exact fun _ => rfl)) (by omega)) (by repeat (first | exact needs0 | (refine needsC ?_ ?_; · (repeat (first | exact List.mem_cons_self | assumption | refine List.mem_cons_of_mem _ ?_))))) ?_)
        clear hS; rintro v75 _ w ⟨vC, DC, rfl, rfl, hoC⟩ hS; (try simp only [List.cons_append, List.nil_append] at hS)
        refine wl_op rfl rfl (ow_vr (vr_move (v := .tuple _) rfl) ?_)
        refine wl_op rfl rfl (ow_vr (vr_extract (v := vC) rfl rfl) ?_)
        refine wl_op rfl rfl (ow_vr (vr_extract (v := .int .i64 _) rfl rfl) ?_)
        refine wl_op rfl rfl (ow_vr (vr_assign (v := vC) rfl) ?_)
        refine wl_op rfl rfl (ow_vr (vr_assign (v := .int .i64 _) rfl) ?_)
        refine wl_nil ?_
        refine hK18 _ _ ?_
        refine cw_seq fun K19 hK19 => ?_
        refine cw_region ?_
        refine wl_op rfl rfl (ow_vr (vr_move (v := vC) rfl) ?_)
        refine wl_op rfl rfl (ow_vr (vr_move (v := .int .i64 head) rfl) ?_)
        refine wl_op rfl rfl (ow_vr (vr_move (v := .int .i64 _) rfl) ?_)
        first | (refine wl_op rfl rfl (ow_vr (vr_addi rfl rfl (by unfold inI64; omega)) ?_)) | (refine wl_op rfl rfl (ow_vr (vr_add rfl rfl) ?_))
        refine wl_op rfl rfl (ow_vr (vr_assign (v := vC) rfl) ?_)
        refine wl_op rfl rfl (ow_vr (vr_assign (v := .int .i64 _) rfl) ?_)
        refine wl_op rfl rfl (ow_vr (vr_assign (v := .int .i64 0) rfl) ?_)
        refine wl_nil ?_
        refine hK19 _ _ ?_
        refine cw_ret ?_
        refine ret_three (fn := Tryz.f13) (n := 82) (t := 10) (u := 11) (v := 12) (.inl rfl) rfl rfl rfl rfl ?_
        exact ⟨[DC, Δ], ⟨vC, DC, rfl, rfl, hoC⟩, hS.front1.tail1⟩
      · (try simp only [decide_eq_true_eq, decide_eq_false_iff_not, Bool.not_eq_true, Bool.not_eq_false, Bool.not_eq_true', Bool.not_eq_false', Bool.and_eq_true, Bool.or_eq_true, Bool.and_eq_false_iff, Bool.or_eq_false_iff, Int.not_lt, Int.not_le, gt_iff_lt, ge_iff_le, ne_eq, Decidable.not_not, beq_iff_eq] at hc)
        have hg2 := hc; clear hc
        first | (refine wl_yes rfl rfl rfl rfl rfl (ow_vr (vr_fieldAddr fo_74_2 rfl) ?_)) | (refine wl_yes rfl rfl rfl rfl rfl (ow_vr (vr_fieldAddrV fo_74_2 rfl (by first | assumption | (refine Own.view ?_ (by assumption); exact fun _ => rfl) | exact OwnB.view (by assumption)) (by first | omega | (simp <;> omega))) ?_))
        refine wl_yes rfl rfl rfl rfl rfl (ow_lr (S := Sat _ _) (lr_load1 Tryz.underlying3 rfl rfl (by first | exact Has.here | exact Has.there (Has.here) | exact Has.there (Has.there (Has.here)) | exact Has.there (Has.there (Has.there (Has.here))) | exact Has.there (Has.there (Has.there (Has.there (Has.here)))) | exact Has.there (Has.there (Has.there (Has.there (Has.there (Has.here))))) | exact Has.there (Has.there (Has.there (Has.there (Has.there (Has.there (Has.here)))))) | exact Has.there (Has.there (Has.there (Has.there (Has.there (Has.there (Has.there (Has.here)))))))) rfl) hS ?_)
        refine wl_yes rfl rfl rfl rfl rfl (ow_vr (vr_move (v := .int .i64 epoch) rfl) ?_)
        refine wl_yes rfl rfl rfl rfl rfl (ow_vr (vr_neq rfl rfl) ?_)
        refine wl_op rfl rfl (ow_vr (vr_pick (b := false) (v := .bool _) rfl rfl) ?_)
        refine wl_nil ?_
        refine hK15 _ _ ?_
        refine cw_cond rfl rfl (fun hc => ?_) (fun hc => ?_)
        · (try simp only [decide_eq_true_eq, decide_eq_false_iff_not, Bool.not_eq_true, Bool.not_eq_false, Bool.not_eq_true', Bool.not_eq_false', Bool.and_eq_true, Bool.or_eq_true, Bool.and_eq_false_iff, Bool.or_eq_false_iff, Int.not_lt, Int.not_le, gt_iff_lt, ge_iff_le, ne_eq, Decidable.not_not, beq_iff_eq] at hc)
          have hstop := hc; clear hc
          refine cw_exit ?_
          refine hK5 _ _ ?_
          refine cw_seq fun K20 hK20 => ?_
          have hcond : ¬ (getOkE b = true ∧ (getE b).lsn = head + (k : Int) ∧ (getE b).epoch = epoch) := by rintro ⟨h1, h2, h3⟩; simp_all
          rw [if_neg hcond, List.append_nil] at hR
          rw [hR] at ho13
          replace hS := hS.tail1.front1
          refine cw_region ?_
          refine wl_op rfl rfl (ow_vr (vr_move (v := v13) rfl) ?_)
          refine wl_op rfl rfl (ow_fng (vs := [v13]) en_31 rfl hS (entry_Changes _ v13 D13 (ho13.view (by exact fun _ => rfl)) (by omega)) (by repeat (first | exact needs0 | (refine needsC ?_ ?_; · (repeat (first | exact List.mem_cons_self | assumption | refine List.mem_cons_of_mem _ ?_))))) ?_)
          clear hS; rintro v75 _ w ⟨vC, DC, rfl, rfl, hoC⟩ hS; (try simp only [List.cons_append, List.nil_append] at hS)
          refine wl_op rfl rfl (ow_vr (vr_move (v := .tuple _) rfl) ?_)
          refine wl_op rfl rfl (ow_vr (vr_extract (v := vC) rfl rfl) ?_)
          refine wl_op rfl rfl (ow_vr (vr_extract (v := .int .i64 _) rfl rfl) ?_)
          refine wl_op rfl rfl (ow_vr (vr_assign (v := vC) rfl) ?_)
          refine wl_op rfl rfl (ow_vr (vr_assign (v := .int .i64 _) rfl) ?_)
          refine wl_nil ?_
          refine hK20 _ _ ?_
          refine cw_seq fun K21 hK21 => ?_
          refine cw_region ?_
          refine wl_op rfl rfl (ow_vr (vr_move (v := vC) rfl) ?_)
          refine wl_op rfl rfl (ow_vr (vr_move (v := .int .i64 head) rfl) ?_)
          refine wl_op rfl rfl (ow_vr (vr_move (v := .int .i64 _) rfl) ?_)
          first | (refine wl_op rfl rfl (ow_vr (vr_addi rfl rfl (by unfold inI64; omega)) ?_)) | (refine wl_op rfl rfl (ow_vr (vr_add rfl rfl) ?_))
          refine wl_op rfl rfl (ow_vr (vr_assign (v := vC) rfl) ?_)
          refine wl_op rfl rfl (ow_vr (vr_assign (v := .int .i64 _) rfl) ?_)
          refine wl_op rfl rfl (ow_vr (vr_assign (v := .int .i64 0) rfl) ?_)
          refine wl_nil ?_
          refine hK21 _ _ ?_
          refine cw_ret ?_
          refine ret_three (fn := Tryz.f13) (n := 82) (t := 10) (u := 11) (v := 12) (.inl rfl) rfl rfl rfl rfl ?_
          exact ⟨[DC, Δ], ⟨vC, DC, rfl, rfl, hoC⟩, hS.front1.tail1⟩
        · (try simp only [decide_eq_true_eq, decide_eq_false_iff_not, Bool.not_eq_true, Bool.not_eq_false, Bool.not_eq_true', Bool.not_eq_false', Bool.and_eq_true, Bool.or_eq_true, Bool.and_eq_false_iff, Bool.or_eq_false_iff, Int.not_lt, Int.not_le, gt_iff_lt, ge_iff_le, ne_eq, Decidable.not_not, beq_iff_eq] at hc)
          have hstop := hc; clear hc
          refine cw_skip ?_
          refine hK14 _ _ ?_
          have hcond : getOkE b = true ∧ (getE b).lsn = head + (k : Int) ∧ (getE b).epoch = epoch := by simp_all
          rw [if_pos hcond] at hR
          refine cw_region ?_
          refine wl_op rfl rfl (ow_vr (vr_move (v := v13) rfl) ?_)
          first | (refine wl_op rfl rfl (ow_lr (S := Sat _ _) (lr_loadA (vs := [.int .i64 _, .int .i64 _, .int .i64 _, .int .i64 _, .int .i64 _]) Tryz.underlying74 rfl sz_74 rfl (by first | exact Has.here | exact Has.there (Has.here) | exact Has.there (Has.there (Has.here)) | exact Has.there (Has.there (Has.there (Has.here))) | exact Has.there (Has.there (Has.there (Has.there (Has.here)))) | exact Has.there (Has.there (Has.there (Has.there (Has.there (Has.here))))) | exact Has.there (Has.there (Has.there (Has.there (Has.there (Has.there (Has.here)))))) | exact Has.there (Has.there (Has.there (Has.there (Has.there (Has.there (Has.there (Has.here)))))))) rfl rfl) hS ?_)) | (refine wl_op rfl rfl (ow_lr (S := Sat _ _) (lr_loadA (vs := [_, _, _, _, _]) Tryz.underlying74 rfl sz_74 rfl (by first | exact Has.here | exact Has.there (Has.here) | exact Has.there (Has.there (Has.here)) | exact Has.there (Has.there (Has.there (Has.here))) | exact Has.there (Has.there (Has.there (Has.there (Has.here)))) | exact Has.there (Has.there (Has.there (Has.there (Has.there (Has.here))))) | exact Has.there (Has.there (Has.there (Has.there (Has.there (Has.there (Has.here)))))) | exact Has.there (Has.there (Has.there (Has.there (Has.there (Has.there (Has.there (Has.here)))))))) rfl rfl) hS ?_))
          refine wl_op rfl rfl (ow_buildSliceD (m := 5) (len := 1) (vs := [.agg #[.int .i64 _, .int .i64 _, .int .i64 _, .int .i64 _, .int .i64 _]]) (cs := [.int .i64 _, .int .i64 _, .int .i64 _, .int .i64 _, .int .i64 _]) hS Tryz.underlying63 if_74 rfl (by decide) (by decide) rfl rfl (by simp [Value.cells]) rfl ?_)
          clear hS; intro b71 w hS
          refine wl_op rfl rfl (ow_append (v := v13) hS Tryz.underlying63 Tryz.underlying63 if_74 rfl (by decide) rfl rfl (by assumption) (View.single (x := getE b) rfl rfl (by decide)) (by first | exact HasC.here | exact HasC.there (HasC.here) | exact HasC.there (HasC.there (HasC.here)) | exact HasC.there (HasC.there (HasC.there (HasC.here))) | exact HasC.there (HasC.there (HasC.there (HasC.there (HasC.here)))) | exact HasC.there (HasC.there (HasC.there (HasC.there (HasC.there (HasC.here))))) | exact HasC.there (HasC.there (HasC.there (HasC.there (HasC.there (HasC.there (HasC.here)))))) | exact HasC.there (HasC.there (HasC.there (HasC.there (HasC.there (HasC.there (HasC.there (HasC.here))))))) | exact HasC.there (HasC.there (HasC.there (HasC.there (HasC.there (HasC.there (HasC.there (HasC.there (HasC.here))))))))) (by repeat (first | exact List.mem_cons_self | assumption | refine List.mem_cons_of_mem _ ?_)) (by exact fun _ => rfl) (by exact fun _ => rfl) (by first | omega | (simp [maxLen] <;> omega) | (simp <;> omega)) (by first | omega | (simp [maxLen] <;> omega) | (simp <;> omega)) ?_)
          clear hS; intro v72 D72 w ho72 hS
          refine wl_op rfl rfl (ow_vr (vr_assign (v := v72) rfl) ?_)
          refine wl_nil ?_
          replace hS := hS.tail1.tail1.front1
          refine hK9 _ _ ?_
          refine cw_region ?_
          refine wl_op rfl rfl (ow_vr (vr_move (v := .int .i64 (head + (k : Int))) rfl) ?_)
          refine wl_op rfl rfl (ow_vr (vr_as (v' := .int .i64 (head + ((k + 1 : Nat) : Int))) (vr_addi rfl rfl (by unfold inI64; omega)) (congrArg (Value.int .i64) (by omega))) ?_)
          refine wl_op rfl rfl (ow_vr (vr_assign (v := .int .i64 _) rfl) ?_)
          refine wl_nil ?_
          refine thenF_normal ⟨_, ?_, k + 1, es ++ [getE b], v72, D72, _, (reb (reb (reb (reb (reb (reb (reb rfl rfl) rfl) rfl) rfl) rfl) rfl) rfl), ?_, rfl, hS⟩
          · omega
          · exact ⟨by omega, by simp [hel], ho72, by rw [← hR, List.append_assoc]; simp [Int.add_assoc]⟩
  · (try simp only [decide_eq_true_eq, decide_eq_false_iff_not, Bool.not_eq_true, Bool.not_eq_false, Bool.not_eq_true', Bool.not_eq_false', Bool.and_eq_true, Bool.or_eq_true, Bool.and_eq_false_iff, Bool.or_eq_false_iff, Int.not_lt, Int.not_le, gt_iff_lt, ge_iff_le, ne_eq, Decidable.not_not, beq_iff_eq] at hc)
    have hc1 := hc; clear hc
    refine cw_exit ?_
    refine hK5 _ _ ?_
    refine cw_seq fun K22 hK22 => ?_
    rw [show n.toNat - k = 0 by omega, scanGo, List.append_nil] at hR
    rw [hR] at ho13
    refine cw_region ?_
    refine wl_op rfl rfl (ow_vr (vr_move (v := v13) rfl) ?_)
    refine wl_op rfl rfl (ow_fng (vs := [v13]) en_31 rfl hS (entry_Changes _ v13 D13 (ho13.view (by exact fun _ => rfl)) (by omega)) (by repeat (first | exact needs0 | (refine needsC ?_ ?_; · (repeat (first | exact List.mem_cons_self | assumption | refine List.mem_cons_of_mem _ ?_))))) ?_)
    clear hS; rintro v75 _ w ⟨vC, DC, rfl, rfl, hoC⟩ hS; (try simp only [List.cons_append, List.nil_append] at hS)
    refine wl_op rfl rfl (ow_vr (vr_move (v := .tuple _) rfl) ?_)
    refine wl_op rfl rfl (ow_vr (vr_extract (v := vC) rfl rfl) ?_)
    refine wl_op rfl rfl (ow_vr (vr_extract (v := .int .i64 _) rfl rfl) ?_)
    refine wl_op rfl rfl (ow_vr (vr_assign (v := vC) rfl) ?_)
    refine wl_op rfl rfl (ow_vr (vr_assign (v := .int .i64 _) rfl) ?_)
    refine wl_nil ?_
    refine hK22 _ _ ?_
    refine cw_seq fun K23 hK23 => ?_
    refine cw_region ?_
    refine wl_op rfl rfl (ow_vr (vr_move (v := vC) rfl) ?_)
    refine wl_op rfl rfl (ow_vr (vr_move (v := .int .i64 head) rfl) ?_)
    refine wl_op rfl rfl (ow_vr (vr_move (v := .int .i64 _) rfl) ?_)
    first | (refine wl_op rfl rfl (ow_vr (vr_addi rfl rfl (by unfold inI64; omega)) ?_)) | (refine wl_op rfl rfl (ow_vr (vr_add rfl rfl) ?_))
    refine wl_op rfl rfl (ow_vr (vr_assign (v := vC) rfl) ?_)
    refine wl_op rfl rfl (ow_vr (vr_assign (v := .int .i64 _) rfl) ?_)
    refine wl_op rfl rfl (ow_vr (vr_assign (v := .int .i64 0) rfl) ?_)
    refine wl_nil ?_
    refine hK23 _ _ ?_
    refine cw_ret ?_
    refine ret_three (fn := Tryz.f13) (n := 82) (t := 10) (u := 11) (v := 12) (.inl rfl) rfl rfl rfl rfl ?_
    exact ⟨[DC, Δ], ⟨vC, DC, rfl, rfl, hoC⟩, hS.front1.tail1⟩
end
end Go.Proofs.YtjcagoighpmdkaaGreatDoor
