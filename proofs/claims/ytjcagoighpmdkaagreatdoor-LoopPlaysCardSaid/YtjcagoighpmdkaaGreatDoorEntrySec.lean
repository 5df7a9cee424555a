/- Entries as sectors, and back; the document's own. -/
import Derived.Test.YtjcagoighpmdkaaGreatDoorSealed
import Derived.Test.YtjcagoighpmdkaaGreatDoorEntry
namespace Go.Proofs.YtjcagoighpmdkaaGreatDoor
open Go Go.RowKit
set_option linter.unusedVariables false
set_option linter.unusedSimpArgs false
attribute [local irreducible] actF WL CW OW PL SW VR LR yes Returns Fn
abbrev entV (e : Entr) : Value := .agg #[.int .i64 e.kind, .int .i64 e.lsn, .int .i64 e.epoch, .int .i64 e.cell, .int .i64 e.value]
def rawE (e : Entr) : List UInt8 := putI e.kind 1 ++ putI e.lsn 4 ++ putI e.epoch 4 ++ putI e.cell 4 ++ putI e.value 4
def laidB (e : Entr) : List UInt8 := sealI (rawE e) 32
theorem rawE_length (e : Entr) : (rawE e).length ≤ 40 := by
  have h1 := putI_length e.kind 1
  have h2 := putI_length e.lsn 4
  have h3 := putI_length e.epoch 4
  have h4 := putI_length e.cell 4
  have h5 := putI_length e.value 4
  simp only [rawE, List.length_append]; omega
theorem entry_Put (e : Entr) : FnV Tryz.prog 59 [entV e] (.tuple #[str (if rightE e then laidB e else []), .bool (rightE e)]) := by
  refine FnV.mk fun E F w hS => ?_
  have hlr := rawE_length e
  have h1 := putI_length e.kind 1
  refine returns_enter Tryz.func59 rfl Tryz.ntmps59 rfl ?_
  refine cw_seq fun K1 hK1 => ?_
  refine cw_region ?_
  refine wl_op rfl rfl (ow_box (cs := [_, _, _, _, _]) hS rfl rfl ?_)
  clear hS; intro b1 w hS
  refine wl_op rfl rfl (ow_vr (vr_assign (v := str []) rfl) ?_)
  refine wl_op rfl rfl (ow_vr (vr_assign (v := .bool false) rfl) ?_)
  refine wl_nil ?_
  refine hK1 _ _ ?_
  refine cw_seq fun K2 hK2 => ?_
  refine cw_seq fun K3 hK3 => ?_
  refine cw_region ?_
  first | (refine wl_op rfl rfl (ow_lr (S := Sat _ _) (lr_loadA (vs := [.int .i64 _, .int .i64 _, .int .i64 _, .int .i64 _, .int .i64 _]) Tryz.underlying74 rfl sz_74 rfl (by first | exact Has.here | exact Has.there (Has.here) | exact Has.there (Has.there (Has.here)) | exact Has.there (Has.there (Has.there (Has.here))) | exact Has.there (Has.there (Has.there (Has.there (Has.here)))) | exact Has.there (Has.there (Has.there (Has.there (Has.there (Has.here))))) | exact Has.there (Has.there (Has.there (Has.there (Has.there (Has.there (Has.here)))))) | exact Has.there (Has.there (Has.there (Has.there (Has.there (Has.there (Has.there (Has.here)))))))) rfl rfl) hS ?_)) | (refine wl_op rfl rfl (ow_lr (S := Sat _ _) (lr_loadA (vs := [_, _, _, _, _]) Tryz.underlying74 rfl sz_74 rfl (by first | exact Has.here | exact Has.there (Has.here) | exact Has.there (Has.there (Has.here)) | exact Has.there (Has.there (Has.there (Has.here))) | exact Has.there (Has.there (Has.there (Has.there (Has.here)))) | exact Has.there (Has.there (Has.there (Has.there (Has.there (Has.here))))) | exact Has.there (Has.there (Has.there (Has.there (Has.there (Has.there (Has.here)))))) | exact Has.there (Has.there (Has.there (Has.there (Has.there (Has.there (Has.there (Has.here)))))))) rfl rfl) hS ?_))
  refine wl_op rfl rfl (ow_fn (vs := [.agg _]) en_58 rfl hS (entry_Right e.kind e.lsn e.epoch e.cell e.value) ?_)
  clear hS; rintro v8 _ w ⟨rfl, rfl⟩ hS; (try simp only [List.cons_append, List.nil_append] at hS)
  refine wl_op rfl rfl (ow_vr (vr_not rfl) ?_)
  refine wl_nil ?_
  refine hK3 _ _ ?_
  refine cw_cond rfl rfl (fun hc => ?_) (fun hc => ?_)
  · (try simp only [decide_eq_true_eq, decide_eq_false_iff_not, Bool.not_eq_true, Bool.not_eq_false, Bool.not_eq_true', Bool.not_eq_false', Bool.and_eq_true, Bool.or_eq_true, Bool.and_eq_false_iff, Bool.or_eq_false_iff, Int.not_lt, Int.not_le, gt_iff_lt, ge_iff_le, ne_eq, Decidable.not_not, beq_iff_eq] at hc)
    have hc := hc; clear hc
    refine cw_seq fun K4 hK4 => ?_
    have hr : rightE e = false := by simpa using hc
    refine cw_region ?_
    refine wl_op rfl rfl (ow_vr (vr_assign (v := str []) rfl) ?_)
    refine wl_op rfl rfl (ow_vr (vr_assign (v := .bool false) rfl) ?_)
    refine wl_nil ?_
    refine hK4 _ _ ?_
    refine cw_ret ?_
    refine thenF_ret (?_)
    refine ret_two (fn := Tryz.f59) (n := 34) (t := 2) (u := 3) (.inl rfl) rfl rfl rfl ?_
    exact ⟨by rw [hr] <;> rfl, hS.tail1⟩
  · (try simp only [decide_eq_true_eq, decide_eq_false_iff_not, Bool.not_eq_true, Bool.not_eq_false, Bool.not_eq_true', Bool.not_eq_false', Bool.and_eq_true, Bool.or_eq_true, Bool.and_eq_false_iff, Bool.or_eq_false_iff, Int.not_lt, Int.not_le, gt_iff_lt, ge_iff_le, ne_eq, Decidable.not_not, beq_iff_eq] at hc)
    have hc := hc; clear hc
    refine cw_skip ?_
    refine hK2 _ _ ?_
    refine cw_seq fun K5 hK5 => ?_
    have hr : rightE e = true := by simpa using hc
    refine cw_region ?_
    first | (refine wl_op rfl rfl (ow_vr (vr_fieldAddr fo_74_0 rfl) ?_)) | (refine wl_op rfl rfl (ow_vr (vr_fieldAddrV fo_74_0 rfl (by first | assumption | (refine Own.view ?_ (by assumption); exact fun _ => rfl) | exact OwnB.view (by assumption)) (by first | omega | (simp <;> omega))) ?_))
    refine wl_op rfl rfl (ow_lr (S := Sat _ _) (lr_load1 Tryz.underlying3 rfl rfl (by first | exact Has.here | exact Has.there (Has.here) | exact Has.there (Has.there (Has.here)) | exact Has.there (Has.there (Has.there (Has.here))) | exact Has.there (Has.there (Has.there (Has.there (Has.here)))) | exact Has.there (Has.there (Has.there (Has.there (Has.there (Has.here))))) | exact Has.there (Has.there (Has.there (Has.there (Has.there (Has.there (Has.here)))))) | exact Has.there (Has.there (Has.there (Has.there (Has.there (Has.there (Has.there (Has.here)))))))) rfl) hS ?_)
    refine wl_op rfl rfl (ow_fn (vs := [.int .i64 _, .int .i64 _]) en_82 rfl hS (seal_Put e.kind 1) ?_)
    clear hS; rintro v12 _ w ⟨rfl, rfl⟩ hS; (try simp only [List.cons_append, List.nil_append] at hS)
    refine wl_op rfl rfl (ow_vr (vr_assign (v := str _) rfl) ?_)
    refine wl_nil ?_
    refine hK5 _ _ ?_
    refine cw_seq fun K6 hK6 => ?_
    refine cw_seq fun K7 hK7 => ?_
    refine cw_region ?_
    first | (refine wl_op rfl rfl (ow_vr (vr_fieldAddr fo_74_1 rfl) ?_)) | (refine wl_op rfl rfl (ow_vr (vr_fieldAddrV fo_74_1 rfl (by first | assumption | (refine Own.view ?_ (by assumption); exact fun _ => rfl) | exact OwnB.view (by assumption)) (by first | omega | (simp <;> omega))) ?_))
    refine wl_op rfl rfl (ow_lr (S := Sat _ _) (lr_load1 Tryz.underlying3 rfl rfl (by first | exact Has.here | exact Has.there (Has.here) | exact Has.there (Has.there (Has.here)) | exact Has.there (Has.there (Has.there (Has.here))) | exact Has.there (Has.there (Has.there (Has.there (Has.here)))) | exact Has.there (Has.there (Has.there (Has.there (Has.there (Has.here))))) | exact Has.there (Has.there (Has.there (Has.there (Has.there (Has.there (Has.here)))))) | exact Has.there (Has.there (Has.there (Has.there (Has.there (Has.there (Has.there (Has.here)))))))) rfl) hS ?_)
    first | (refine wl_op rfl rfl (ow_vr (vr_fieldAddr fo_74_2 rfl) ?_)) | (refine wl_op rfl rfl (ow_vr (vr_fieldAddrV fo_74_2 rfl (by first | assumption | (refine Own.view ?_ (by assumption); exact fun _ => rfl) | exact OwnB.view (by assumption)) (by first | omega | (simp <;> omega))) ?_))
    refine wl_op rfl rfl (ow_lr (S := Sat _ _) (lr_load1 Tryz.underlying3 rfl rfl (by first | exact Has.here | exact Has.there (Has.here) | exact Has.there (Has.there (Has.here)) | exact Has.there (Has.there (Has.there (Has.here))) | exact Has.there (Has.there (Has.there (Has.there (Has.here)))) | exact Has.there (Has.there (Has.there (Has.there (Has.there (Has.here))))) | exact Has.there (Has.there (Has.there (Has.there (Has.there (Has.there (Has.here)))))) | exact Has.there (Has.there (Has.there (Has.there (Has.there (Has.there (Has.there (Has.here)))))))) rfl) hS ?_)
    first | (refine wl_op rfl rfl (ow_vr (vr_fieldAddr fo_74_3 rfl) ?_)) | (refine wl_op rfl rfl (ow_vr (vr_fieldAddrV fo_74_3 rfl (by first | assumption | (refine Own.view ?_ (by assumption); exact fun _ => rfl) | exact OwnB.view (by assumption)) (by first | omega | (simp <;> omega))) ?_))
    refine wl_op rfl rfl (ow_lr (S := Sat _ _) (lr_load1 Tryz.underlying3 rfl rfl (by first | exact Has.here | exact Has.there (Has.here) | exact Has.there (Has.there (Has.here)) | exact Has.there (Has.there (Has.there (Has.here))) | exact Has.there (Has.there (Has.there (Has.there (Has.here)))) | exact Has.there (Has.there (Has.there (Has.there (Has.there (Has.here))))) | exact Has.there (Has.there (Has.there (Has.there (Has.there (Has.there (Has.here)))))) | exact Has.there (Has.there (Has.there (Has.there (Has.there (Has.there (Has.there (Has.here)))))))) rfl) hS ?_)
    first | (refine wl_op rfl rfl (ow_vr (vr_fieldAddr fo_74_4 rfl) ?_)) | (refine wl_op rfl rfl (ow_vr (vr_fieldAddrV fo_74_4 rfl (by first | assumption | (refine Own.view ?_ (by assumption); exact fun _ => rfl) | exact OwnB.view (by assumption)) (by first | omega | (simp <;> omega))) ?_))
    refine wl_op rfl rfl (ow_lr (S := Sat _ _) (lr_load1 Tryz.underlying3 rfl rfl (by first | exact Has.here | exact Has.there (Has.here) | exact Has.there (Has.there (Has.here)) | exact Has.there (Has.there (Has.there (Has.here))) | exact Has.there (Has.there (Has.there (Has.there (Has.here)))) | exact Has.there (Has.there (Has.there (Has.there (Has.there (Has.here))))) | exact Has.there (Has.there (Has.there (Has.there (Has.there (Has.there (Has.here)))))) | exact Has.there (Has.there (Has.there (Has.there (Has.there (Has.there (Has.there (Has.here)))))))) rfl) hS ?_)
    refine wl_op rfl rfl (ow_buildSliceD (m := 1) (len := 4) (vs := [.int .i64 _, .int .i64 _, .int .i64 _, .int .i64 _]) (cs := [.int .i64 _, .int .i64 _, .int .i64 _, .int .i64 _]) hS Tryz.underlying38 if_3 rfl (by decide) (by decide) rfl rfl (by simp [Value.cells]) rfl ?_)
    clear hS; intro b21 w hS
    first | (refine wl_op rfl rfl (ow_vr (vr_len_sl Tryz.underlying38 rfl) ?_)) | (refine wl_op rfl rfl (ow_vr (vr_len_v Tryz.underlying38 rfl (by first | assumption | (refine Own.view ?_ (by assumption); exact fun _ => rfl) | exact OwnB.view (by assumption))) ?_))
    refine wl_op rfl rfl (ow_vr (vr_move (v := .int .i64 0) rfl) ?_)
    refine wl_nil ?_
    have hv : View 1 encI (.slice (some ⟨b21, 0, none⟩) 4 4) [e.lsn, e.epoch, e.cell, e.value] [(b21, .cells [.int .i64 e.lsn, .int .i64 e.epoch, .int .i64 e.cell, .int .i64 e.value].toArray 3 (0, 0))] := View.lits rfl rfl rfl
    generalize hD : [(b21, Obj.cells [Value.int .i64 e.lsn, .int .i64 e.epoch, .int .i64 e.cell, .int .i64 e.value].toArray 3 (0, 0))] = D0 at hv hS
    clear hD
    refine hK7 _ _ ?_
    refine cw_block ?_
    refine cw_loop (fun m f w => ∃ (k : Nat) (v21 : Value) (D21 : Chunk) (c : List UInt8) (g : Nat → Value), f = (upd (upd (upd (upd g 4 (str c)) 21 (v21)) 22 (.int .i64 4)) 23 (.int .i64 (k : Int))) ∧ (k ≤ 4 ∧ c = foldP (putI e.kind 1) ([e.lsn, e.epoch, e.cell, e.value].take k) ∧ View 1 encI v21 [e.lsn, e.epoch, e.cell, e.value] D21) ∧ m = 4 - k ∧ Sat E (D21 :: [(b1, .cells #[.int .i64 e.kind, .int .i64 e.lsn, .int .i64 e.epoch, .int .i64 e.cell, .int .i64 e.value] 74 (0, 0))] :: F) w) ⟨0, _, D0, putI e.kind 1, _, (reb (reb (reb (reb rfl rfl) rfl) rfl) rfl), ?_, rfl, hS⟩ ?_
    · exact ⟨by omega, rfl, hv⟩
    clear hS; rintro m f w ⟨k, v21, D21, c, g, rfl, hI0, rfl, hS⟩
    obtain ⟨hk, hcc, hv21⟩ := hI0
    have hcl : c.length ≤ 40 := by have := foldP_length (putI e.kind 1) ([e.lsn, e.epoch, e.cell, e.value].take k); rw [← hcc, List.length_take] at this; simp at this; omega
    refine cw_seq fun K8 hK8 => ?_
    refine cw_region ?_
    refine wl_op rfl rfl (ow_vr (vr_lss rfl rfl) ?_)
    refine wl_nil ?_
    refine hK8 _ _ ?_
    refine cw_seq fun K9 hK9 => ?_
    refine cw_cond rfl rfl (fun hc => ?_) (fun hc => ?_)
    · (try simp only [decide_eq_true_eq, decide_eq_false_iff_not, Bool.not_eq_true, Bool.not_eq_false, Bool.not_eq_true', Bool.not_eq_false', Bool.and_eq_true, Bool.or_eq_true, Bool.and_eq_false_iff, Bool.or_eq_false_iff, Int.not_lt, Int.not_le, gt_iff_lt, ge_iff_le, ne_eq, Decidable.not_not, beq_iff_eq] at hc)
      have hc1 := hc; clear hc
      refine cw_skip ?_
      refine hK9 _ _ ?_
      refine cw_seq fun K10 hK10 => ?_
      refine cw_block ?_
      refine cw_seq fun K11 hK11 => ?_
      obtain ⟨x, hx⟩ := get_lt (xs := [e.lsn, e.epoch, e.cell, e.value]) (k := k) (by simp; omega)
      have hpx := putI_length x 4
      refine cw_region ?_
      first | (refine wl_op rfl rfl (ow_vr (vr_indexAddr Tryz.underlying38 sz_3 rfl rfl (by omega) (by omega)) ?_)) | (refine wl_op rfl rfl (ow_vr (vr_indexV (v := v21) Tryz.underlying38 sz_3 rfl (by first | assumption | (refine Own.view ?_ (by assumption); exact fun _ => rfl) | exact OwnB.view (by assumption)) rfl (by omega) (by first | omega | (simp <;> omega))) ?_))
      refine wl_op rfl rfl (ow_lr (S := Sat _ _) (lr_loadV1 (u := .int .i64 _) Tryz.underlying3 rfl rfl (by first | assumption | (refine Own.view ?_ (by assumption); exact fun _ => rfl) | exact OwnB.view (by assumption)) (by repeat (first | exact List.mem_cons_self | assumption | refine List.mem_cons_of_mem _ ?_)) (hx) (by exact fun _ => rfl) (by rfl)) hS ?_)
      refine wl_op rfl rfl (ow_vr (vr_assign (v := .int .i64 _) rfl) ?_)
      refine wl_nil ?_
      refine hK11 _ _ ?_
      refine cw_region ?_
      refine wl_op rfl rfl (ow_vr (vr_move (v := (str c)) rfl) ?_)
      refine wl_op rfl rfl (ow_vr (vr_move (v := .int .i64 _) rfl) ?_)
      refine wl_op rfl rfl (ow_fn (vs := [.int .i64 _, .int .i64 _]) en_82 rfl hS (seal_Put x 4) ?_)
      clear hS; rintro v29 _ w ⟨rfl, rfl⟩ hS; (try simp only [List.cons_append, List.nil_append] at hS)
      refine wl_op rfl rfl (ow_vr (vr_cat_s rfl rfl (by first | omega | (simp <;> omega))) ?_)
      refine wl_op rfl rfl (ow_vr (vr_assign (v := str _) rfl) ?_)
      refine wl_nil ?_
      refine hK10 _ _ ?_
      refine cw_region ?_
      first | (refine wl_op rfl rfl (ow_vr (vr_addi rfl rfl (by unfold inI64; omega)) ?_)) | (refine wl_op rfl rfl (ow_vr (vr_add rfl rfl) ?_))
      refine wl_op rfl rfl (ow_vr (vr_move (v := .int .i64 _) rfl) ?_)
      refine wl_nil ?_
      refine thenF_normal ⟨_, ?_, k + 1, v21, D21, c ++ putI x 4, _, (reb (reb (reb (reb rfl rfl) rfl) rfl) rfl), ?_, rfl, hS⟩
      · omega
      · exact ⟨by omega, by rw [take_snoc hx, foldP_snoc, ← hcc], hv21⟩
    · (try simp only [decide_eq_true_eq, decide_eq_false_iff_not, Bool.not_eq_true, Bool.not_eq_false, Bool.not_eq_true', Bool.not_eq_false', Bool.and_eq_true, Bool.or_eq_true, Bool.and_eq_false_iff, Bool.or_eq_false_iff, Int.not_lt, Int.not_le, gt_iff_lt, ge_iff_le, ne_eq, Decidable.not_not, beq_iff_eq] at hc)
      have hc1 := hc; clear hc
      refine cw_exit ?_
      refine hK6 _ _ ?_
      refine cw_seq fun K12 hK12 => ?_
      have hce : c = rawE e := by rw [hcc, show k = 4 by omega]; rfl
      refine cw_region ?_
      refine wl_op rfl rfl (ow_vr (vr_move (v := (str c)) rfl) ?_)
      refine wl_op rfl rfl (ow_fn (vs := [(str c), .int .i64 _]) en_83 rfl hS (seal_Seal c 32 (by omega)) ?_)
      clear hS; rintro v33 _ w ⟨rfl, rfl⟩ hS; (try simp only [List.cons_append, List.nil_append] at hS)
      refine wl_op rfl rfl (ow_vr (vr_assign (v := str _) rfl) ?_)
      refine wl_op rfl rfl (ow_vr (vr_assign (v := .bool true) rfl) ?_)
      refine wl_nil ?_
      refine hK12 _ _ ?_
      refine cw_ret ?_
      refine ret_two (fn := Tryz.f59) (n := 34) (t := 2) (u := 3) (.inl rfl) rfl rfl rfl ?_
      exact ⟨by rw [hr, hce] <;> rfl, hS.tail1.tail1⟩
/-! reading -/
def readE (b : List UInt8) : Entr := ⟨getB (cutB b 0 1), getB (cutB b 1 5), getB (cutB b 5 9), getB (cutB b 9 13), getB (cutB b 13 17)⟩
def getOkE (b : List UInt8) : Bool := decide (b.length = 32) && (rightE (readE b) && decide (laidB (readE b) = b))
def getE (b : List UInt8) : Entr := if getOkE b then readE b else ⟨0, 0, 0, 0, 0⟩
theorem laid_open {b : List UInt8} (h : getOkE b = true) : openOk b = true ∧ b.length = 32 := by
  simp only [getOkE, Bool.and_eq_true, decide_eq_true_eq] at h
  obtain ⟨h1, -, h2⟩ := h
  refine ⟨?_, h1⟩
  rw [laidB, sealI] at h2
  split at h2
  · subst h2; simp at h1
  · rw [← h2, open_sealed]
theorem entry_Get1 (l : List UInt8) (k q : Nat) (hk : 5 + 4 * k ≤ l.length) (hl : l.length ≤ 1000) :
    Fn Tryz.prog 68 [.int .i64 (k : Int), .pointer (some ⟨q, 0, none⟩)] [[(q, .cells [str l].toArray 9 (0, 0))]]
      (fun v Δ => v = .int .i64 (getB (cutB l (1 + 4 * k) (5 + 4 * k)) : Int) ∧ Δ = [[(q, .cells [str l].toArray 9 (0, 0))]]) := by
  refine Fn.mk fun E F w hS => ?_
  simp only [List.cons_append, List.nil_append] at hS
  have hcl : (cutB l (1 + 4 * k) (5 + 4 * k)).length ≤ 1000 := by rw [cutB, List.length_drop, List.length_take]; omega
  refine returns_enter Tryz.func68 rfl Tryz.ntmps68 rfl ?_
  refine cw_seq fun K1 hK1 => ?_
  refine cw_region ?_
  refine wl_op rfl rfl (ow_vr (vr_assign (v := .int .i64 0) rfl) ?_)
  refine wl_nil ?_
  refine hK1 _ _ ?_
  refine cw_seq fun K2 hK2 => ?_
  refine cw_region ?_
  refine wl_op rfl rfl (ow_lr (S := Sat _ _) (lr_load1 Tryz.underlying9 rfl rfl (by first | exact Has.here | exact Has.there (Has.here) | exact Has.there (Has.there (Has.here)) | exact Has.there (Has.there (Has.there (Has.here))) | exact Has.there (Has.there (Has.there (Has.there (Has.here)))) | exact Has.there (Has.there (Has.there (Has.there (Has.there (Has.here))))) | exact Has.there (Has.there (Has.there (Has.there (Has.there (Has.there (Has.here)))))) | exact Has.there (Has.there (Has.there (Has.there (Has.there (Has.there (Has.there (Has.here)))))))) rfl) hS ?_)
  refine wl_op rfl rfl (ow_vr (vr_move (v := .int .i64 _) rfl) ?_)
  first | (refine wl_op rfl rfl (ow_vr (vr_muli rfl rfl (by unfold inI64; omega)) ?_)) | (refine wl_op rfl rfl (ow_vr (vr_mul rfl rfl) ?_))
  refine wl_op rfl rfl (ow_vr (vr_as (vr_addi rfl rfl (by unfold inI64; omega)) (congrArg (Value.int .i64) (show (1 : Int) + 4 * (k : Int) = ((1 + 4 * k : Nat) : Int) by omega))) ?_)
  refine wl_op rfl rfl (ow_vr (vr_move (v := .int .i64 _) rfl) ?_)
  first | (refine wl_op rfl rfl (ow_vr (vr_muli rfl rfl (by unfold inI64; omega)) ?_)) | (refine wl_op rfl rfl (ow_vr (vr_mul rfl rfl) ?_))
  first | (refine wl_op rfl rfl (ow_vr (vr_addi rfl rfl (by unfold inI64; omega)) ?_)) | (refine wl_op rfl rfl (ow_vr (vr_add rfl rfl) ?_))
  refine wl_op rfl rfl (ow_vr (vr_as (vr_addi rfl rfl (by unfold inI64; omega)) (congrArg (Value.int .i64) (show (1 : Int) + 4 * (k : Int) + 4 = ((5 + 4 * k : Nat) : Int) by omega))) ?_)
  refine wl_op rfl rfl (ow_vr (vr_as (v' := str (cutB l (1 + 4 * k) (5 + 4 * k))) (vr_slice_mid (l := l) (a := 1 + 4 * k) (h := 5 + 4 * k) Tryz.underlying9 rfl rfl rfl (by omega) (by omega)) rfl) ?_)
  refine wl_op rfl rfl (ow_fn (vs := [str _]) en_69 rfl hS (seal_Get (cutB l (1 + 4 * k) (5 + 4 * k)) (by omega)) ?_)
  clear hS; rintro v13 _ w ⟨rfl, rfl⟩ hS; (try simp only [List.cons_append, List.nil_append] at hS)
  refine wl_op rfl rfl (ow_vr (vr_assign (v := .int .i64 _) rfl) ?_)
  refine wl_nil ?_
  refine hK2 _ _ ?_
  refine cw_ret ?_
  refine ret_one (fn := Tryz.f68) (n := 14) (t := 3) (.inl rfl) rfl rfl ?_
  exact ⟨_, ⟨rfl, rfl⟩, hS⟩
theorem first_byte {b : List UInt8} {x : UInt8} (hx : (bodyB b)[0]? = some x) (hl : b.length = 32) : ((x.toNat : Nat) : Int) = (getB (cutB b 0 1) : Int) := by
  rw [← cut_body hl (by omega)]
  cases hb : bodyB b with
  | nil => rw [hb] at hx; cases hx
  | cons y t =>
    rw [hb] at hx; cases hx
    simp [cutB, getB, num]
theorem entry_Get (b : List UInt8) (hb : b.length ≤ 1000) : FnV Tryz.prog 30 [str b] (.tuple #[entV (getE b), .bool (getOkE b)]) := by
  refine FnV.mk fun E F w hS => ?_
  have hgo := fun h => laid_open (b := b) h
  refine returns_enter Tryz.func30 rfl Tryz.ntmps30 rfl ?_
  refine cw_seq fun K1 hK1 => ?_
  refine cw_region ?_
  refine wl_op rfl rfl (ow_alloc (cs := [_, _, _, _, _]) hS zr_74 rfl ?_)
  clear hS; intro b2 w hS
  refine wl_op rfl rfl (ow_vr (vr_assign (v := .bool false) rfl) ?_)
  refine wl_nil ?_
  refine hK1 _ _ ?_
  refine cw_seq fun K2 hK2 => ?_
  refine cw_region ?_
  refine wl_op rfl rfl (ow_vr (vr_move (v := str _) rfl) ?_)
  refine wl_op rfl rfl (ow_fn (vs := [str _]) en_67 rfl hS (seal_Open b (by omega)) ?_)
  clear hS; rintro v12 _ w ⟨rfl, rfl⟩ hS; (try simp only [List.cons_append, List.nil_append] at hS)
  refine wl_op rfl rfl (ow_vr (vr_move (v := .tuple _) rfl) ?_)
  refine wl_op rfl rfl (ow_vr (vr_extract (v := str _) rfl rfl) ?_)
  refine wl_op rfl rfl (ow_vr (vr_extract (v := .bool _) rfl rfl) ?_)
  refine wl_op rfl rfl (ow_alloc (cs := [_]) hS zr_9 rfl ?_)
  clear hS; intro b4 w hS
  refine wl_op rfl rfl (ow_store1 (v := str _) hS sz_9 rfl rfl (by first | rfl | exact Own.isOne (by assumption)) (by first | exact Has.here | exact Has.there (Has.here) | exact Has.there (Has.there (Has.here)) | exact Has.there (Has.there (Has.there (Has.here))) | exact Has.there (Has.there (Has.there (Has.there (Has.here)))) | exact Has.there (Has.there (Has.there (Has.there (Has.there (Has.here))))) | exact Has.there (Has.there (Has.there (Has.there (Has.there (Has.there (Has.here)))))) | exact Has.there (Has.there (Has.there (Has.there (Has.there (Has.there (Has.there (Has.here)))))))) (by simp) ?_)
  clear hS; intro w hS; try simp only [List.set_cons_zero, List.set_cons_succ] at hS
  refine wl_op rfl rfl (ow_vr (vr_assign (v := .bool _) rfl) ?_)
  refine wl_nil ?_
  refine hK2 _ _ ?_
  refine cw_seq fun K3 hK3 => ?_
  refine cw_seq fun K4 hK4 => ?_
  refine cw_region ?_
  refine wl_op rfl rfl (ow_vr (vr_move (v := .bool _) rfl) ?_)
  refine wl_op rfl rfl (ow_vr (vr_not rfl) ?_)
  refine wl_op rfl rfl (ow_vr (vr_move (v := .bool _) rfl) ?_)
  refine wl_split 17 rfl (fun hc => ?_) (fun hc => ?_)
  · (try simp only [decide_eq_true_eq, decide_eq_false_iff_not, Bool.not_eq_true, Bool.not_eq_false, Bool.not_eq_true', Bool.not_eq_false', Bool.and_eq_true, Bool.or_eq_true, Bool.and_eq_false_iff, Bool.or_eq_false_iff, Int.not_lt, Int.not_le, gt_iff_lt, ge_iff_le, ne_eq, Decidable.not_not, beq_iff_eq] at hc)
    have hg17 := hc; clear hc
    refine wl_noD rfl rfl rfl rfl rfl rfl ?_
    refine wl_noD rfl rfl rfl rfl rfl rfl ?_
    refine wl_noD rfl rfl rfl rfl rfl rfl ?_
    refine wl_op rfl rfl (ow_vr (vr_pick (b := true) (v := .bool _) rfl rfl) ?_)
    refine wl_nil ?_
    refine hK4 _ _ ?_
    refine cw_cond_t rfl rfl (rfl) ?_
    refine cw_seq fun K5 hK5 => ?_
    have hno : getOkE b = false := by cases hg : getOkE b <;> simp_all <;> omega
    refine cw_region ?_
    refine wl_op rfl rfl (ow_vr (vr_build (vs := []) (cs := [.int .i64 _, .int .i64 _, .int .i64 _, .int .i64 _, .int .i64 _]) zr_74 pl_74 rfl rfl) ?_)
    refine wl_op rfl rfl (ow_storeA (vs := [.int .i64 _, .int .i64 _, .int .i64 _, .int .i64 _, .int .i64 _]) hS sz_74 rfl rfl rfl (by first | rfl | (simp only [List.all_cons, List.all_nil, Bool.and_true, Bool.and_eq_true]; repeat (first | refine ⟨by first | rfl | assumption, ?_⟩ | rfl | assumption))) (by first | exact Has.here | exact Has.there (Has.here) | exact Has.there (Has.there (Has.here)) | exact Has.there (Has.there (Has.there (Has.here))) | exact Has.there (Has.there (Has.there (Has.there (Has.here)))) | exact Has.there (Has.there (Has.there (Has.there (Has.there (Has.here))))) | exact Has.there (Has.there (Has.there (Has.there (Has.there (Has.there (Has.here)))))) | exact Has.there (Has.there (Has.there (Has.there (Has.there (Has.there (Has.there (Has.here)))))))) (by simp) ?_)
    clear hS; intro w hS; try simp only [putAt, List.set_cons_zero, List.set_cons_succ] at hS
    refine wl_op rfl rfl (ow_vr (vr_assign (v := .bool false) rfl) ?_)
    refine wl_nil ?_
    refine hK5 _ _ ?_
    refine cw_ret ?_
    refine thenF_ret (?_)
    refine ret_g2 (fn := Tryz.f30) (n := 50) (.inl rfl) rfl (RV.cellA (vs := [.int .i64 _, .int .i64 _, .int .i64 _, .int .i64 _, .int .i64 _]) hS rfl Tryz.underlying74 rfl sz_74 rfl (by first | exact Has.here | exact Has.there (Has.here) | exact Has.there (Has.there (Has.here)) | exact Has.there (Has.there (Has.there (Has.here))) | exact Has.there (Has.there (Has.there (Has.there (Has.here)))) | exact Has.there (Has.there (Has.there (Has.there (Has.there (Has.here))))) | exact Has.there (Has.there (Has.there (Has.there (Has.there (Has.there (Has.here)))))) | exact Has.there (Has.there (Has.there (Has.there (Has.there (Has.there (Has.there (Has.here)))))))) rfl rfl) (RV.tmp rfl rfl) ?_
    exact ⟨by rw [getE, hno] <;> rfl, hS.tail1.tail1⟩
  · (try simp only [decide_eq_true_eq, decide_eq_false_iff_not, Bool.not_eq_true, Bool.not_eq_false, Bool.not_eq_true', Bool.not_eq_false', Bool.and_eq_true, Bool.or_eq_true, Bool.and_eq_false_iff, Bool.or_eq_false_iff, Int.not_lt, Int.not_le, gt_iff_lt, ge_iff_le, ne_eq, Decidable.not_not, beq_iff_eq] at hc)
    have hg17 := hc; clear hc
    refine wl_yes rfl rfl rfl rfl rfl (ow_vr (vr_move (v := str _) rfl) ?_)
    refine wl_yes rfl rfl rfl rfl rfl (ow_vr (vr_len_s Tryz.underlying9 rfl) ?_)
    refine wl_yes rfl rfl rfl rfl rfl (ow_vr (vr_neq rfl rfl) ?_)
    refine wl_op rfl rfl (ow_vr (vr_pick (b := false) (v := .bool _) rfl rfl) ?_)
    refine wl_nil ?_
    refine hK4 _ _ ?_
    refine cw_cond rfl rfl (fun hc => ?_) (fun hc => ?_)
    · (try simp only [decide_eq_true_eq, decide_eq_false_iff_not, Bool.not_eq_true, Bool.not_eq_false, Bool.not_eq_true', Bool.not_eq_false', Bool.and_eq_true, Bool.or_eq_true, Bool.and_eq_false_iff, Bool.or_eq_false_iff, Int.not_lt, Int.not_le, gt_iff_lt, ge_iff_le, ne_eq, Decidable.not_not, beq_iff_eq] at hc)
      have hc0 := hc; clear hc
      refine cw_seq fun K6 hK6 => ?_
      have hno : getOkE b = false := by cases hg : getOkE b <;> simp_all <;> omega
      refine cw_region ?_
      refine wl_op rfl rfl (ow_vr (vr_build (vs := []) (cs := [.int .i64 _, .int .i64 _, .int .i64 _, .int .i64 _, .int .i64 _]) zr_74 pl_74 rfl rfl) ?_)
      refine wl_op rfl rfl (ow_storeA (vs := [.int .i64 _, .int .i64 _, .int .i64 _, .int .i64 _, .int .i64 _]) hS sz_74 rfl rfl rfl (by first | rfl | (simp only [List.all_cons, List.all_nil, Bool.and_true, Bool.and_eq_true]; repeat (first | refine ⟨by first | rfl | assumption, ?_⟩ | rfl | assumption))) (by first | exact Has.here | exact Has.there (Has.here) | exact Has.there (Has.there (Has.here)) | exact Has.there (Has.there (Has.there (Has.here))) | exact Has.there (Has.there (Has.there (Has.there (Has.here)))) | exact Has.there (Has.there (Has.there (Has.there (Has.there (Has.here))))) | exact Has.there (Has.there (Has.there (Has.there (Has.there (Has.there (Has.here)))))) | exact Has.there (Has.there (Has.there (Has.there (Has.there (Has.there (Has.there (Has.here)))))))) (by simp) ?_)
      clear hS; intro w hS; try simp only [putAt, List.set_cons_zero, List.set_cons_succ] at hS
      refine wl_op rfl rfl (ow_vr (vr_assign (v := .bool false) rfl) ?_)
      refine wl_nil ?_
      refine hK6 _ _ ?_
      refine cw_ret ?_
      refine thenF_ret (?_)
      refine ret_g2 (fn := Tryz.f30) (n := 50) (.inl rfl) rfl (RV.cellA (vs := [.int .i64 _, .int .i64 _, .int .i64 _, .int .i64 _, .int .i64 _]) hS rfl Tryz.underlying74 rfl sz_74 rfl (by first | exact Has.here | exact Has.there (Has.here) | exact Has.there (Has.there (Has.here)) | exact Has.there (Has.there (Has.there (Has.here))) | exact Has.there (Has.there (Has.there (Has.there (Has.here)))) | exact Has.there (Has.there (Has.there (Has.there (Has.there (Has.here))))) | exact Has.there (Has.there (Has.there (Has.there (Has.there (Has.there (Has.here)))))) | exact Has.there (Has.there (Has.there (Has.there (Has.there (Has.there (Has.there (Has.here)))))))) rfl rfl) (RV.tmp rfl rfl) ?_
      exact ⟨by rw [getE, hno] <;> rfl, hS.tail1.tail1⟩
    · (try simp only [decide_eq_true_eq, decide_eq_false_iff_not, Bool.not_eq_true, Bool.not_eq_false, Bool.not_eq_true', Bool.not_eq_false', Bool.and_eq_true, Bool.or_eq_true, Bool.and_eq_false_iff, Bool.or_eq_false_iff, Int.not_lt, Int.not_le, gt_iff_lt, ge_iff_le, ne_eq, Decidable.not_not, beq_iff_eq] at hc)
      have hc0 := hc; clear hc
      refine cw_skip ?_
      refine hK3 _ _ ?_
      refine cw_seq fun K7 hK7 => ?_
      have hok : openOk b = true := by simp_all
      have hl : b.length = 32 := by simp_all <;> omega
      have hol : openL b = bodyB b := by rw [openL, if_pos hok]
      have hlen := bodyB_length b
      rw [hol] at hS
      obtain ⟨x, hx⟩ := get_lt (xs := bodyB b) (k := 0) (by omega)
      have hx1 := first_byte hx hl
      have hxl := x.toNat_lt
      have hg : ∀ k : Nat, k ≤ 3 → Fn Tryz.prog 68 [.int .i64 (k : Int), .pointer (some ⟨b4, 0, none⟩)] [[(b4, .cells [str (bodyB b)].toArray 9 (0, 0))]] (fun v Δ => v = .int .i64 (getB (cutB b (1 + 4 * k) (5 + 4 * k)) : Int) ∧ Δ = [[(b4, .cells [str (bodyB b)].toArray 9 (0, 0))]]) := fun k hk => by have := entry_Get1 (bodyB b) k b4 (by omega) (by omega); rwa [cut_body hl (by omega)] at this
      refine cw_region ?_
      refine wl_op rfl rfl (ow_vr (vr_makeFunc rfl rfl) ?_)
      refine wl_op rfl rfl (ow_vr (vr_assign rfl) ?_)
      refine wl_nil ?_
      refine hK7 _ _ ?_
      refine cw_seq fun K8 hK8 => ?_
      refine cw_draw_sat hS [(0, 1), (1, 0), (2, 0), (3, 0), (5, 0), (7, 0), (9, 0), (4, 5), (6, 5), (8, 5), (10, 5), (11, 0), (12, 2), (13, 3)] mixed (planFast_ok (by kernel_rfl)) (by rintro _ _ _ ⟨⟩) ?_
      clear hS; intro w hS
      refine pl_load rfl (yes_none rfl) (lr_load1 Tryz.underlying9 rfl rfl (by first | exact Has.here | exact Has.there (Has.here) | exact Has.there (Has.there (Has.here)) | exact Has.there (Has.there (Has.there (Has.here))) | exact Has.there (Has.there (Has.there (Has.there (Has.here)))) | exact Has.there (Has.there (Has.there (Has.there (Has.there (Has.here))))) | exact Has.there (Has.there (Has.there (Has.there (Has.there (Has.there (Has.here)))))) | exact Has.there (Has.there (Has.there (Has.there (Has.there (Has.there (Has.there (Has.here)))))))) rfl) ?_
      refine pl_take rfl (yes_none rfl) (vr_index_s Tryz.underlying9 rfl rfl (by omega) (hx)) ?_
      refine pl_take rfl (yes_none rfl) (vr_as (v' := .int .i64 (getB (cutB b 0 1) : Int)) (vr_conv_in Tryz.underlying5 Tryz.underlying3 rfl (wrap_i64 (by unfold inI64; omega))) (congrArg (Value.int .i64) hx1)) ?_
      refine pl_take rfl (yes_none rfl) (vr_move rfl) ?_
      refine pl_take rfl (yes_none rfl) (vr_move rfl) ?_
      refine pl_take rfl (yes_none rfl) (vr_move rfl) ?_
      refine pl_take rfl (yes_none rfl) (vr_move rfl) ?_
      refine pl_quietV rfl (yes_none rfl) en_68 rfl rfl (hg 0 (by omega)) (fun w h => ⟨_, _, by first | exact h | exact h.front1 | exact h.front2 | exact h.front3⟩) ?_
      refine pl_quietV rfl (yes_none rfl) en_68 rfl rfl (hg 1 (by omega)) (fun w h => ⟨_, _, by first | exact h | exact h.front1 | exact h.front2 | exact h.front3⟩) ?_
      refine pl_quietV rfl (yes_none rfl) en_68 rfl rfl (hg 2 (by omega)) (fun w h => ⟨_, _, by first | exact h | exact h.front1 | exact h.front2 | exact h.front3⟩) ?_
      refine pl_quietV rfl (yes_none rfl) en_68 rfl rfl (hg 3 (by omega)) (fun w h => ⟨_, _, by first | exact h | exact h.front1 | exact h.front2 | exact h.front3⟩) ?_
      refine pl_take rfl (yes_none rfl) (vr_build1 (ps := [(0, .int .i64 _), (1, .int .i64 _), (2, .int .i64 _), (3, .int .i64 _), (4, .int .i64 _)]) (vs := [.int .i64 _, .int .i64 _, .int .i64 _, .int .i64 _, .int .i64 _]) zr_74 pl_74 rfl rfl rfl rfl (by first | rfl | (simp only [List.all_cons, List.all_nil, Bool.and_true, Bool.and_eq_true]; repeat (first | refine ⟨by first | rfl | assumption, ?_⟩ | rfl | assumption)))) ?_
      refine pl_act hS rfl (yes_none rfl) ?_
      clear hS; intro w hS
      refine (ow_alloc (cs := [_, _, _, _, _]) hS zr_74 rfl ?_)
      clear hS; intro b7 w hS
      refine ⟨by first | exact hS | exact hS.tail1 | exact hS.tail1.tail1 | exact hS.tail1.tail1.tail1, ?_⟩
      refine pl_end hS rfl (yes_none rfl) ?_
      clear hS; intro w hS
      refine (ow_storeA (vs := [.int .i64 _, .int .i64 _, .int .i64 _, .int .i64 _, .int .i64 _]) hS sz_74 rfl rfl rfl (by first | rfl | (simp only [List.all_cons, List.all_nil, Bool.and_true, Bool.and_eq_true]; repeat (first | refine ⟨by first | rfl | assumption, ?_⟩ | rfl | assumption))) (by first | exact Has.here | exact Has.there (Has.here) | exact Has.there (Has.there (Has.here)) | exact Has.there (Has.there (Has.there (Has.here))) | exact Has.there (Has.there (Has.there (Has.there (Has.here)))) | exact Has.there (Has.there (Has.there (Has.there (Has.there (Has.here))))) | exact Has.there (Has.there (Has.there (Has.there (Has.there (Has.there (Has.here)))))) | exact Has.there (Has.there (Has.there (Has.there (Has.there (Has.there (Has.there (Has.here)))))))) (by simp) ?_)
      clear hS; intro w hS; try simp only [putAt, List.set_cons_zero, List.set_cons_succ] at hS
      refine pl_nil hS ?_
      clear hS; intro w hS
      refine hK8 _ _ ?_
      refine cw_seq fun K9 hK9 => ?_
      refine cw_seq fun K10 hK10 => ?_
      refine cw_region ?_
      first | (refine wl_op rfl rfl (ow_lr (S := Sat _ _) (lr_loadA (vs := [.int .i64 _, .int .i64 _, .int .i64 _, .int .i64 _, .int .i64 _]) Tryz.underlying74 rfl sz_74 rfl (by first | exact Has.here | exact Has.there (Has.here) | exact Has.there (Has.there (Has.here)) | exact Has.there (Has.there (Has.there (Has.here))) | exact Has.there (Has.there (Has.there (Has.there (Has.here)))) | exact Has.there (Has.there (Has.there (Has.there (Has.there (Has.here))))) | exact Has.there (Has.there (Has.there (Has.there (Has.there (Has.there (Has.here)))))) | exact Has.there (Has.there (Has.there (Has.there (Has.there (Has.there (Has.there (Has.here)))))))) rfl rfl) hS ?_)) | (refine wl_op rfl rfl (ow_lr (S := Sat _ _) (lr_loadA (vs := [_, _, _, _, _]) Tryz.underlying74 rfl sz_74 rfl (by first | exact Has.here | exact Has.there (Has.here) | exact Has.there (Has.there (Has.here)) | exact Has.there (Has.there (Has.there (Has.here))) | exact Has.there (Has.there (Has.there (Has.there (Has.here)))) | exact Has.there (Has.there (Has.there (Has.there (Has.there (Has.here))))) | exact Has.there (Has.there (Has.there (Has.there (Has.there (Has.there (Has.here)))))) | exact Has.there (Has.there (Has.there (Has.there (Has.there (Has.there (Has.there (Has.here)))))))) rfl rfl) hS ?_))
      refine wl_op rfl rfl (ow_fn (vs := [.agg _]) en_59 rfl hS (entry_Put (readE b)) ?_)
      clear hS; rintro v38 _ w ⟨rfl, rfl⟩ hS; (try simp only [List.cons_append, List.nil_append] at hS)
      refine wl_op rfl rfl (ow_vr (vr_move (v := .tuple _) rfl) ?_)
      refine wl_op rfl rfl (ow_vr (vr_extract (v := str _) rfl rfl) ?_)
      refine wl_op rfl rfl (ow_vr (vr_extract (v := .bool _) rfl rfl) ?_)
      refine wl_op rfl rfl (ow_vr (vr_assign (v := str _) rfl) ?_)
      refine wl_op rfl rfl (ow_vr (vr_assign (v := .bool _) rfl) ?_)
      refine wl_nil ?_
      refine hK10 _ _ ?_
      refine cw_seq fun K11 hK11 => ?_
      refine cw_region ?_
      refine wl_op rfl rfl (ow_vr (vr_move (v := .bool _) rfl) ?_)
      refine wl_op rfl rfl (ow_vr (vr_not rfl) ?_)
      refine wl_op rfl rfl (ow_vr (vr_move (v := .bool _) rfl) ?_)
      refine wl_split 43 rfl (fun hc => ?_) (fun hc => ?_)
      · (try simp only [decide_eq_true_eq, decide_eq_false_iff_not, Bool.not_eq_true, Bool.not_eq_false, Bool.not_eq_true', Bool.not_eq_false', Bool.and_eq_true, Bool.or_eq_true, Bool.and_eq_false_iff, Bool.or_eq_false_iff, Int.not_lt, Int.not_le, gt_iff_lt, ge_iff_le, ne_eq, Decidable.not_not, beq_iff_eq] at hc)
        have hr := hc; clear hc
        refine wl_noD rfl rfl rfl rfl rfl rfl ?_
        refine wl_noD rfl rfl rfl rfl rfl rfl ?_
        refine wl_noD rfl rfl rfl rfl rfl rfl ?_
        refine wl_op rfl rfl (ow_vr (vr_pick (b := true) (v := .bool _) rfl rfl) ?_)
        refine wl_nil ?_
        refine hK11 _ _ ?_
        refine cw_cond_t rfl rfl (rfl) ?_
        refine cw_seq fun K12 hK12 => ?_
        have hno : getOkE b = false := by cases hr2 : rightE (readE b) <;> simp_all [getOkE]
        refine cw_region ?_
        refine wl_op rfl rfl (ow_vr (vr_build (vs := []) (cs := [.int .i64 _, .int .i64 _, .int .i64 _, .int .i64 _, .int .i64 _]) zr_74 pl_74 rfl rfl) ?_)
        refine wl_op rfl rfl (ow_storeA (vs := [.int .i64 _, .int .i64 _, .int .i64 _, .int .i64 _, .int .i64 _]) hS sz_74 rfl rfl rfl (by first | rfl | (simp only [List.all_cons, List.all_nil, Bool.and_true, Bool.and_eq_true]; repeat (first | refine ⟨by first | rfl | assumption, ?_⟩ | rfl | assumption))) (by first | exact Has.here | exact Has.there (Has.here) | exact Has.there (Has.there (Has.here)) | exact Has.there (Has.there (Has.there (Has.here))) | exact Has.there (Has.there (Has.there (Has.there (Has.here)))) | exact Has.there (Has.there (Has.there (Has.there (Has.there (Has.here))))) | exact Has.there (Has.there (Has.there (Has.there (Has.there (Has.there (Has.here)))))) | exact Has.there (Has.there (Has.there (Has.there (Has.there (Has.there (Has.there (Has.here)))))))) (by simp) ?_)
        clear hS; intro w hS; try simp only [putAt, List.set_cons_zero, List.set_cons_succ] at hS
        refine wl_op rfl rfl (ow_vr (vr_assign (v := .bool false) rfl) ?_)
        refine wl_nil ?_
        refine hK12 _ _ ?_
        refine cw_ret ?_
        refine thenF_ret (?_)
        refine ret_g2 (fn := Tryz.f30) (n := 50) (.inl rfl) rfl (RV.cellA (vs := [.int .i64 _, .int .i64 _, .int .i64 _, .int .i64 _, .int .i64 _]) hS rfl Tryz.underlying74 rfl sz_74 rfl (by first | exact Has.here | exact Has.there (Has.here) | exact Has.there (Has.there (Has.here)) | exact Has.there (Has.there (Has.there (Has.here))) | exact Has.there (Has.there (Has.there (Has.there (Has.here)))) | exact Has.there (Has.there (Has.there (Has.there (Has.there (Has.here))))) | exact Has.there (Has.there (Has.there (Has.there (Has.there (Has.there (Has.here)))))) | exact Has.there (Has.there (Has.there (Has.there (Has.there (Has.there (Has.there (Has.here)))))))) rfl rfl) (RV.tmp rfl rfl) ?_
        exact ⟨by rw [getE, hno] <;> rfl, hS.tail1.tail1.tail1⟩
      · (try simp only [decide_eq_true_eq, decide_eq_false_iff_not, Bool.not_eq_true, Bool.not_eq_false, Bool.not_eq_true', Bool.not_eq_false', Bool.and_eq_true, Bool.or_eq_true, Bool.and_eq_false_iff, Bool.or_eq_false_iff, Int.not_lt, Int.not_le, gt_iff_lt, ge_iff_le, ne_eq, Decidable.not_not, beq_iff_eq] at hc)
        have hr := hc; clear hc
        refine wl_yes rfl rfl rfl rfl rfl (ow_vr (vr_move (v := str _) rfl) ?_)
        refine wl_yes rfl rfl rfl rfl rfl (ow_vr (vr_move (v := str _) rfl) ?_)
        refine wl_yes rfl rfl rfl rfl rfl (ow_vr (vr_neq_s rfl rfl) ?_)
        refine wl_op rfl rfl (ow_vr (vr_pick (b := false) (v := .bool _) rfl rfl) ?_)
        refine wl_nil ?_
        refine hK11 _ _ ?_
        refine cw_cond rfl rfl (fun hc => ?_) (fun hc => ?_)
        · (try simp only [decide_eq_true_eq, decide_eq_false_iff_not, Bool.not_eq_true, Bool.not_eq_false, Bool.not_eq_true', Bool.not_eq_false', Bool.and_eq_true, Bool.or_eq_true, Bool.and_eq_false_iff, Bool.or_eq_false_iff, Int.not_lt, Int.not_le, gt_iff_lt, ge_iff_le, ne_eq, Decidable.not_not, beq_iff_eq] at hc)
          have hc := hc; clear hc
          refine cw_seq fun K13 hK13 => ?_
          have hno : getOkE b = false := by cases hr2 : rightE (readE b) <;> simp_all [getOkE]
          refine cw_region ?_
          refine wl_op rfl rfl (ow_vr (vr_build (vs := []) (cs := [.int .i64 _, .int .i64 _, .int .i64 _, .int .i64 _, .int .i64 _]) zr_74 pl_74 rfl rfl) ?_)
          refine wl_op rfl rfl (ow_storeA (vs := [.int .i64 _, .int .i64 _, .int .i64 _, .int .i64 _, .int .i64 _]) hS sz_74 rfl rfl rfl (by first | rfl | (simp only [List.all_cons, List.all_nil, Bool.and_true, Bool.and_eq_true]; repeat (first | refine ⟨by first | rfl | assumption, ?_⟩ | rfl | assumption))) (by first | exact Has.here | exact Has.there (Has.here) | exact Has.there (Has.there (Has.here)) | exact Has.there (Has.there (Has.there (Has.here))) | exact Has.there (Has.there (Has.there (Has.there (Has.here)))) | exact Has.there (Has.there (Has.there (Has.there (Has.there (Has.here))))) | exact Has.there (Has.there (Has.there (Has.there (Has.there (Has.there (Has.here)))))) | exact Has.there (Has.there (Has.there (Has.there (Has.there (Has.there (Has.there (Has.here)))))))) (by simp) ?_)
          clear hS; intro w hS; try simp only [putAt, List.set_cons_zero, List.set_cons_succ] at hS
          refine wl_op rfl rfl (ow_vr (vr_assign (v := .bool false) rfl) ?_)
          refine wl_nil ?_
          refine hK13 _ _ ?_
          refine cw_ret ?_
          refine thenF_ret (?_)
          refine ret_g2 (fn := Tryz.f30) (n := 50) (.inl rfl) rfl (RV.cellA (vs := [.int .i64 _, .int .i64 _, .int .i64 _, .int .i64 _, .int .i64 _]) hS rfl Tryz.underlying74 rfl sz_74 rfl (by first | exact Has.here | exact Has.there (Has.here) | exact Has.there (Has.there (Has.here)) | exact Has.there (Has.there (Has.there (Has.here))) | exact Has.there (Has.there (Has.there (Has.there (Has.here)))) | exact Has.there (Has.there (Has.there (Has.there (Has.there (Has.here))))) | exact Has.there (Has.there (Has.there (Has.there (Has.there (Has.there (Has.here)))))) | exact Has.there (Has.there (Has.there (Has.there (Has.there (Has.there (Has.there (Has.here)))))))) rfl rfl) (RV.tmp rfl rfl) ?_
          exact ⟨by rw [getE, hno] <;> rfl, hS.tail1.tail1.tail1⟩
        · (try simp only [decide_eq_true_eq, decide_eq_false_iff_not, Bool.not_eq_true, Bool.not_eq_false, Bool.not_eq_true', Bool.not_eq_false', Bool.and_eq_true, Bool.or_eq_true, Bool.and_eq_false_iff, Bool.or_eq_false_iff, Int.not_lt, Int.not_le, gt_iff_lt, ge_iff_le, ne_eq, Decidable.not_not, beq_iff_eq] at hc)
          have hc := hc; clear hc
          refine cw_skip ?_
          refine hK9 _ _ ?_
          refine cw_seq fun K14 hK14 => ?_
          have hno : getOkE b = true := by cases hr2 : rightE (readE b) <;> simp_all [getOkE]
          refine cw_region ?_
          first | (refine wl_op rfl rfl (ow_lr (S := Sat _ _) (lr_loadA (vs := [.int .i64 _, .int .i64 _, .int .i64 _, .int .i64 _, .int .i64 _]) Tryz.underlying74 rfl sz_74 rfl (by first | exact Has.here | exact Has.there (Has.here) | exact Has.there (Has.there (Has.here)) | exact Has.there (Has.there (Has.there (Has.here))) | exact Has.there (Has.there (Has.there (Has.there (Has.here)))) | exact Has.there (Has.there (Has.there (Has.there (Has.there (Has.here))))) | exact Has.there (Has.there (Has.there (Has.there (Has.there (Has.there (Has.here)))))) | exact Has.there (Has.there (Has.there (Has.there (Has.there (Has.there (Has.there (Has.here)))))))) rfl rfl) hS ?_)) | (refine wl_op rfl rfl (ow_lr (S := Sat _ _) (lr_loadA (vs := [_, _, _, _, _]) Tryz.underlying74 rfl sz_74 rfl (by first | exact Has.here | exact Has.there (Has.here) | exact Has.there (Has.there (Has.here)) | exact Has.there (Has.there (Has.there (Has.here))) | exact Has.there (Has.there (Has.there (Has.there (Has.here)))) | exact Has.there (Has.there (Has.there (Has.there (Has.there (Has.here))))) | exact Has.there (Has.there (Has.there (Has.there (Has.there (Has.there (Has.here)))))) | exact Has.there (Has.there (Has.there (Has.there (Has.there (Has.there (Has.there (Has.here)))))))) rfl rfl) hS ?_))
          refine wl_op rfl rfl (ow_storeA (vs := [.int .i64 _, .int .i64 _, .int .i64 _, .int .i64 _, .int .i64 _]) hS sz_74 rfl rfl rfl (by first | rfl | (simp only [List.all_cons, List.all_nil, Bool.and_true, Bool.and_eq_true]; repeat (first | refine ⟨by first | rfl | assumption, ?_⟩ | rfl | assumption))) (by first | exact Has.here | exact Has.there (Has.here) | exact Has.there (Has.there (Has.here)) | exact Has.there (Has.there (Has.there (Has.here))) | exact Has.there (Has.there (Has.there (Has.there (Has.here)))) | exact Has.there (Has.there (Has.there (Has.there (Has.there (Has.here))))) | exact Has.there (Has.there (Has.there (Has.there (Has.there (Has.there (Has.here)))))) | exact Has.there (Has.there (Has.there (Has.there (Has.there (Has.there (Has.there (Has.here)))))))) (by simp) ?_)
          clear hS; intro w hS; try simp only [putAt, List.set_cons_zero, List.set_cons_succ] at hS
          refine wl_op rfl rfl (ow_vr (vr_assign (v := .bool true) rfl) ?_)
          refine wl_nil ?_
          refine hK14 _ _ ?_
          refine cw_ret ?_
          refine ret_g2 (fn := Tryz.f30) (n := 50) (.inl rfl) rfl (RV.cellA (vs := [.int .i64 _, .int .i64 _, .int .i64 _, .int .i64 _, .int .i64 _]) hS rfl Tryz.underlying74 rfl sz_74 rfl (by first | exact Has.here | exact Has.there (Has.here) | exact Has.there (Has.there (Has.here)) | exact Has.there (Has.there (Has.there (Has.here))) | exact Has.there (Has.there (Has.there (Has.there (Has.here)))) | exact Has.there (Has.there (Has.there (Has.there (Has.there (Has.here))))) | exact Has.there (Has.there (Has.there (Has.there (Has.there (Has.there (Has.here)))))) | exact Has.there (Has.there (Has.there (Has.there (Has.there (Has.there (Has.there (Has.here)))))))) rfl rfl) (RV.tmp rfl rfl) ?_
          exact ⟨by rw [getE, hno] <;> rfl, hS.tail1.tail1.tail1⟩
/-! plain -/
theorem rightE_spec {e : Entr} (h : rightE e = true) : (e.kind = 1 ∨ e.kind = 2) ∧ (e.kind = 2 → e.value = 0) ∧ (0 ≤ e.lsn ∧ e.lsn < 4294967296) ∧ (0 ≤ e.epoch ∧ e.epoch < 4294967296) ∧ (0 ≤ e.cell ∧ e.cell < 4294967296) ∧ 0 ≤ e.value ∧ e.value < 4294967296 := by
  simp [rightE, okN] at h; omega
def rawF (e : Entr) : List UInt8 := putB e.kind.toNat 1 ++ putB e.lsn.toNat 4 ++ putB e.epoch.toNat 4 ++ putB e.cell.toNat 4 ++ putB e.value.toNat 4
theorem rawE_eq {e : Entr} (h : rightE e = true) : rawE e = rawF e := by
  obtain ⟨h1, _, h2, h3, h4, h5⟩ := rightE_spec h
  have g : ∀ v n : Int, 0 ≤ v → v < 4294967296 → 1 ≤ n → n ≤ 8 → putI v n = putB v.toNat n.toNat := fun v n a b c d => by rw [putI, if_neg (by omega)]
  rw [rawE, g e.kind 1 (by omega) (by omega) (by omega) (by omega), g e.lsn 4 h2.1 h2.2 (by omega) (by omega), g e.epoch 4 h3.1 h3.2 (by omega) (by omega), g e.cell 4 h4.1 h4.2 (by omega) (by omega), g e.value 4 h5.1 h5.2 (by omega) (by omega)]
  rfl
theorem rawF_length (e : Entr) : (rawF e).length = 17 := by simp [rawF, putB_length]
theorem laid_eq {e : Entr} (h : rightE e = true) : laidB e = sealedB (padB (rawF e) 11) := by
  rw [laidB, rawE_eq h, sealI_ok (by rw [rawF_length]; omega) (by omega), rawF_length]; rfl
theorem laid_length {e : Entr} (h : rightE e = true) : (laidB e).length = 32 := by rw [laid_eq h, sealed_length, padB_length, rawF_length]
theorem read_laid {e : Entr} (h : rightE e = true) : readE (laidB e) = e := by
  obtain ⟨h1, h0, h2, h3, h4, h5⟩ := rightE_spec h
  have hb : ∃ z, laidB e = putB e.kind.toNat 1 ++ (putB e.lsn.toNat 4 ++ (putB e.epoch.toNat 4 ++ (putB e.cell.toNat 4 ++ (putB e.value.toNat 4 ++ z)))) := by
    rw [laid_eq h]
    exact ⟨List.replicate 11 0 ++ putB (sumB (padB (rawF e) 11)) 4, by simp only [sealedB, padB, rawF, List.append_assoc]⟩
  obtain ⟨z, hz⟩ := hb
  have c1 : cutB (laidB e) 0 1 = putB e.kind.toNat 1 := cutB_mid (a := []) hz rfl (by rw [putB_length]; rfl)
  have c2 : cutB (laidB e) 1 5 = putB e.lsn.toNat 4 := cutB_mid hz (by rw [putB_length]) (by simp [putB_length])
  have c3 : cutB (laidB e) 5 9 = putB e.epoch.toNat 4 := cutB_mid (a := putB e.kind.toNat 1 ++ putB e.lsn.toNat 4) (by rw [hz]; simp only [List.append_assoc]; rfl) (by simp [putB_length]) (by simp [putB_length])
  have c4 : cutB (laidB e) 9 13 = putB e.cell.toNat 4 := cutB_mid (a := putB e.kind.toNat 1 ++ putB e.lsn.toNat 4 ++ putB e.epoch.toNat 4) (by rw [hz]; simp only [List.append_assoc]; rfl) (by simp [putB_length]) (by simp [putB_length])
  have c5 : cutB (laidB e) 13 17 = putB e.value.toNat 4 := cutB_mid (a := putB e.kind.toNat 1 ++ putB e.lsn.toNat 4 ++ putB e.epoch.toNat 4 ++ putB e.cell.toNat 4) (by rw [hz]; simp only [List.append_assoc]; rfl) (by simp [putB_length]) (by simp [putB_length])
  rw [readE, c1, c2, c3, c4, c5, get_put (by omega) (by omega) (by omega), get_put (by omega) (by omega) (by omega), get_put (by omega) (by omega) (by omega), get_put (by omega) (by omega) (by omega), get_put (by omega) (by omega) (by omega)]
theorem getOk_laid {e : Entr} (h : rightE e = true) : getOkE (laidB e) = true := by
  rw [getOkE, read_laid h, h, laid_length h]; simp
theorem get_laid {e : Entr} (h : rightE e = true) : getE (laidB e) = e := by rw [getE, if_pos (getOk_laid h), read_laid h]
theorem laid_inj {s t : Entr} (hs : rightE s = true) (ht : rightE t = true) : laidB s = laidB t ↔ s = t := by
  constructor
  · intro h
    rw [← get_laid hs, ← get_laid ht, h]
  · intro h; rw [h]
theorem laid_turned {e : Entr} (h : rightE e = true) (k : Nat) (b : UInt8) (hk : k < 32) (hb : (laidB e)[k]? ≠ some b) : getOkE ((laidB e).set k b) = false := by
  cases hg : getOkE ((laidB e).set k b) with
  | false => rfl
  | true =>
    have h1 := (laid_open hg).1
    rw [laid_eq h] at h1 hb
    rw [open_turned _ k b (by rw [padB_length, rawF_length]; omega) hb] at h1
    cases h1
theorem entry_PutT {e : Entr} (h : rightE e = true) : FnV Tryz.prog 59 [entV e] (.tuple #[str (laidB e), .bool true]) := by
  have := entry_Put e
  rwa [h, if_pos rfl] at this
theorem entry_PutF {e : Entr} (h : rightE e = false) : FnV Tryz.prog 59 [entV e] (.tuple #[str [], .bool false]) := by
  have := entry_Put e
  rwa [h, if_neg (by simp)] at this
theorem entr_eq (s t : Entr) : (s.kind == t.kind && (s.lsn == t.lsn && (s.epoch == t.epoch && (s.cell == t.cell && (s.value == t.value && true))))) = true ↔ s = t := by
  cases s; cases t
  simp
end Go.Proofs.YtjcagoighpmdkaaGreatDoor
