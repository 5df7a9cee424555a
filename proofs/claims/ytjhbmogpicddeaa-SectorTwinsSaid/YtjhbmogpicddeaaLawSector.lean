/- The laws of chapter 2: the disk. -/
import Derived.Test.YtjhbmogpicddeaaDisk
namespace Go.Proofs.Ytjhbmogpicddeaa
open Go Go.RowKit
set_option linter.unusedVariables false
set_option linter.unusedSimpArgs false
attribute [local irreducible] actF WL CW OW PL SW VR LR yes Returns Fn
def fullB (b : List UInt8) : List UInt8 := if 32 ≤ b.length then b.take 32 else b ++ List.replicate (32 - b.length) 0
theorem fullB_length (b : List UInt8) : (fullB b).length = 32 := by
  rw [fullB]; split
  · rw [List.length_take]; omega
  · rw [List.length_append, List.length_replicate]; omega
theorem full_eq {b c : List UInt8} {j : Nat} (hc : c = b ++ List.replicate j 0) (hj : j = 0 ∨ b.length + j ≤ 32) (h : 32 ≤ c.length) : c.take 32 = fullB b := by
  subst hc
  rw [List.length_append, List.length_replicate] at h
  rw [fullB]; split
  · rw [List.take_append_of_le_length (by omega)]
  · rw [List.take_of_length_le (by rw [List.length_append, List.length_replicate]; omega), show j = 32 - b.length by omega]
theorem full_nil : fullB [] = zeros32 := rfl
theorem law_Full (b : List UInt8) (hb : b.length ≤ 9223372036854775807) : FnV Try.prog 14 [str b] (str (fullB b)) := by
  refine FnV.mk fun E F w hS => ?_
  refine returns_enter Try.func14 rfl Try.ntmps14 rfl ?_
  refine cw_seq fun K1 hK1 => ?_
  refine cw_region ?_
  refine wl_op rfl rfl (ow_vr (vr_assign (v := str []) rfl) ?_)
  refine wl_nil ?_
  refine hK1 _ _ ?_
  refine cw_seq fun K2 hK2 => ?_
  refine cw_block ?_
  refine cw_loop (fun m f w => ∃ (j : Nat) (c : List UInt8) (g : Nat → Value), f = (upd g 0 (str c)) ∧ (c = b ++ List.replicate j 0 ∧ (j = 0 ∨ b.length + j ≤ 32)) ∧ m = 32 - (b.length + j) ∧ Sat E (F) w) ⟨0, b, _, (reb rfl rfl), ?_, rfl, hS⟩ ?_
  · exact ⟨by simp, .inl rfl⟩
  clear hS; rintro m f w ⟨j, c, g, rfl, hI0, rfl, hS⟩
  obtain ⟨hc, hj⟩ := hI0
  have hlen : c.length = b.length + j := by rw [hc, List.length_append, List.length_replicate]
  refine cw_seq fun K3 hK3 => ?_
  refine cw_seq fun K4 hK4 => ?_
  refine cw_region ?_
  refine wl_op rfl rfl (ow_vr (vr_move (v := (str c)) rfl) ?_)
  refine wl_op rfl rfl (ow_vr (vr_len_s Try.underlying9 rfl) ?_)
  refine wl_op rfl rfl (ow_vr (vr_lss rfl rfl) ?_)
  refine wl_nil ?_
  refine hK4 _ _ ?_
  refine cw_cond rfl rfl (fun hc => ?_) (fun hc => ?_)
  · (try simp only [decide_eq_true_eq, decide_eq_false_iff_not, Bool.not_eq_true, Bool.not_eq_false, Bool.not_eq_true', Bool.not_eq_false', Bool.and_eq_true, Bool.or_eq_true, Bool.and_eq_false_iff, Bool.or_eq_false_iff, Int.not_lt, Int.not_le, gt_iff_lt, ge_iff_le, ne_eq, Decidable.not_not, beq_iff_eq] at hc)
    have hc0 := hc; clear hc
    refine cw_skip ?_
    refine hK3 _ _ ?_
    refine cw_block ?_
    refine cw_region ?_
    refine wl_op rfl rfl (ow_vr (vr_move (v := (str c)) rfl) ?_)
    refine wl_op rfl rfl (ow_vr (vr_cat_s (a := c) (b := [0]) rfl rfl (by simp; omega)) ?_)
    refine wl_op rfl rfl (ow_vr (vr_assign (v := str _) rfl) ?_)
    refine wl_nil ?_
    refine inB_normal (?_)
    refine thenF_normal ⟨_, ?_, j + 1, c ++ [0], _, (reb rfl rfl), ?_, rfl, hS⟩
    · omega
    · exact ⟨by rw [List.replicate_succ', ← List.append_assoc, ← hc], .inr (by omega)⟩
  · (try simp only [decide_eq_true_eq, decide_eq_false_iff_not, Bool.not_eq_true, Bool.not_eq_false, Bool.not_eq_true', Bool.not_eq_false', Bool.and_eq_true, Bool.or_eq_true, Bool.and_eq_false_iff, Bool.or_eq_false_iff, Int.not_lt, Int.not_le, gt_iff_lt, ge_iff_le, ne_eq, Decidable.not_not, beq_iff_eq] at hc)
    have hc0 := hc; clear hc
    refine cw_exit ?_
    refine hK2 _ _ ?_
    refine cw_seq fun K5 hK5 => ?_
    have hf : c.take 32 = fullB b := full_eq hc hj (by omega)
    refine cw_region ?_
    refine wl_op rfl rfl (ow_vr (vr_move (v := (str c)) rfl) ?_)
    refine wl_op rfl rfl (ow_vr (vr_slice_to (l := c) (h := 32) Try.underlying9 rfl rfl (by omega)) ?_)
    refine wl_op rfl rfl (ow_vr (vr_assign (v := str _) rfl) ?_)
    refine wl_nil ?_
    refine hK5 _ _ ?_
    refine cw_ret ?_
    refine ret_one (fn := Try.f14) (n := 10) (t := 2) (.inl rfl) rfl rfl ?_
    exact ⟨congrArg str hf, hS⟩
def newD (n : Int) : Dsk := ⟨fun _ => none, [], n, false, 0, false, 0, []⟩
theorem disk_New' {n : Int} (h0 : 0 ≤ n) (h1 : n ≤ 3000) : Fn Try.prog 13 [.int .i64 n] [] (fun v Δs => ∃ p Δ, v = ptr p ∧ Δs = [Δ] ∧ DiskAt p (newD n) Δ) := by
  have h := disk_New n
  rw [if_neg (show ¬ n < 0 by omega), if_neg (by omega)] at h
  exact h
theorem wrap64_in {x : Int} (h : inI64 x) : wrap64I x = x := wrap_i64 h
theorem write_ok {d : Dsk} {k : Int} {b : List UInt8} (hoff : d.off = false) (ha : d.armed = false) (h0 : 0 ≤ k) (h1 : k < d.n) (hb : b.length = 32) (hd : inI64 (d.deeds + 1)) :
    writeD d k b = (0, { d with waits := d.waits ++ [(k, b)], deeds := d.deeds + 1 }) := by
  obtain ⟨l, ws, n, off, de, ar, le, ke⟩ := d
  simp only at hoff ha hd h1
  subst hoff ha
  have hm : mayE ⟨l, ws, n, false, de, false, le, ke⟩ k = 0 := by rw [mayE, if_neg (by simp), if_neg (by simp; omega)]
  rw [writeD, hm, if_neg (by simp), if_neg (by omega)]
  simp [doneD, fallsD, wrap64_in hd]
section
variable {p : Nat} {d : Dsk} {Δ : Chunk}
theorem disk_WriteOk (hd : DiskAt p d Δ) (k : Int) (b : List UInt8) (hks : d.keep.length ≤ 1000000) (hwl : d.waits.length ≤ 900000) (hoff : d.off = false) (ha : d.armed = false) (h0 : 0 ≤ k) (h1 : k < d.n) (hb : b.length = 32) (hdd : inI64 (d.deeds + 1)) :
    Fn Try.prog 15 [ptr p, .int .i64 k, str b] [Δ] (fun v Δs => v = .int .i64 0 ∧ ∃ Δ', Δs = [Δ'] ∧ DiskAt p { d with waits := d.waits ++ [(k, b)], deeds := d.deeds + 1 } Δ') := by
  have h := disk_Write hd k b hks hwl (by omega)
  rwa [write_ok hoff ha h0 h1 hb hdd] at h
theorem disk_ReadOk (hd : DiskAt p d Δ) (k : Int) (hwl : d.waits.length ≤ 1000000) (hoff : d.off = false) (h0 : 0 ≤ k) (h1 : k < d.n) :
    Fn Try.prog 16 [ptr p, .int .i64 k] [Δ] (fun v Δs => v = .tuple #[str (readD d k), .int .i64 0] ∧ Δs = [Δ]) := by
  have h := disk_Read hd k hwl
  have hm : mayE d k = 0 := by rw [mayE, hoff, if_neg (by simp), if_neg (by omega)]
  rwa [hm, if_pos rfl] at h
theorem barrier_ok {d : Dsk} (hoff : d.off = false) (ha : d.armed = false) (hd : inI64 (d.deeds + 1)) : barrierD d = (0, { d with lasts := barM d.lasts d.waits, waits := [], deeds := d.deeds + 1 }) := by
  obtain ⟨l, ws, n, off, de, ar, le, ke⟩ := d
  simp only at hoff ha hd
  subst hoff ha
  simp [barrierD, doneD, fallsD, wrap64_in hd]
theorem disk_BarrierOk (hd : DiskAt p d Δ) (hks : d.keep.length ≤ 1000000) (hwl : d.waits.length ≤ 1000000) (hoff : d.off = false) (ha : d.armed = false) (hdd : inI64 (d.deeds + 1)) :
    Fn Try.prog 56 [ptr p] [Δ] (fun v Δs => v = .int .i64 0 ∧ ∃ Δ', Δs = [Δ'] ∧ DiskAt p { d with lasts := barM d.lasts d.waits, waits := [], deeds := d.deeds + 1 } Δ') := by
  have h := disk_Barrier hd hks hwl
  rwa [barrier_ok hoff ha hdd] at h
end
theorem alive2 : FnV Try.prog 12 [] (.bool true) := by
  refine FnV.mk fun E F w hS => ?_
  have hk0 : keptB [0, 1] 0 = false := by rw [kept_some (by simp)]; simp [and_one]
  have hk1 : keptB [0, 1] 1 = true := by rw [kept_some (by simp)]; simp [and_one]
  refine returns_enter Try.func12 rfl Try.ntmps12 rfl ?_
  refine cw_seq fun K1 hK1 => ?_
  refine cw_region ?_
  refine wl_op rfl rfl (ow_vr (vr_assign (v := .bool false) rfl) ?_)
  refine wl_nil ?_
  refine hK1 _ _ ?_
  refine cw_seq fun K2 hK2 => ?_
  refine cw_region ?_
  refine wl_op rfl rfl (ow_fn (vs := [.int .i64 _]) en_13 rfl hS (disk_New' (n := 4) (by omega) (by omega)) ?_)
  clear hS; rintro _ _ w ⟨p, Δ0, rfl, rfl, hd0⟩ hS; (try simp only [List.cons_append, List.nil_append] at hS)
  refine wl_op rfl rfl (ow_vr (vr_assign (v := .pointer _) rfl) ?_)
  refine wl_nil ?_
  refine hK2 _ _ ?_
  refine cw_seq fun K3 hK3 => ?_
  refine cw_seq fun K4 hK4 => ?_
  refine cw_region ?_
  refine wl_op rfl rfl (ow_vr (vr_move (v := .pointer _) rfl) ?_)
  refine wl_op rfl rfl (ow_vr (vr_eqnil Try.underlying25 rfl) ?_)
  refine wl_op rfl rfl (ow_vr (vr_move (v := .bool _) rfl) ?_)
  refine wl_known 9 rfl (c := false) (rfl) ?_
  refine wl_yes rfl rfl rfl rfl rfl (ow_vr (vr_move (v := .pointer _) rfl) ?_)
  refine wl_yes rfl rfl rfl rfl rfl (ow_fn (vs := [str _]) en_14 rfl hS (law_Full [97] (by simp)) ?_)
  clear hS; rintro _ _ w ⟨rfl, rfl⟩ hS; (try simp only [List.cons_append, List.nil_append] at hS)
  refine wl_yes rfl rfl rfl rfl rfl (ow_fn (vs := [.pointer _, .int .i64 _, str _]) en_15 rfl hS (disk_WriteOk hd0 0 (fullB [97]) (by simp [newD]) (by simp [newD]) rfl rfl (by omega) (by simp [newD]) (fullB_length _) (by simp [newD, inI64])) ?_)
  clear hS; rintro _ _ w ⟨rfl, Δ1, rfl, hd1⟩ hS; (try simp only [List.cons_append, List.nil_append] at hS)
  refine wl_yes rfl rfl rfl rfl rfl (ow_vr (vr_neq rfl rfl) ?_)
  refine wl_op rfl rfl (ow_vr (vr_pick (b := false) (v := .bool _) rfl rfl) ?_)
  refine wl_op rfl rfl (ow_vr (vr_move (v := .bool _) rfl) ?_)
  refine wl_known 15 rfl (c := false) (by decide) ?_
  refine wl_yes rfl rfl rfl rfl rfl (ow_vr (vr_move (v := .pointer _) rfl) ?_)
  refine wl_yes rfl rfl rfl rfl rfl (ow_fn (vs := [str _]) en_14 rfl hS (law_Full [98] (by simp)) ?_)
  clear hS; rintro _ _ w ⟨rfl, rfl⟩ hS; (try simp only [List.cons_append, List.nil_append] at hS)
  refine wl_yes rfl rfl rfl rfl rfl (ow_fn (vs := [.pointer _, .int .i64 _, str _]) en_15 rfl hS (disk_WriteOk hd1 1 (fullB [98]) (by simp [newD]) (by simp [newD]) rfl rfl (by omega) (by simp [newD]) (fullB_length _) (by simp [newD, inI64])) ?_)
  clear hS; rintro _ _ w ⟨rfl, Δ2, rfl, hd2⟩ hS; (try simp only [List.cons_append, List.nil_append] at hS)
  refine wl_yes rfl rfl rfl rfl rfl (ow_vr (vr_neq rfl rfl) ?_)
  refine wl_op rfl rfl (ow_vr (vr_pick (b := false) (v := .bool _) rfl rfl) ?_)
  refine wl_op rfl rfl (ow_vr (vr_move (v := .bool _) rfl) ?_)
  refine wl_known 21 rfl (c := false) (by decide) ?_
  refine wl_yes rfl rfl rfl rfl rfl (ow_vr (vr_move (v := .pointer _) rfl) ?_)
  refine wl_yes rfl rfl rfl rfl rfl (ow_buildSliceD (m := 1) (len := 2) (vs := [.int .i64 _, .int .i64 _]) (cs := [.int .i64 _, .int .i64 _]) hS Try.underlying23 if_3 rfl (by decide) (by decide) rfl rfl (by simp [Value.cells]) rfl ?_)
  clear hS; intro b23 w hS
  replace hS := hS.front1
  refine wl_yes rfl rfl rfl rfl rfl (ow_fnm (vs := [.pointer _, .slice _ _ _]) en_17 rfl hS (disk_CrashM hd2 _ [0, 1] _ (View.lits rfl rfl rfl) (by simp) (by simp [newD])) (by first | exact needs1 (by first | exact List.Mem.head _ | exact List.Mem.tail _ (List.Mem.head _) | exact List.Mem.tail _ (List.Mem.tail _ (List.Mem.head _)) | exact List.Mem.tail _ (List.Mem.tail _ (List.Mem.tail _ (List.Mem.head _))) | exact List.Mem.tail _ (List.Mem.tail _ (List.Mem.tail _ (List.Mem.tail _ (List.Mem.head _)))) | exact List.Mem.tail _ (List.Mem.tail _ (List.Mem.tail _ (List.Mem.tail _ (List.Mem.tail _ (List.Mem.head _))))) | exact List.Mem.tail _ (List.Mem.tail _ (List.Mem.tail _ (List.Mem.tail _ (List.Mem.tail _ (List.Mem.tail _ (List.Mem.head _)))))) | exact List.Mem.tail _ (List.Mem.tail _ (List.Mem.tail _ (List.Mem.tail _ (List.Mem.tail _ (List.Mem.tail _ (List.Mem.tail _ (List.Mem.head _))))))) | exact List.Mem.tail _ (List.Mem.tail _ (List.Mem.tail _ (List.Mem.tail _ (List.Mem.tail _ (List.Mem.tail _ (List.Mem.tail _ (List.Mem.tail _ (List.Mem.head _)))))))) | exact (by assumption) | exact List.Mem.tail _ ((by assumption)) | exact List.Mem.tail _ (List.Mem.tail _ ((by assumption))) | exact List.Mem.tail _ (List.Mem.tail _ (List.Mem.tail _ ((by assumption)))) | exact List.Mem.tail _ (List.Mem.tail _ (List.Mem.tail _ (List.Mem.tail _ ((by assumption))))) | exact List.Mem.tail _ (List.Mem.tail _ (List.Mem.tail _ (List.Mem.tail _ (List.Mem.tail _ ((by assumption))))))) | exact needs0 | exact needs2 (by first | exact List.Mem.head _ | exact List.Mem.tail _ (List.Mem.head _) | exact List.Mem.tail _ (List.Mem.tail _ (List.Mem.head _)) | exact List.Mem.tail _ (List.Mem.tail _ (List.Mem.tail _ (List.Mem.head _))) | exact List.Mem.tail _ (List.Mem.tail _ (List.Mem.tail _ (List.Mem.tail _ (List.Mem.head _)))) | exact List.Mem.tail _ (List.Mem.tail _ (List.Mem.tail _ (List.Mem.tail _ (List.Mem.tail _ (List.Mem.head _))))) | exact List.Mem.tail _ (List.Mem.tail _ (List.Mem.tail _ (List.Mem.tail _ (List.Mem.tail _ (List.Mem.tail _ (List.Mem.head _)))))) | exact List.Mem.tail _ (List.Mem.tail _ (List.Mem.tail _ (List.Mem.tail _ (List.Mem.tail _ (List.Mem.tail _ (List.Mem.tail _ (List.Mem.head _))))))) | exact List.Mem.tail _ (List.Mem.tail _ (List.Mem.tail _ (List.Mem.tail _ (List.Mem.tail _ (List.Mem.tail _ (List.Mem.tail _ (List.Mem.tail _ (List.Mem.head _)))))))) | exact (by assumption) | exact List.Mem.tail _ ((by assumption)) | exact List.Mem.tail _ (List.Mem.tail _ ((by assumption))) | exact List.Mem.tail _ (List.Mem.tail _ (List.Mem.tail _ ((by assumption)))) | exact List.Mem.tail _ (List.Mem.tail _ (List.Mem.tail _ (List.Mem.tail _ ((by assumption))))) | exact List.Mem.tail _ (List.Mem.tail _ (List.Mem.tail _ (List.Mem.tail _ (List.Mem.tail _ ((by assumption))))))) (by first | exact List.Mem.head _ | exact List.Mem.tail _ (List.Mem.head _) | exact List.Mem.tail _ (List.Mem.tail _ (List.Mem.head _)) | exact List.Mem.tail _ (List.Mem.tail _ (List.Mem.tail _ (List.Mem.head _))) | exact List.Mem.tail _ (List.Mem.tail _ (List.Mem.tail _ (List.Mem.tail _ (List.Mem.head _)))) | exact List.Mem.tail _ (List.Mem.tail _ (List.Mem.tail _ (List.Mem.tail _ (List.Mem.tail _ (List.Mem.head _))))) | exact List.Mem.tail _ (List.Mem.tail _ (List.Mem.tail _ (List.Mem.tail _ (List.Mem.tail _ (List.Mem.tail _ (List.Mem.head _)))))) | exact List.Mem.tail _ (List.Mem.tail _ (List.Mem.tail _ (List.Mem.tail _ (List.Mem.tail _ (List.Mem.tail _ (List.Mem.tail _ (List.Mem.head _))))))) | exact List.Mem.tail _ (List.Mem.tail _ (List.Mem.tail _ (List.Mem.tail _ (List.Mem.tail _ (List.Mem.tail _ (List.Mem.tail _ (List.Mem.tail _ (List.Mem.head _)))))))) | exact (by assumption) | exact List.Mem.tail _ ((by assumption)) | exact List.Mem.tail _ (List.Mem.tail _ ((by assumption))) | exact List.Mem.tail _ (List.Mem.tail _ (List.Mem.tail _ ((by assumption)))) | exact List.Mem.tail _ (List.Mem.tail _ (List.Mem.tail _ (List.Mem.tail _ ((by assumption))))) | exact List.Mem.tail _ (List.Mem.tail _ (List.Mem.tail _ (List.Mem.tail _ (List.Mem.tail _ ((by assumption)))))))) ?_)
  clear hS; rintro v24 _ w ⟨rfl, Δ3, rfl, hd3⟩ hS; (try simp only [List.cons_append, List.nil_append] at hS)
  have hcr : (crashD { (newD 4) with waits := [(0, fullB [97]), (1, fullB [98])], deeds := 2 } [0, 1]) = (1, ⟨setM (fun _ => none) 1 (fullB [98]), [], 4, true, 2, false, 0, []⟩) := by simp [crashD, crashL, crashM, hk0, hk1, newD]
  replace hd3 : DiskAt p (crashD { (newD 4) with waits := [(0, fullB [97]), (1, fullB [98])], deeds := 2 } [0, 1]).2 Δ3 := hd3
  rw [hcr] at hd3
  refine wl_yes rfl rfl rfl rfl rfl (ow_vr (vr_neq rfl rfl) ?_)
  refine wl_op rfl rfl (ow_vr (vr_pick (b := false) (v := .bool _) rfl rfl) ?_)
  refine wl_op rfl rfl (ow_vr (vr_move (v := .bool _) rfl) ?_)
  refine wl_known 27 rfl (c := false) (by show decide ((crashD { (newD 4) with waits := [(0, fullB [97]), (1, fullB [98])], deeds := 2 } [0, 1]).1 ≠ 1) = false; rw [hcr]; rfl) ?_
  refine wl_yes rfl rfl rfl rfl rfl (ow_vr (vr_move (v := .pointer _) rfl) ?_)
  refine wl_yes rfl rfl rfl rfl rfl (ow_fn (vs := [.pointer _]) en_20 rfl hS (disk_On hd3) ?_)
  clear hS; rintro _ _ w ⟨rfl, rfl⟩ hS; (try simp only [List.cons_append, List.nil_append] at hS)
  refine wl_op rfl rfl (ow_vr (vr_pick (b := false) (v := .bool _) rfl rfl) ?_)
  refine wl_op rfl rfl (ow_vr (vr_move (v := .bool _) rfl) ?_)
  refine wl_known 31 rfl (c := false) (rfl) ?_
  refine wl_yes rfl rfl rfl rfl rfl (ow_vr (vr_move (v := .pointer _) rfl) ?_)
  refine wl_yes rfl rfl rfl rfl rfl (ow_fn (vs := [.pointer _]) en_18 rfl hS (disk_Power hd3) ?_)
  clear hS; rintro _ _ w ⟨rfl, Δ4, rfl, hd4⟩ hS; (try simp only [List.cons_append, List.nil_append] at hS)
  refine wl_yes rfl rfl rfl rfl rfl (ow_vr (vr_not rfl) ?_)
  refine wl_op rfl rfl (ow_vr (vr_pick (b := false) (v := .bool _) rfl rfl) ?_)
  refine wl_nil ?_
  refine hK4 _ _ ?_
  refine cw_cond_f rfl rfl (rfl) ?_
  refine cw_skip ?_
  refine hK3 _ _ ?_
  refine cw_seq fun K5 hK5 => ?_
  refine cw_region ?_
  refine wl_op rfl rfl (ow_vr (vr_move (v := .pointer _) rfl) ?_)
  refine wl_op rfl rfl (ow_fn (vs := [.pointer _, .int .i64 _]) en_16 rfl hS (disk_ReadOk hd4 0 (by simp) rfl (by omega) (by simp)) ?_)
  clear hS; rintro _ _ w ⟨rfl, rfl⟩ hS; (try simp only [List.cons_append, List.nil_append] at hS)
  refine wl_op rfl rfl (ow_vr (vr_move (v := .tuple _) rfl) ?_)
  refine wl_op rfl rfl (ow_vr (vr_extract (v := str _) rfl rfl) ?_)
  refine wl_op rfl rfl (ow_vr (vr_extract (v := .int .i64 _) rfl rfl) ?_)
  refine wl_op rfl rfl (ow_vr (vr_assign (v := str _) rfl) ?_)
  refine wl_op rfl rfl (ow_vr (vr_assign (v := .int .i64 _) rfl) ?_)
  refine wl_nil ?_
  refine hK5 _ _ ?_
  refine cw_seq fun K6 hK6 => ?_
  refine cw_region ?_
  refine wl_op rfl rfl (ow_vr (vr_move (v := .pointer _) rfl) ?_)
  refine wl_op rfl rfl (ow_fn (vs := [.pointer _, .int .i64 _]) en_16 rfl hS (disk_ReadOk hd4 1 (by simp) rfl (by omega) (by simp)) ?_)
  clear hS; rintro _ _ w ⟨rfl, rfl⟩ hS; (try simp only [List.cons_append, List.nil_append] at hS)
  refine wl_op rfl rfl (ow_vr (vr_move (v := .tuple _) rfl) ?_)
  refine wl_op rfl rfl (ow_vr (vr_extract (v := str _) rfl rfl) ?_)
  refine wl_op rfl rfl (ow_vr (vr_extract (v := .int .i64 _) rfl rfl) ?_)
  refine wl_op rfl rfl (ow_vr (vr_assign (v := str _) rfl) ?_)
  refine wl_op rfl rfl (ow_vr (vr_assign (v := .int .i64 _) rfl) ?_)
  refine wl_nil ?_
  refine hK6 _ _ ?_
  refine cw_seq fun K7 hK7 => ?_
  refine cw_region ?_
  refine wl_op rfl rfl (ow_vr (vr_move (v := .int .i64 _) rfl) ?_)
  refine wl_op rfl rfl (ow_vr (vr_eql rfl rfl) ?_)
  refine wl_op rfl rfl (ow_vr (vr_move (v := .bool _) rfl) ?_)
  refine wl_known 48 rfl (c := true) (by decide) ?_
  refine wl_yes rfl rfl rfl rfl rfl (ow_vr (vr_move (v := .int .i64 _) rfl) ?_)
  refine wl_yes rfl rfl rfl rfl rfl (ow_vr (vr_eql rfl rfl) ?_)
  refine wl_op rfl rfl (ow_vr (vr_pick (b := true) (v := .bool _) rfl rfl) ?_)
  refine wl_op rfl rfl (ow_vr (vr_move (v := .bool _) rfl) ?_)
  refine wl_known 52 rfl (c := true) (by decide) ?_
  refine wl_yes rfl rfl rfl rfl rfl (ow_vr (vr_move (v := str _) rfl) ?_)
  refine wl_yes rfl rfl rfl rfl rfl (ow_fn (vs := [str _]) en_14 rfl hS (law_Full [] (by simp)) ?_)
  clear hS; rintro _ _ w ⟨rfl, rfl⟩ hS; (try simp only [List.cons_append, List.nil_append] at hS)
  refine wl_yes rfl rfl rfl rfl rfl (ow_vr (vr_eql_s rfl rfl) ?_)
  refine wl_op rfl rfl (ow_vr (vr_pick (b := true) (v := .bool _) rfl rfl) ?_)
  refine wl_op rfl rfl (ow_vr (vr_move (v := .bool _) rfl) ?_)
  refine wl_known 57 rfl (c := true) (by simp [readD, lastW, setM, fullB, zeros32]) ?_
  refine wl_yes rfl rfl rfl rfl rfl (ow_vr (vr_move (v := str _) rfl) ?_)
  refine wl_yes rfl rfl rfl rfl rfl (ow_fn (vs := [str _]) en_14 rfl hS (law_Full [98] (by simp)) ?_)
  clear hS; rintro _ _ w ⟨rfl, rfl⟩ hS; (try simp only [List.cons_append, List.nil_append] at hS)
  refine wl_yes rfl rfl rfl rfl rfl (ow_vr (vr_eql_s rfl rfl) ?_)
  refine wl_op rfl rfl (ow_vr (vr_pick (b := true) (v := .bool _) rfl rfl) ?_)
  refine wl_op rfl rfl (ow_vr (vr_move (v := .bool _) rfl) ?_)
  refine wl_known 62 rfl (c := true) (by simp [readD, lastW, setM]) ?_
  refine wl_yes rfl rfl rfl rfl rfl (ow_vr (vr_move (v := .pointer _) rfl) ?_)
  refine wl_yes rfl rfl rfl rfl rfl (ow_fn (vs := [.pointer _]) en_21 rfl hS (disk_Deeds hd4) ?_)
  clear hS; rintro _ _ w ⟨rfl, rfl⟩ hS; (try simp only [List.cons_append, List.nil_append] at hS)
  refine wl_yes rfl rfl rfl rfl rfl (ow_vr (vr_eql rfl rfl) ?_)
  refine wl_op rfl rfl (ow_vr (vr_pick (b := true) (v := .bool _) rfl rfl) ?_)
  refine wl_op rfl rfl (ow_vr (vr_move (v := .bool _) rfl) ?_)
  refine wl_known 67 rfl (c := true) (by decide) ?_
  refine wl_yes rfl rfl rfl rfl rfl (ow_vr (vr_move (v := .pointer _) rfl) ?_)
  refine wl_yes rfl rfl rfl rfl rfl (ow_fn (vs := [.pointer _]) en_59 rfl hS (disk_Len hd4) ?_)
  clear hS; rintro _ _ w ⟨rfl, rfl⟩ hS; (try simp only [List.cons_append, List.nil_append] at hS)
  refine wl_yes rfl rfl rfl rfl rfl (ow_vr (vr_eql rfl rfl) ?_)
  refine wl_op rfl rfl (ow_vr (vr_pick (b := true) (v := .bool _) rfl rfl) ?_)
  refine wl_op rfl rfl (ow_vr (vr_assign (v := .bool _) rfl) ?_)
  refine wl_nil ?_
  refine hK7 _ _ ?_
  refine cw_ret ?_
  refine ret_one (fn := Try.f12) (n := 72) (t := 0) (.inl rfl) rfl rfl ?_
  exact ⟨rfl, hS.tail1.tail1⟩
end Go.Proofs.Ytjhbmogpicddeaa
