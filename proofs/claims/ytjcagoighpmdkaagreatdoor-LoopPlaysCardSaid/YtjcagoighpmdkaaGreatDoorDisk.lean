/- What package sector's disk is, and what its methods do. -/
import Derived.Test.YtjcagoighpmdkaaGreatDoorClone
import Derived.Test.YtjcagoighpmdkaaGreatDoorMap
import Derived.Test.YtjcagoighpmdkaaGreatDoorRepeat
import Derived.Test.YtjcagoighpmdkaaGreatDoorExt
namespace Go.Proofs.YtjcagoighpmdkaaGreatDoor
open Go Go.RowKit
set_option linter.unusedVariables false
set_option linter.unusedSimpArgs false
attribute [local irreducible] actF WL CW OW PL SW VR LR yes Returns Fn
abbrev Wr := Int × List UInt8
def encW (x : Wr) : List Value := [.int .i64 x.1, str x.2]
structure Dsk where
  lasts : Int → Option (List UInt8)
  waits : List Wr
  n : Int
  off : Bool
  deeds : Int
  armed : Bool
  left : Int
  keep : List Int
abbrev dskC (d : Dsk) (r : Nat) (vw vk : Value) : List Value := [.map (some r), vw, .int .i64 d.n, .bool d.off, .int .i64 d.deeds, .bool d.armed, .int .i64 d.left, vk]
def DiskAt (p : Nat) (d : Dsk) (Δ : Chunk) : Prop := ∃ r vw vk Dm Dw Dk, Δ = [[(p, .cells (dskC d r vw vk).toArray 59 (0, 0))], Dm, Dw, Dk].flatten ∧ MapAt str r d.lasts Dm ∧ Own 81 2 encW vw d.waits Dw ∧ Own 3 1 encI vk d.keep Dk
theorem DiskAt.mk {p r : Nat} {d : Dsk} {vw vk : Value} {Dm Dw Dk : Chunk} (hm : MapAt str r d.lasts Dm) (hw : Own 81 2 encW vw d.waits Dw) (hk : Own 3 1 encI vk d.keep Dk) :
    DiskAt p d [[(p, .cells (dskC d r vw vk).toArray 59 (0, 0))], Dm, Dw, Dk].flatten := ⟨r, vw, vk, Dm, Dw, Dk, rfl, hm, hw, hk⟩
/-! plain -/
def mayE (d : Dsk) (k : Int) : Int := if d.off then 3 else if k < 0 ∨ d.n ≤ k then 1 else 0
def wrap64I (x : Int) : Int := IntKind.i64.wrap x
/-- Does the power go? -/
def fallsD (d : Dsk) : Bool × Dsk := if d.armed then (decide (wrap64I (d.left - 1) < 0), { d with left := wrap64I (d.left - 1) }) else (false, d)
def keptB (ks : List Int) (i : Nat) : Bool := match ks[i]? with | some x => decide (andI x 1 = 1) | none => false
theorem kept_some {ks : List Int} {k : Nat} (h : k < ks.length) : keptB ks k = decide (andI ks[k] 1 = 1) := by simp [keptB, h]
theorem kept_none {ks : List Int} {k : Nat} (h : ks.length ≤ k) : keptB ks k = false := by simp [keptB, h]
def crashM (ks : List Int) : Nat → (Int → Option (List UInt8)) → List Wr → (Int → Option (List UInt8))
  | _, m, [] => m
  | i, m, w :: ws => crashM ks (i + 1) (if keptB ks i then setM m w.1 w.2 else m) ws
def crashL (ks : List Int) : Nat → List Wr → Int
  | _, [] => 0
  | i, w :: ws => crashL ks (i + 1) ws + (if keptB ks i then 0 else 1)
def crashD (d : Dsk) (ks : List Int) : Int × Dsk := (crashL ks 0 d.waits, ⟨crashM ks 0 d.lasts d.waits, [], d.n, true, d.deeds, false, 0, []⟩)
def doneD (d : Dsk) : Int × Dsk :=
  if (fallsD d).1 then (3, (crashD (fallsD d).2 (fallsD d).2.keep).2) else (0, { (fallsD d).2 with deeds := wrap64I ((fallsD d).2.deeds + 1) })
def writeD (d : Dsk) (k : Int) (b : List UInt8) : Int × Dsk :=
  if mayE d k ≠ 0 then (mayE d k, d) else if b.length ≠ 32 then (1, d) else doneD { d with waits := d.waits ++ [(k, b)] }
def lastW : List Wr → Int → Option (List UInt8)
  | [], _ => none
  | w :: ws, k => match lastW ws k with | some b => some b | none => if w.1 = k then some w.2 else none
theorem lastW_snoc (x : Wr) (k : Int) : ∀ ws : List Wr, lastW (ws ++ [x]) k = if x.1 = k then some x.2 else lastW ws k
  | [] => by simp only [List.nil_append, lastW]
  | w :: ws => by
    rw [List.cons_append, lastW, lastW_snoc x k ws, lastW]
    by_cases h : x.1 = k
    · rw [if_pos h, if_pos h]
    · rw [if_neg h, if_neg h]
def zeros32 : List UInt8 := List.replicate 32 0
def readD (d : Dsk) (k : Int) : List UInt8 := (lastW d.waits k).getD ((d.lasts k).getD zeros32)
def barM : (Int → Option (List UInt8)) → List Wr → (Int → Option (List UInt8))
  | m, [] => m
  | m, w :: ws => barM (setM m w.1 w.2) ws
def barrierD (d : Dsk) : Int × Dsk :=
  if d.off then (3, d) else if (doneD d).1 = 0 then (0, { (doneD d).2 with lasts := barM (doneD d).2.lasts (doneD d).2.waits, waits := [] }) else doneD d
/-! walks -/
section
variable {p : Nat} {d : Dsk} {Δ : Chunk}
theorem disk_New (n : Int) : Fn Tryz.prog 5 [.int .i64 n] [] (fun v Δs => ∃ p Δ, v = ptr p ∧ Δs = [Δ] ∧ DiskAt p ⟨fun _ => none, [], if 3000 < (if n < 0 then 0 else n) then 3000 else (if n < 0 then 0 else n), false, 0, false, 0, []⟩ Δ) := by
  refine Fn.mk fun E F w hS => ?_
  simp only [List.nil_append] at hS
  refine returns_enter Tryz.func5 rfl Tryz.ntmps5 rfl ?_
  refine cw_seq fun K1 hK1 => ?_
  refine cw_region ?_
  refine wl_op rfl rfl (ow_vr (vr_assign (v := .pointer none) rfl) ?_)
  refine wl_nil ?_
  refine hK1 _ _ ?_
  refine cw_seq fun K2 hK2 => ?_
  refine cw_region ?_
  refine wl_op rfl rfl (ow_makeMap (val := str) hS ?_)
  clear hS; intro b3 D3 w hm3 hS
  refine wl_op rfl rfl (ow_vr (vr_move (v := .int .i64 _) rfl) ?_)
  refine wl_op rfl rfl (ow_vr (vr_max2 rfl rfl) ?_)
  refine wl_op rfl rfl (ow_vr (vr_min2 rfl rfl) ?_)
  refine wl_op rfl rfl (ow_vr (vr_build (vs := [(0, .map _), (2, .int .i64 _)]) (cs := [.map _, .slice _ _ _, .int .i64 _, .bool _, .int .i64 _, .bool _, .int .i64 _, .slice _ _ _]) zr_59 pl_59 rfl rfl) ?_)
  refine wl_op rfl rfl (ow_box (cs := [_, _, _, _, _, _, _, _]) hS rfl rfl ?_)
  clear hS; intro b8 w hS
  refine wl_op rfl rfl (ow_vr (vr_assign (v := .pointer _) rfl) ?_)
  refine wl_nil ?_
  refine hK2 _ _ ?_
  refine cw_ret ?_
  refine ret_one (fn := Tryz.f5) (n := 9) (t := 2) (.inl rfl) rfl rfl ?_
  exact ⟨[_], ⟨b8, _, rfl, rfl, DiskAt.mk hm3 Own.nil Own.nil⟩, Sat.opn4.2 (hS.perm (by simp))⟩
theorem disk_may (hd : DiskAt p d Δ) (k : Int) : Fn Tryz.prog 65 [ptr p, .int .i64 k] [Δ] (fun v Δs => v = .int .i64 (mayE d k) ∧ Δs = [Δ]) := by
  refine Fn.mk fun E F w hS => ?_
  obtain ⟨r, vw, vk, Dm, Dw, Dk, rfl, hm, hw, hk⟩ := hd
  replace hS := Sat.opn4.1 hS
  refine returns_enter Tryz.func65 rfl Tryz.ntmps65 rfl ?_
  refine cw_seq fun K1 hK1 => ?_
  refine cw_region ?_
  refine wl_op rfl rfl (ow_vr (vr_assign (v := .int .i64 0) rfl) ?_)
  refine wl_nil ?_
  refine hK1 _ _ ?_
  refine cw_seq fun K2 hK2 => ?_
  refine cw_block ?_
  refine cw_seq fun K3 hK3 => ?_
  refine cw_region ?_
  refine wl_op rfl rfl (ow_vr (vr_move (v := .pointer _) rfl) ?_)
  refine wl_op rfl rfl (ow_vr (vr_eqnil Tryz.underlying24 rfl) ?_)
  refine wl_op rfl rfl (ow_vr (vr_assign (v := .bool _) rfl) ?_)
  refine wl_nil ?_
  refine hK3 _ _ ?_
  refine cw_cond_f rfl rfl (rfl) ?_
  refine cw_seq fun K4 hK4 => ?_
  refine cw_region ?_
  refine wl_op rfl rfl (ow_vr (vr_move (v := .pointer _) rfl) ?_)
  refine wl_op rfl rfl (ow_vr (vr_nilCheck rfl) ?_)
  first | (refine wl_op rfl rfl (ow_vr (vr_fieldAddr fo_59_3 rfl) ?_)) | (refine wl_op rfl rfl (ow_vr (vr_fieldAddrV fo_59_3 rfl (by first | assumption | (refine Own.view ?_ (by assumption); exact fun _ => rfl) | exact OwnB.view (by assumption)) (by first | omega | (simp <;> omega))) ?_))
  refine wl_op rfl rfl (ow_lr (S := Sat _ _) (lr_load1 Tryz.underlying4 rfl rfl (by first | exact Has.here | exact Has.there (Has.here) | exact Has.there (Has.there (Has.here)) | exact Has.there (Has.there (Has.there (Has.here))) | exact Has.there (Has.there (Has.there (Has.there (Has.here)))) | exact Has.there (Has.there (Has.there (Has.there (Has.there (Has.here))))) | exact Has.there (Has.there (Has.there (Has.there (Has.there (Has.there (Has.here)))))) | exact Has.there (Has.there (Has.there (Has.there (Has.there (Has.there (Has.there (Has.here)))))))) rfl) hS ?_)
  refine wl_op rfl rfl (ow_vr (vr_assign (v := .bool _) rfl) ?_)
  refine wl_nil ?_
  refine hK4 _ _ ?_
  refine cw_cond rfl rfl (fun hc => ?_) (fun hc => ?_)
  · (try simp only [decide_eq_true_eq, decide_eq_false_iff_not, Bool.not_eq_true, Bool.not_eq_false, Bool.not_eq_true', Bool.not_eq_false', Bool.and_eq_true, Bool.or_eq_true, Bool.and_eq_false_iff, Bool.or_eq_false_iff, Int.not_lt, Int.not_le, gt_iff_lt, ge_iff_le, ne_eq, Decidable.not_not, beq_iff_eq] at hc)
    have hoff := hc; clear hc
    refine cw_seq fun K5 hK5 => ?_
    have he : mayE d k = 3 := by rw [mayE, if_pos hoff]
    refine cw_region ?_
    refine wl_op rfl rfl (ow_vr (vr_assign (v := .int .i64 3) rfl) ?_)
    refine wl_nil ?_
    refine hK5 _ _ ?_
    refine cw_ret ?_
    refine inB_ret (thenF_ret (?_))
    refine ret_one (fn := Tryz.f65) (n := 24) (t := 4) (.inl rfl) rfl rfl ?_
    exact ⟨[_], ⟨congrArg (Value.int .i64) he.symm, rfl⟩, Sat.opn4.2 hS⟩
  · (try simp only [decide_eq_true_eq, decide_eq_false_iff_not, Bool.not_eq_true, Bool.not_eq_false, Bool.not_eq_true', Bool.not_eq_false', Bool.and_eq_true, Bool.or_eq_true, Bool.and_eq_false_iff, Bool.or_eq_false_iff, Int.not_lt, Int.not_le, gt_iff_lt, ge_iff_le, ne_eq, Decidable.not_not, beq_iff_eq] at hc)
    have hoff := hc; clear hc
    refine cw_seq fun K6 hK6 => ?_
    refine cw_region ?_
    refine wl_op rfl rfl (ow_vr (vr_move (v := .int .i64 _) rfl) ?_)
    refine wl_op rfl rfl (ow_vr (vr_lss rfl rfl) ?_)
    refine wl_op rfl rfl (ow_vr (vr_move (v := .bool _) rfl) ?_)
    refine wl_split 16 rfl (fun hc => ?_) (fun hc => ?_)
    · (try simp only [decide_eq_true_eq, decide_eq_false_iff_not, Bool.not_eq_true, Bool.not_eq_false, Bool.not_eq_true', Bool.not_eq_false', Bool.and_eq_true, Bool.or_eq_true, Bool.and_eq_false_iff, Bool.or_eq_false_iff, Int.not_lt, Int.not_le, gt_iff_lt, ge_iff_le, ne_eq, Decidable.not_not, beq_iff_eq] at hc)
      have hg16 := hc; clear hc
      refine wl_noD rfl rfl rfl rfl rfl rfl ?_
      refine wl_noD rfl rfl rfl rfl rfl rfl ?_
      refine wl_noD rfl rfl rfl rfl rfl rfl ?_
      refine wl_noD rfl rfl rfl rfl rfl rfl ?_
      refine wl_noD rfl rfl rfl rfl rfl rfl ?_
      refine wl_noD rfl rfl rfl rfl rfl rfl ?_
      refine wl_op rfl rfl (ow_vr (vr_pick (b := true) (v := .bool _) rfl rfl) ?_)
      refine wl_op rfl rfl (ow_vr (vr_assign (v := .bool _) rfl) ?_)
      refine wl_nil ?_
      refine hK6 _ _ ?_
      refine cw_cond_t rfl rfl (rfl) ?_
      refine cw_seq fun K7 hK7 => ?_
      have he : mayE d k = 1 := by rw [mayE, if_neg (by simp [hoff]), if_pos (by omega)]
      refine cw_region ?_
      refine wl_op rfl rfl (ow_vr (vr_assign (v := .int .i64 1) rfl) ?_)
      refine wl_nil ?_
      refine hK7 _ _ ?_
      refine cw_ret ?_
      refine inB_ret (thenF_ret (?_))
      refine ret_one (fn := Tryz.f65) (n := 24) (t := 4) (.inl rfl) rfl rfl ?_
      exact ⟨[_], ⟨congrArg (Value.int .i64) he.symm, rfl⟩, Sat.opn4.2 hS⟩
    · (try simp only [decide_eq_true_eq, decide_eq_false_iff_not, Bool.not_eq_true, Bool.not_eq_false, Bool.not_eq_true', Bool.not_eq_false', Bool.and_eq_true, Bool.or_eq_true, Bool.and_eq_false_iff, Bool.or_eq_false_iff, Int.not_lt, Int.not_le, gt_iff_lt, ge_iff_le, ne_eq, Decidable.not_not, beq_iff_eq] at hc)
      have hg16 := hc; clear hc
      refine wl_yes rfl rfl rfl rfl rfl (ow_vr (vr_move (v := .int .i64 _) rfl) ?_)
      refine wl_yes rfl rfl rfl rfl rfl (ow_vr (vr_move (v := .pointer _) rfl) ?_)
      refine wl_yes rfl rfl rfl rfl rfl (ow_vr (vr_nilCheck rfl) ?_)
      first | (refine wl_yes rfl rfl rfl rfl rfl (ow_vr (vr_fieldAddr fo_59_2 rfl) ?_)) | (refine wl_yes rfl rfl rfl rfl rfl (ow_vr (vr_fieldAddrV fo_59_2 rfl (by first | assumption | (refine Own.view ?_ (by assumption); exact fun _ => rfl) | exact OwnB.view (by assumption)) (by first | omega | (simp <;> omega))) ?_))
      refine wl_yes rfl rfl rfl rfl rfl (ow_lr (S := Sat _ _) (lr_load1 Tryz.underlying3 rfl rfl (by first | exact Has.here | exact Has.there (Has.here) | exact Has.there (Has.there (Has.here)) | exact Has.there (Has.there (Has.there (Has.here))) | exact Has.there (Has.there (Has.there (Has.there (Has.here)))) | exact Has.there (Has.there (Has.there (Has.there (Has.there (Has.here))))) | exact Has.there (Has.there (Has.there (Has.there (Has.there (Has.there (Has.here)))))) | exact Has.there (Has.there (Has.there (Has.there (Has.there (Has.there (Has.there (Has.here)))))))) rfl) hS ?_)
      refine wl_yes rfl rfl rfl rfl rfl (ow_vr (vr_geq rfl rfl) ?_)
      refine wl_op rfl rfl (ow_vr (vr_pick (b := false) (v := .bool _) rfl rfl) ?_)
      refine wl_op rfl rfl (ow_vr (vr_assign (v := .bool _) rfl) ?_)
      refine wl_nil ?_
      refine hK6 _ _ ?_
      refine cw_cond rfl rfl (fun hc => ?_) (fun hc => ?_)
      · (try simp only [decide_eq_true_eq, decide_eq_false_iff_not, Bool.not_eq_true, Bool.not_eq_false, Bool.not_eq_true', Bool.not_eq_false', Bool.and_eq_true, Bool.or_eq_true, Bool.and_eq_false_iff, Bool.or_eq_false_iff, Int.not_lt, Int.not_le, gt_iff_lt, ge_iff_le, ne_eq, Decidable.not_not, beq_iff_eq] at hc)
        have hc2 := hc; clear hc
        refine cw_seq fun K8 hK8 => ?_
        have he : mayE d k = 1 := by rw [mayE, if_neg (by simp [hoff]), if_pos (by omega)]
        refine cw_region ?_
        refine wl_op rfl rfl (ow_vr (vr_assign (v := .int .i64 1) rfl) ?_)
        refine wl_nil ?_
        refine hK8 _ _ ?_
        refine cw_ret ?_
        refine inB_ret (thenF_ret (?_))
        refine ret_one (fn := Tryz.f65) (n := 24) (t := 4) (.inl rfl) rfl rfl ?_
        exact ⟨[_], ⟨congrArg (Value.int .i64) he.symm, rfl⟩, Sat.opn4.2 hS⟩
      · (try simp only [decide_eq_true_eq, decide_eq_false_iff_not, Bool.not_eq_true, Bool.not_eq_false, Bool.not_eq_true', Bool.not_eq_false', Bool.and_eq_true, Bool.or_eq_true, Bool.and_eq_false_iff, Bool.or_eq_false_iff, Int.not_lt, Int.not_le, gt_iff_lt, ge_iff_le, ne_eq, Decidable.not_not, beq_iff_eq] at hc)
        have hc2 := hc; clear hc
        refine cw_skip ?_
        refine hK2 _ _ ?_
        refine cw_seq fun K9 hK9 => ?_
        have he : mayE d k = 0 := by rw [mayE, if_neg (by simp [hoff]), if_neg (by omega)]
        refine cw_region ?_
        refine wl_op rfl rfl (ow_vr (vr_assign (v := .int .i64 0) rfl) ?_)
        refine wl_nil ?_
        refine hK9 _ _ ?_
        refine cw_ret ?_
        refine ret_one (fn := Tryz.f65) (n := 24) (t := 4) (.inl rfl) rfl rfl ?_
        exact ⟨[_], ⟨congrArg (Value.int .i64) he.symm, rfl⟩, Sat.opn4.2 hS⟩
theorem disk_falls (hd : DiskAt p d Δ) : Fn Tryz.prog 96 [ptr p] [Δ] (fun v Δs => v = .bool (fallsD d).1 ∧ ∃ Δ', Δs = [Δ'] ∧ DiskAt p (fallsD d).2 Δ') := by
  refine Fn.mk fun E F w hS => ?_
  obtain ⟨r, vw, vk, Dm, Dw, Dk, rfl, hm, hw, hk⟩ := hd
  replace hS := Sat.opn4.1 hS
  refine returns_enter Tryz.func96 rfl Tryz.ntmps96 rfl ?_
  refine cw_seq fun K1 hK1 => ?_
  refine cw_region ?_
  refine wl_op rfl rfl (ow_vr (vr_assign (v := .bool false) rfl) ?_)
  refine wl_nil ?_
  refine hK1 _ _ ?_
  refine cw_seq fun K2 hK2 => ?_
  refine cw_seq fun K3 hK3 => ?_
  refine cw_region ?_
  refine wl_op rfl rfl (ow_vr (vr_move (v := .pointer _) rfl) ?_)
  refine wl_op rfl rfl (ow_vr (vr_nilCheck rfl) ?_)
  first | (refine wl_op rfl rfl (ow_vr (vr_fieldAddr fo_59_5 rfl) ?_)) | (refine wl_op rfl rfl (ow_vr (vr_fieldAddrV fo_59_5 rfl (by first | assumption | (refine Own.view ?_ (by assumption); exact fun _ => rfl) | exact OwnB.view (by assumption)) (by first | omega | (simp <;> omega))) ?_))
  refine wl_op rfl rfl (ow_lr (S := Sat _ _) (lr_load1 Tryz.underlying4 rfl rfl (by first | exact Has.here | exact Has.there (Has.here) | exact Has.there (Has.there (Has.here)) | exact Has.there (Has.there (Has.there (Has.here))) | exact Has.there (Has.there (Has.there (Has.there (Has.here)))) | exact Has.there (Has.there (Has.there (Has.there (Has.there (Has.here))))) | exact Has.there (Has.there (Has.there (Has.there (Has.there (Has.there (Has.here)))))) | exact Has.there (Has.there (Has.there (Has.there (Has.there (Has.there (Has.there (Has.here)))))))) rfl) hS ?_)
  refine wl_op rfl rfl (ow_vr (vr_not rfl) ?_)
  refine wl_nil ?_
  refine hK3 _ _ ?_
  refine cw_cond rfl rfl (fun hc => ?_) (fun hc => ?_)
  · (try simp only [decide_eq_true_eq, decide_eq_false_iff_not, Bool.not_eq_true, Bool.not_eq_false, Bool.not_eq_true', Bool.not_eq_false', Bool.and_eq_true, Bool.or_eq_true, Bool.and_eq_false_iff, Bool.or_eq_false_iff, Int.not_lt, Int.not_le, gt_iff_lt, ge_iff_le, ne_eq, Decidable.not_not, beq_iff_eq] at hc)
    have ha := hc; clear hc
    refine cw_seq fun K4 hK4 => ?_
    have he : fallsD d = (false, d) := by rw [fallsD, if_neg (by simpa using ha)]
    refine cw_region ?_
    refine wl_op rfl rfl (ow_vr (vr_assign (v := .bool false) rfl) ?_)
    refine wl_nil ?_
    refine hK4 _ _ ?_
    refine cw_ret ?_
    refine thenF_ret (?_)
    refine ret_one (fn := Tryz.f96) (n := 20) (t := 2) (.inl rfl) rfl rfl ?_
    exact ⟨[_], ⟨by rw [he] <;> rfl, _, rfl, by rw [he]; exact DiskAt.mk hm hw hk⟩, Sat.opn4.2 hS⟩
  · (try simp only [decide_eq_true_eq, decide_eq_false_iff_not, Bool.not_eq_true, Bool.not_eq_false, Bool.not_eq_true', Bool.not_eq_false', Bool.and_eq_true, Bool.or_eq_true, Bool.and_eq_false_iff, Bool.or_eq_false_iff, Int.not_lt, Int.not_le, gt_iff_lt, ge_iff_le, ne_eq, Decidable.not_not, beq_iff_eq] at hc)
    have ha := hc; clear hc
    refine cw_skip ?_
    refine hK2 _ _ ?_
    refine cw_seq fun K5 hK5 => ?_
    have he : fallsD d = (decide (wrap64I (d.left - 1) < 0), { d with left := wrap64I (d.left - 1) }) := by rw [fallsD, if_pos (by simpa using ha)]
    refine cw_region ?_
    refine wl_op rfl rfl (ow_vr (vr_move (v := .pointer _) rfl) ?_)
    refine wl_op rfl rfl (ow_vr (vr_nilCheck rfl) ?_)
    first | (refine wl_op rfl rfl (ow_vr (vr_fieldAddr fo_59_6 rfl) ?_)) | (refine wl_op rfl rfl (ow_vr (vr_fieldAddrV fo_59_6 rfl (by first | assumption | (refine Own.view ?_ (by assumption); exact fun _ => rfl) | exact OwnB.view (by assumption)) (by first | omega | (simp <;> omega))) ?_))
    refine wl_op rfl rfl (ow_lr (S := Sat _ _) (lr_load1 Tryz.underlying3 rfl rfl (by first | exact Has.here | exact Has.there (Has.here) | exact Has.there (Has.there (Has.here)) | exact Has.there (Has.there (Has.there (Has.here))) | exact Has.there (Has.there (Has.there (Has.there (Has.here)))) | exact Has.there (Has.there (Has.there (Has.there (Has.there (Has.here))))) | exact Has.there (Has.there (Has.there (Has.there (Has.there (Has.there (Has.here)))))) | exact Has.there (Has.there (Has.there (Has.there (Has.there (Has.there (Has.there (Has.here)))))))) rfl) hS ?_)
    refine wl_op rfl rfl (ow_vr (vr_sub rfl rfl) ?_)
    refine wl_op rfl rfl (ow_vr (vr_nilCheck rfl) ?_)
    first | (refine wl_op rfl rfl (ow_vr (vr_fieldAddr fo_59_6 rfl) ?_)) | (refine wl_op rfl rfl (ow_vr (vr_fieldAddrV fo_59_6 rfl (by first | assumption | (refine Own.view ?_ (by assumption); exact fun _ => rfl) | exact OwnB.view (by assumption)) (by first | omega | (simp <;> omega))) ?_))
    refine wl_op rfl rfl (ow_store1 (v := .int .i64 _) hS sz_3 rfl rfl (by first | rfl | exact Own.isOne (by assumption)) (by first | exact Has.here | exact Has.there (Has.here) | exact Has.there (Has.there (Has.here)) | exact Has.there (Has.there (Has.there (Has.here))) | exact Has.there (Has.there (Has.there (Has.there (Has.here)))) | exact Has.there (Has.there (Has.there (Has.there (Has.there (Has.here))))) | exact Has.there (Has.there (Has.there (Has.there (Has.there (Has.there (Has.here)))))) | exact Has.there (Has.there (Has.there (Has.there (Has.there (Has.there (Has.there (Has.here)))))))) (by simp) ?_)
    clear hS; intro w hS; try simp only [List.set_cons_zero, List.set_cons_succ] at hS
    refine wl_nil ?_
    refine hK5 _ _ ?_
    refine cw_seq fun K6 hK6 => ?_
    refine cw_region ?_
    refine wl_op rfl rfl (ow_vr (vr_move (v := .pointer _) rfl) ?_)
    refine wl_op rfl rfl (ow_vr (vr_nilCheck rfl) ?_)
    first | (refine wl_op rfl rfl (ow_vr (vr_fieldAddr fo_59_6 rfl) ?_)) | (refine wl_op rfl rfl (ow_vr (vr_fieldAddrV fo_59_6 rfl (by first | assumption | (refine Own.view ?_ (by assumption); exact fun _ => rfl) | exact OwnB.view (by assumption)) (by first | omega | (simp <;> omega))) ?_))
    refine wl_op rfl rfl (ow_lr (S := Sat _ _) (lr_load1 Tryz.underlying3 rfl rfl (by first | exact Has.here | exact Has.there (Has.here) | exact Has.there (Has.there (Has.here)) | exact Has.there (Has.there (Has.there (Has.here))) | exact Has.there (Has.there (Has.there (Has.there (Has.here)))) | exact Has.there (Has.there (Has.there (Has.there (Has.there (Has.here))))) | exact Has.there (Has.there (Has.there (Has.there (Has.there (Has.there (Has.here)))))) | exact Has.there (Has.there (Has.there (Has.there (Has.there (Has.there (Has.there (Has.here)))))))) rfl) hS ?_)
    refine wl_op rfl rfl (ow_vr (vr_lss rfl rfl) ?_)
    refine wl_op rfl rfl (ow_vr (vr_assign (v := .bool _) rfl) ?_)
    refine wl_nil ?_
    refine hK6 _ _ ?_
    refine cw_ret ?_
    refine ret_one (fn := Tryz.f96) (n := 20) (t := 2) (.inl rfl) rfl rfl ?_
    exact ⟨[_], ⟨by rw [he] <;> rfl, _, rfl, by rw [he]; exact DiskAt.mk (d := { d with left := wrap64I (d.left - 1) }) hm hw hk⟩, Sat.opn4.2 hS⟩
theorem disk_On (hd : DiskAt p d Δ) : Fn Tryz.prog 10 [ptr p] [Δ] (fun v Δs => v = .bool (!d.off) ∧ Δs = [Δ]) := by
  refine Fn.mk fun E F w hS => ?_
  obtain ⟨r, vw, vk, Dm, Dw, Dk, rfl, hm, hw, hk⟩ := hd
  replace hS := Sat.opn4.1 hS
  refine returns_enter Tryz.func10 rfl Tryz.ntmps10 rfl ?_
  refine cw_seq fun K1 hK1 => ?_
  refine cw_region ?_
  refine wl_op rfl rfl (ow_vr (vr_assign (v := .bool false) rfl) ?_)
  refine wl_nil ?_
  refine hK1 _ _ ?_
  refine cw_seq fun K2 hK2 => ?_
  refine cw_region ?_
  refine wl_op rfl rfl (ow_vr (vr_move (v := .pointer _) rfl) ?_)
  refine wl_op rfl rfl (ow_vr (vr_nenil Tryz.underlying24 rfl) ?_)
  refine wl_op rfl rfl (ow_vr (vr_move (v := .bool _) rfl) ?_)
  refine wl_known 5 rfl (c := true) (rfl) ?_
  refine wl_yes rfl rfl rfl rfl rfl (ow_vr (vr_move (v := .pointer _) rfl) ?_)
  refine wl_yes rfl rfl rfl rfl rfl (ow_vr (vr_nilCheck rfl) ?_)
  first | (refine wl_yes rfl rfl rfl rfl rfl (ow_vr (vr_fieldAddr fo_59_3 rfl) ?_)) | (refine wl_yes rfl rfl rfl rfl rfl (ow_vr (vr_fieldAddrV fo_59_3 rfl (by first | assumption | (refine Own.view ?_ (by assumption); exact fun _ => rfl) | exact OwnB.view (by assumption)) (by first | omega | (simp <;> omega))) ?_))
  refine wl_yes rfl rfl rfl rfl rfl (ow_lr (S := Sat _ _) (lr_load1 Tryz.underlying4 rfl rfl (by first | exact Has.here | exact Has.there (Has.here) | exact Has.there (Has.there (Has.here)) | exact Has.there (Has.there (Has.there (Has.here))) | exact Has.there (Has.there (Has.there (Has.there (Has.here)))) | exact Has.there (Has.there (Has.there (Has.there (Has.there (Has.here))))) | exact Has.there (Has.there (Has.there (Has.there (Has.there (Has.there (Has.here)))))) | exact Has.there (Has.there (Has.there (Has.there (Has.there (Has.there (Has.there (Has.here)))))))) rfl) hS ?_)
  refine wl_yes rfl rfl rfl rfl rfl (ow_vr (vr_not rfl) ?_)
  refine wl_op rfl rfl (ow_vr (vr_pick (b := true) (v := .bool _) rfl rfl) ?_)
  refine wl_op rfl rfl (ow_vr (vr_assign (v := .bool _) rfl) ?_)
  refine wl_nil ?_
  refine hK2 _ _ ?_
  refine cw_ret ?_
  refine ret_one (fn := Tryz.f10) (n := 12) (t := 2) (.inl rfl) rfl rfl ?_
  exact ⟨[_], ⟨rfl, rfl⟩, Sat.opn4.2 hS⟩
theorem disk_Len (hd : DiskAt p d Δ) : Fn Tryz.prog 57 [ptr p] [Δ] (fun v Δs => v = .int .i64 d.n ∧ Δs = [Δ]) := by
  refine Fn.mk fun E F w hS => ?_
  obtain ⟨r, vw, vk, Dm, Dw, Dk, rfl, hm, hw, hk⟩ := hd
  replace hS := Sat.opn4.1 hS
  refine returns_enter Tryz.func57 rfl Tryz.ntmps57 rfl ?_
  refine cw_seq fun K1 hK1 => ?_
  refine cw_region ?_
  refine wl_op rfl rfl (ow_vr (vr_assign (v := .int .i64 0) rfl) ?_)
  refine wl_nil ?_
  refine hK1 _ _ ?_
  refine cw_seq fun K2 hK2 => ?_
  refine cw_seq fun K3 hK3 => ?_
  refine cw_region ?_
  refine wl_op rfl rfl (ow_vr (vr_move (v := .pointer _) rfl) ?_)
  refine wl_op rfl rfl (ow_vr (vr_eqnil Tryz.underlying24 rfl) ?_)
  refine wl_nil ?_
  refine hK3 _ _ ?_
  refine cw_cond_f rfl rfl (rfl) ?_
  refine cw_skip ?_
  refine hK2 _ _ ?_
  refine cw_seq fun K4 hK4 => ?_
  refine cw_region ?_
  refine wl_op rfl rfl (ow_vr (vr_move (v := .pointer _) rfl) ?_)
  refine wl_op rfl rfl (ow_vr (vr_nilCheck rfl) ?_)
  first | (refine wl_op rfl rfl (ow_vr (vr_fieldAddr fo_59_2 rfl) ?_)) | (refine wl_op rfl rfl (ow_vr (vr_fieldAddrV fo_59_2 rfl (by first | assumption | (refine Own.view ?_ (by assumption); exact fun _ => rfl) | exact OwnB.view (by assumption)) (by first | omega | (simp <;> omega))) ?_))
  refine wl_op rfl rfl (ow_lr (S := Sat _ _) (lr_load1 Tryz.underlying3 rfl rfl (by first | exact Has.here | exact Has.there (Has.here) | exact Has.there (Has.there (Has.here)) | exact Has.there (Has.there (Has.there (Has.here))) | exact Has.there (Has.there (Has.there (Has.there (Has.here)))) | exact Has.there (Has.there (Has.there (Has.there (Has.there (Has.here))))) | exact Has.there (Has.there (Has.there (Has.there (Has.there (Has.there (Has.here)))))) | exact Has.there (Has.there (Has.there (Has.there (Has.there (Has.there (Has.there (Has.here)))))))) rfl) hS ?_)
  refine wl_op rfl rfl (ow_vr (vr_assign (v := .int .i64 _) rfl) ?_)
  refine wl_nil ?_
  refine hK4 _ _ ?_
  refine cw_ret ?_
  refine ret_one (fn := Tryz.f57) (n := 9) (t := 2) (.inl rfl) rfl rfl ?_
  exact ⟨[_], ⟨rfl, rfl⟩, Sat.opn4.2 hS⟩
theorem disk_Power (hd : DiskAt p d Δ) : Fn Tryz.prog 12 [ptr p] [Δ] (fun v Δs => v = .bool d.off ∧ ∃ Δ', Δs = [Δ'] ∧ DiskAt p { d with off := false } Δ') := by
  refine Fn.mk fun E F w hS => ?_
  obtain ⟨r, vw, vk, Dm, Dw, Dk, rfl, hm, hw, hk⟩ := hd
  replace hS := Sat.opn4.1 hS
  refine returns_enter Tryz.func12 rfl Tryz.ntmps12 rfl ?_
  refine cw_seq fun K1 hK1 => ?_
  refine cw_region ?_
  refine wl_op rfl rfl (ow_vr (vr_assign (v := .bool false) rfl) ?_)
  refine wl_nil ?_
  refine hK1 _ _ ?_
  refine cw_seq fun K2 hK2 => ?_
  refine cw_region ?_
  refine wl_op rfl rfl (ow_vr (vr_move (v := .pointer _) rfl) ?_)
  refine wl_op rfl rfl (ow_vr (vr_nenil Tryz.underlying24 rfl) ?_)
  refine wl_op rfl rfl (ow_vr (vr_move (v := .bool _) rfl) ?_)
  refine wl_known 6 rfl (c := true) (rfl) ?_
  refine wl_yes rfl rfl rfl rfl rfl (ow_vr (vr_move (v := .pointer _) rfl) ?_)
  refine wl_yes rfl rfl rfl rfl rfl (ow_vr (vr_nilCheck rfl) ?_)
  first | (refine wl_yes rfl rfl rfl rfl rfl (ow_vr (vr_fieldAddr fo_59_3 rfl) ?_)) | (refine wl_yes rfl rfl rfl rfl rfl (ow_vr (vr_fieldAddrV fo_59_3 rfl (by first | assumption | (refine Own.view ?_ (by assumption); exact fun _ => rfl) | exact OwnB.view (by assumption)) (by first | omega | (simp <;> omega))) ?_))
  refine wl_yes rfl rfl rfl rfl rfl (ow_lr (S := Sat _ _) (lr_load1 Tryz.underlying4 rfl rfl (by first | exact Has.here | exact Has.there (Has.here) | exact Has.there (Has.there (Has.here)) | exact Has.there (Has.there (Has.there (Has.here))) | exact Has.there (Has.there (Has.there (Has.there (Has.here)))) | exact Has.there (Has.there (Has.there (Has.there (Has.there (Has.here))))) | exact Has.there (Has.there (Has.there (Has.there (Has.there (Has.there (Has.here)))))) | exact Has.there (Has.there (Has.there (Has.there (Has.there (Has.there (Has.there (Has.here)))))))) rfl) hS ?_)
  refine wl_op rfl rfl (ow_vr (vr_pick (b := true) (v := .bool _) rfl rfl) ?_)
  refine wl_op rfl rfl (ow_vr (vr_assign (v := .bool _) rfl) ?_)
  refine wl_nil ?_
  refine hK2 _ _ ?_
  refine cw_seq fun K3 hK3 => ?_
  refine cw_seq fun K4 hK4 => ?_
  refine cw_region ?_
  refine wl_op rfl rfl (ow_vr (vr_move (v := .bool _) rfl) ?_)
  refine wl_nil ?_
  refine hK4 _ _ ?_
  refine cw_cond rfl rfl (fun hc => ?_) (fun hc => ?_)
  · (try simp only [decide_eq_true_eq, decide_eq_false_iff_not, Bool.not_eq_true, Bool.not_eq_false, Bool.not_eq_true', Bool.not_eq_false', Bool.and_eq_true, Bool.or_eq_true, Bool.and_eq_false_iff, Bool.or_eq_false_iff, Int.not_lt, Int.not_le, gt_iff_lt, ge_iff_le, ne_eq, Decidable.not_not, beq_iff_eq] at hc)
    have hoff := hc; clear hc
    refine cw_region ?_
    refine wl_op rfl rfl (ow_vr (vr_move (v := .pointer _) rfl) ?_)
    refine wl_op rfl rfl (ow_vr (vr_nilCheck rfl) ?_)
    first | (refine wl_op rfl rfl (ow_vr (vr_fieldAddr fo_59_3 rfl) ?_)) | (refine wl_op rfl rfl (ow_vr (vr_fieldAddrV fo_59_3 rfl (by first | assumption | (refine Own.view ?_ (by assumption); exact fun _ => rfl) | exact OwnB.view (by assumption)) (by first | omega | (simp <;> omega))) ?_))
    refine wl_op rfl rfl (ow_store1 (v := .bool _) hS sz_4 rfl rfl (by first | rfl | exact Own.isOne (by assumption)) (by first | exact Has.here | exact Has.there (Has.here) | exact Has.there (Has.there (Has.here)) | exact Has.there (Has.there (Has.there (Has.here))) | exact Has.there (Has.there (Has.there (Has.there (Has.here)))) | exact Has.there (Has.there (Has.there (Has.there (Has.there (Has.here))))) | exact Has.there (Has.there (Has.there (Has.there (Has.there (Has.there (Has.here)))))) | exact Has.there (Has.there (Has.there (Has.there (Has.there (Has.there (Has.there (Has.here)))))))) (by simp) ?_)
    clear hS; intro w hS; try simp only [List.set_cons_zero, List.set_cons_succ] at hS
    refine wl_nil ?_
    refine hK3 _ _ ?_
    refine cw_seq fun K5 hK5 => ?_
    refine cw_region ?_
    refine wl_op rfl rfl (ow_vr (vr_move (v := .bool _) rfl) ?_)
    refine wl_op rfl rfl (ow_vr (vr_assign (v := .bool _) rfl) ?_)
    refine wl_nil ?_
    refine hK5 _ _ ?_
    refine cw_ret ?_
    refine ret_one (fn := Tryz.f12) (n := 17) (t := 2) (.inl rfl) rfl rfl ?_
    exact ⟨[_], ⟨rfl, _, rfl, DiskAt.mk (d := { d with off := false }) hm hw hk⟩, Sat.opn4.2 hS⟩
  · (try simp only [decide_eq_true_eq, decide_eq_false_iff_not, Bool.not_eq_true, Bool.not_eq_false, Bool.not_eq_true', Bool.not_eq_false', Bool.and_eq_true, Bool.or_eq_true, Bool.and_eq_false_iff, Bool.or_eq_false_iff, Int.not_lt, Int.not_le, gt_iff_lt, ge_iff_le, ne_eq, Decidable.not_not, beq_iff_eq] at hc)
    have hoff := hc; clear hc
    refine cw_skip ?_
    refine hK3 _ _ ?_
    refine cw_seq fun K6 hK6 => ?_
    refine cw_region ?_
    refine wl_op rfl rfl (ow_vr (vr_move (v := .bool _) rfl) ?_)
    refine wl_op rfl rfl (ow_vr (vr_assign (v := .bool _) rfl) ?_)
    refine wl_nil ?_
    refine hK6 _ _ ?_
    refine cw_ret ?_
    refine ret_one (fn := Tryz.f12) (n := 17) (t := 2) (.inl rfl) rfl rfl ?_
    exact ⟨[_], ⟨rfl, _, rfl, (by rw [show { d with off := false } = d from by cases d; simp_all]; exact DiskAt.mk hm hw hk)⟩, Sat.opn4.2 hS⟩
/-- The power goes: what was written last is kept, or not, as is said. -/
theorem disk_Crash (hd : DiskAt p d Δ) (v : Value) (ks : List Int) (Dv : Chunk) (hv : View 1 encI v ks Dv) (hks : ks.length ≤ 1000000) (hwl : d.waits.length ≤ 1000000) :
    ∀ E F w, Sat E (Δ :: F) w → (Dv ∈ F ∨ ∃ r vw vk Dm Dw, Δ = [[(p, .cells (dskC d r vw vk).toArray 59 (0, 0))], Dm, Dw, Dv].flatten ∧ MapAt str r d.lasts Dm ∧ Own 81 2 encW vw d.waits Dw ∧ Own 3 1 encI vk d.keep Dv) →
      Returns Tryz.prog 16 [ptr p, v].toArray w (fun u w' => u = .int .i64 (crashD d ks).1 ∧ ∃ Δ', DiskAt p (crashD d ks).2 Δ' ∧ Sat E (Δ' :: F) w') := by
  intro E F w hS hor
  obtain ⟨r, vw, vk, Dm, Dw, Dk, hS, hDv, hm, hw, hk⟩ : ∃ r vw vk Dm Dw Dk, Sat E ([(p, .cells (dskC d r vw vk).toArray 59 (0, 0))] :: Dm :: Dw :: Dk :: F) w ∧ Dv ∈ Dk :: F ∧ MapAt str r d.lasts Dm ∧ Own 81 2 encW vw d.waits Dw ∧ Own 3 1 encI vk d.keep Dk := by
    rcases hor with h | ⟨r, vw, vk, Dm, Dw, rfl, hm, hw, hk⟩
    · obtain ⟨r, vw, vk, Dm, Dw, Dk, rfl, hm, hw, hk⟩ := hd
      exact ⟨r, vw, vk, Dm, Dw, Dk, Sat.opn4.1 hS, List.Mem.tail _ h, hm, hw, hk⟩
    · exact ⟨r, vw, vk, Dm, Dw, Dv, Sat.opn4.1 hS, List.Mem.head _, hm, hw, hk⟩
  refine returns_enter Tryz.func16 rfl Tryz.ntmps16 rfl ?_
  refine cw_seq fun K1 hK1 => ?_
  refine cw_region ?_
  refine wl_op rfl rfl (ow_vr (vr_assign (v := .int .i64 0) rfl) ?_)
  refine wl_nil ?_
  refine hK1 _ _ ?_
  refine cw_seq fun K2 hK2 => ?_
  refine cw_seq fun K3 hK3 => ?_
  refine cw_region ?_
  refine wl_op rfl rfl (ow_vr (vr_move (v := .pointer _) rfl) ?_)
  refine wl_op rfl rfl (ow_vr (vr_eqnil Tryz.underlying24 rfl) ?_)
  refine wl_nil ?_
  refine hK3 _ _ ?_
  refine cw_cond_f rfl rfl (rfl) ?_
  refine cw_skip ?_
  refine hK2 _ _ ?_
  refine cw_seq fun K4 hK4 => ?_
  refine cw_region ?_
  refine wl_op rfl rfl (ow_vr (vr_move (v := v) rfl) ?_)
  refine wl_op rfl rfl (ow_fng (vs := [v]) en_32 rfl hS (clone_ints ks _ _ hv hks) (by repeat (first | exact needs0 | (refine needsC ?_ ?_; · (repeat (first | exact List.mem_cons_self | assumption | refine List.mem_cons_of_mem _ ?_))))) ?_)
  clear hS; rintro v11 _ w ⟨D11, rfl, ho11⟩ hS; (try simp only [List.cons_append, List.nil_append] at hS)
  refine wl_op rfl rfl (ow_vr (vr_assign (v := v11) rfl) ?_)
  refine wl_nil ?_
  refine hK4 _ _ ?_
  refine cw_seq fun K5 hK5 => ?_
  refine cw_region ?_
  refine wl_op rfl rfl (ow_vr (vr_move (v := .pointer _) rfl) ?_)
  refine wl_op rfl rfl (ow_vr (vr_move (v := .pointer _) rfl) ?_)
  refine wl_op rfl rfl (ow_vr (vr_move (v := .pointer _) rfl) ?_)
  refine wl_op rfl rfl (ow_vr (vr_nilCheck rfl) ?_)
  first | (refine wl_op rfl rfl (ow_vr (vr_fieldAddr fo_59_5 rfl) ?_)) | (refine wl_op rfl rfl (ow_vr (vr_fieldAddrV fo_59_5 rfl (by first | assumption | (refine Own.view ?_ (by assumption); exact fun _ => rfl) | exact OwnB.view (by assumption)) (by first | omega | (simp <;> omega))) ?_))
  refine wl_op rfl rfl (ow_store1 (v := .bool _) hS sz_4 rfl rfl (by first | rfl | exact Own.isOne (by assumption)) (by first | exact Has.here | exact Has.there (Has.here) | exact Has.there (Has.there (Has.here)) | exact Has.there (Has.there (Has.there (Has.here))) | exact Has.there (Has.there (Has.there (Has.there (Has.here)))) | exact Has.there (Has.there (Has.there (Has.there (Has.there (Has.here))))) | exact Has.there (Has.there (Has.there (Has.there (Has.there (Has.there (Has.here)))))) | exact Has.there (Has.there (Has.there (Has.there (Has.there (Has.there (Has.there (Has.here)))))))) (by simp) ?_)
  clear hS; intro w hS; try simp only [List.set_cons_zero, List.set_cons_succ] at hS
  refine wl_op rfl rfl (ow_vr (vr_nilCheck rfl) ?_)
  first | (refine wl_op rfl rfl (ow_vr (vr_fieldAddr fo_59_6 rfl) ?_)) | (refine wl_op rfl rfl (ow_vr (vr_fieldAddrV fo_59_6 rfl (by first | assumption | (refine Own.view ?_ (by assumption); exact fun _ => rfl) | exact OwnB.view (by assumption)) (by first | omega | (simp <;> omega))) ?_))
  refine wl_op rfl rfl (ow_store1 (v := .int .i64 _) hS sz_3 rfl rfl (by first | rfl | exact Own.isOne (by assumption)) (by first | exact Has.here | exact Has.there (Has.here) | exact Has.there (Has.there (Has.here)) | exact Has.there (Has.there (Has.there (Has.here))) | exact Has.there (Has.there (Has.there (Has.there (Has.here)))) | exact Has.there (Has.there (Has.there (Has.there (Has.there (Has.here))))) | exact Has.there (Has.there (Has.there (Has.there (Has.there (Has.there (Has.here)))))) | exact Has.there (Has.there (Has.there (Has.there (Has.there (Has.there (Has.there (Has.here)))))))) (by simp) ?_)
  clear hS; intro w hS; try simp only [List.set_cons_zero, List.set_cons_succ] at hS
  refine wl_op rfl rfl (ow_vr (vr_nilCheck rfl) ?_)
  first | (refine wl_op rfl rfl (ow_vr (vr_fieldAddr fo_59_7 rfl) ?_)) | (refine wl_op rfl rfl (ow_vr (vr_fieldAddrV fo_59_7 rfl (by first | assumption | (refine Own.view ?_ (by assumption); exact fun _ => rfl) | exact OwnB.view (by assumption)) (by first | omega | (simp <;> omega))) ?_))
  refine wl_op rfl rfl (ow_store1 (v := .slice _ _ _) hS sz_38 rfl rfl (by first | rfl | exact Own.isOne (by assumption)) (by first | exact Has.here | exact Has.there (Has.here) | exact Has.there (Has.there (Has.here)) | exact Has.there (Has.there (Has.there (Has.here))) | exact Has.there (Has.there (Has.there (Has.there (Has.here)))) | exact Has.there (Has.there (Has.there (Has.there (Has.there (Has.here))))) | exact Has.there (Has.there (Has.there (Has.there (Has.there (Has.there (Has.here)))))) | exact Has.there (Has.there (Has.there (Has.there (Has.there (Has.there (Has.there (Has.here)))))))) (by simp) ?_)
  clear hS; intro w hS; try simp only [List.set_cons_zero, List.set_cons_succ] at hS
  refine wl_nil ?_
  refine hK5 _ _ ?_
  refine cw_seq fun K6 hK6 => ?_
  replace hS := hS.front4.tail1
  refine cw_region ?_
  refine wl_op rfl rfl (ow_vr (vr_assign (v := .int .i64 0) rfl) ?_)
  refine wl_nil ?_
  refine hK6 _ _ ?_
  refine cw_seq fun K7 hK7 => ?_
  refine cw_seq fun K8 hK8 => ?_
  refine cw_region ?_
  refine wl_op rfl rfl (ow_vr (vr_move (v := .pointer _) rfl) ?_)
  refine wl_op rfl rfl (ow_vr (vr_nilCheck rfl) ?_)
  first | (refine wl_op rfl rfl (ow_vr (vr_fieldAddr fo_59_1 rfl) ?_)) | (refine wl_op rfl rfl (ow_vr (vr_fieldAddrV fo_59_1 rfl (by first | assumption | (refine Own.view ?_ (by assumption); exact fun _ => rfl) | exact OwnB.view (by assumption)) (by first | omega | (simp <;> omega))) ?_))
  refine wl_op rfl rfl (ow_lr (S := Sat _ _) (lr_load1 Tryz.underlying57 rfl rfl (by first | exact Has.here | exact Has.there (Has.here) | exact Has.there (Has.there (Has.here)) | exact Has.there (Has.there (Has.there (Has.here))) | exact Has.there (Has.there (Has.there (Has.there (Has.here)))) | exact Has.there (Has.there (Has.there (Has.there (Has.there (Has.here))))) | exact Has.there (Has.there (Has.there (Has.there (Has.there (Has.there (Has.here)))))) | exact Has.there (Has.there (Has.there (Has.there (Has.there (Has.there (Has.there (Has.here)))))))) rfl) hS ?_)
  first | (refine wl_op rfl rfl (ow_vr (vr_len_sl Tryz.underlying57 rfl) ?_)) | (refine wl_op rfl rfl (ow_vr (vr_len_v (v := vw) Tryz.underlying57 rfl (by first | assumption | (refine Own.view ?_ (by assumption); exact fun _ => rfl) | exact OwnB.view (by assumption))) ?_))
  refine wl_op rfl rfl (ow_vr (vr_move (v := .int .i64 0) rfl) ?_)
  refine wl_nil ?_
  refine hK8 _ _ ?_
  refine cw_block ?_
  refine cw_loop (fun m f w => ∃ (k : Nat) (lost : Int) (mp : Int → Option (List UInt8)) (Dm : Chunk) (g : Nat → Value), f = (upd (upd (upd (upd (upd (upd g 0 (ptr p)) 1 (v11)) 5 (.int .i64 lost)) 24 (vw)) 25 (.int .i64 (d.waits.length : Int))) 26 (.int .i64 (k : Int))) ∧ (k ≤ d.waits.length ∧ 0 ≤ lost ∧ lost ≤ k ∧ crashM ks k mp (d.waits.drop k) = crashM ks 0 d.lasts d.waits ∧ lost + crashL ks k (d.waits.drop k) = crashL ks 0 d.waits ∧ MapAt str r mp Dm) ∧ m = d.waits.length - k ∧ Sat E (D11 :: [(p, .cells [.map (some r), vw, .int .i64 d.n, .bool d.off, .int .i64 d.deeds, .bool false, .int .i64 0, .slice none 0 0].toArray 59 (0, 0))] :: Dm :: Dw :: F) w) ⟨0, 0, d.lasts, Dm, _, (reb (reb (reb (reb (reb (reb rfl rfl) rfl) rfl) rfl) rfl) rfl), ?_, rfl, hS⟩ ?_
  · exact ⟨by omega, by omega, by omega, rfl, by simp, hm⟩
  clear hS; rintro m f w ⟨k, lost, mp, Dm, g, rfl, hI0, rfl, hS⟩
  obtain ⟨hk, hl0, hl1, hM, hL, hm⟩ := hI0
  refine cw_seq fun K9 hK9 => ?_
  refine cw_region ?_
  refine wl_op rfl rfl (ow_vr (vr_lss rfl rfl) ?_)
  refine wl_nil ?_
  refine hK9 _ _ ?_
  refine cw_seq fun K10 hK10 => ?_
  refine cw_cond rfl rfl (fun hc => ?_) (fun hc => ?_)
  · (try simp only [decide_eq_true_eq, decide_eq_false_iff_not, Bool.not_eq_true, Bool.not_eq_false, Bool.not_eq_true', Bool.not_eq_false', Bool.and_eq_true, Bool.or_eq_true, Bool.and_eq_false_iff, Bool.or_eq_false_iff, Int.not_lt, Int.not_le, gt_iff_lt, ge_iff_le, ne_eq, Decidable.not_not, beq_iff_eq] at hc)
    have hc1 := hc; clear hc
    refine cw_skip ?_
    refine hK10 _ _ ?_
    refine cw_seq fun K11 hK11 => ?_
    refine cw_block ?_
    refine cw_seq fun K12 hK12 => ?_
    obtain ⟨x, hx⟩ := get_lt (xs := d.waits) (k := k) (by omega)
    rw [drop_cons hx] at hM hL
    rw [crashM] at hM
    rw [crashL] at hL
    refine cw_region ?_
    refine wl_op rfl rfl (ow_vr (vr_move (v := .int .i64 (k : Int)) rfl) ?_)
    first | (refine wl_op rfl rfl (ow_vr (vr_indexAddr Tryz.underlying57 sz_81 rfl rfl (by omega) (by omega)) ?_)) | (refine wl_op rfl rfl (ow_vr (vr_indexV (v := vw) Tryz.underlying57 sz_81 rfl (by first | assumption | (refine Own.view ?_ (by assumption); exact fun _ => rfl) | exact OwnB.view (by assumption)) rfl (by omega) (by first | omega | (simp <;> omega))) ?_))
    refine wl_op rfl rfl (ow_lr (S := Sat _ _) (lr_loadVA (cs := [.int .i64 _, str _]) Tryz.underlying81 rfl sz_81 rfl (by first | assumption | (refine Own.view ?_ (by assumption); exact fun _ => rfl) | exact OwnB.view (by assumption)) (by repeat (first | exact List.mem_cons_self | assumption | refine List.mem_cons_of_mem _ ?_)) (hx) (by exact fun _ => rfl) (by rfl)) hS ?_)
    refine wl_op rfl rfl (ow_alloc (cs := [_, _]) hS zr_81 rfl ?_)
    clear hS; intro b7 w hS
    refine wl_op rfl rfl (ow_vr (vr_assign (v := .int .i64 (k : Int)) rfl) ?_)
    refine wl_op rfl rfl (ow_storeA (vs := [.int .i64 _, str _]) hS sz_81 rfl rfl rfl (by first | rfl | (simp only [List.all_cons, List.all_nil, Bool.and_true, Bool.and_eq_true]; repeat (first | refine ⟨by first | rfl | assumption, ?_⟩ | rfl | assumption))) (by first | exact Has.here | exact Has.there (Has.here) | exact Has.there (Has.there (Has.here)) | exact Has.there (Has.there (Has.there (Has.here))) | exact Has.there (Has.there (Has.there (Has.there (Has.here)))) | exact Has.there (Has.there (Has.there (Has.there (Has.there (Has.here))))) | exact Has.there (Has.there (Has.there (Has.there (Has.there (Has.there (Has.here)))))) | exact Has.there (Has.there (Has.there (Has.there (Has.there (Has.there (Has.there (Has.here)))))))) (by simp) ?_)
    clear hS; intro w hS; try simp only [putAt, List.set_cons_zero, List.set_cons_succ] at hS
    refine wl_nil ?_
    refine hK12 _ _ ?_
    refine cw_seq fun K13 hK13 => ?_
    refine cw_seq fun K14 hK14 => ?_
    refine cw_region ?_
    refine wl_op rfl rfl (ow_vr (vr_move (v := .int .i64 (k : Int)) rfl) ?_)
    refine wl_op rfl rfl (ow_vr (vr_move (v := v11) rfl) ?_)
    first | (refine wl_op rfl rfl (ow_vr (vr_len_sl Tryz.underlying38 rfl) ?_)) | (refine wl_op rfl rfl (ow_vr (vr_len_v (v := v11) Tryz.underlying38 rfl (by first | assumption | (refine Own.view ?_ (by assumption); exact fun _ => rfl) | exact OwnB.view (by assumption))) ?_))
    refine wl_op rfl rfl (ow_vr (vr_lss rfl rfl) ?_)
    refine wl_op rfl rfl (ow_vr (vr_move (v := .bool _) rfl) ?_)
    refine wl_split 35 rfl (fun hc => ?_) (fun hc => ?_)
    · (try simp only [decide_eq_true_eq, decide_eq_false_iff_not, Bool.not_eq_true, Bool.not_eq_false, Bool.not_eq_true', Bool.not_eq_false', Bool.and_eq_true, Bool.or_eq_true, Bool.and_eq_false_iff, Bool.or_eq_false_iff, Int.not_lt, Int.not_le, gt_iff_lt, ge_iff_le, ne_eq, Decidable.not_not, beq_iff_eq] at hc)
      have hg35 := hc; clear hc
      refine wl_yes rfl rfl rfl rfl rfl (ow_vr (vr_move (v := v11) rfl) ?_)
      refine wl_yes rfl rfl rfl rfl rfl (ow_vr (vr_move (v := .int .i64 (k : Int)) rfl) ?_)
      first | (refine wl_yes rfl rfl rfl rfl rfl (ow_vr (vr_indexAddr Tryz.underlying38 sz_3 rfl rfl (by omega) (by omega)) ?_)) | (refine wl_yes rfl rfl rfl rfl rfl (ow_vr (vr_indexV (v := v11) Tryz.underlying38 sz_3 rfl (by first | assumption | (refine Own.view ?_ (by assumption); exact fun _ => rfl) | exact OwnB.view (by assumption)) rfl (by omega) (by first | omega | (simp <;> omega))) ?_))
      refine wl_yes rfl rfl rfl rfl rfl (ow_lr (S := Sat _ _) (lr_loadV1 (u := .int .i64 _) Tryz.underlying3 rfl rfl (by first | assumption | (refine Own.view ?_ (by assumption); exact fun _ => rfl) | exact OwnB.view (by assumption)) (by repeat (first | exact List.mem_cons_self | assumption | refine List.mem_cons_of_mem _ ?_)) (List.getElem?_eq_getElem (show k < ks.length by omega)) (by exact fun _ => rfl) (by rfl)) hS ?_)
      refine wl_yes rfl rfl rfl rfl rfl (ow_vr (vr_and_any rfl rfl) ?_)
      refine wl_yes rfl rfl rfl rfl rfl (ow_vr (vr_eql rfl rfl) ?_)
      refine wl_op rfl rfl (ow_vr (vr_pick (b := true) (v := .bool _) rfl rfl) ?_)
      refine wl_nil ?_
      refine hK14 _ _ ?_
      refine cw_cond rfl rfl (fun hc => ?_) (fun hc => ?_)
      · (try simp only [decide_eq_true_eq, decide_eq_false_iff_not, Bool.not_eq_true, Bool.not_eq_false, Bool.not_eq_true', Bool.not_eq_false', Bool.and_eq_true, Bool.or_eq_true, Bool.and_eq_false_iff, Bool.or_eq_false_iff, Int.not_lt, Int.not_le, gt_iff_lt, ge_iff_le, ne_eq, Decidable.not_not, beq_iff_eq] at hc)
        have hkept := hc; clear hc
        refine cw_seq fun K15 hK15 => ?_
        have hkp : keptB ks k = true := by rw [kept_some (by omega)]; simpa using hkept
        rw [if_pos hkp] at hM hL
        refine cw_draw_sat hS [(0, 0), (1, 0), (2, 0), (3, 1), (4, 0), (5, 1), (6, 0), (7, 1), (8, 3)] mixed (planFast_ok (by kernel_rfl)) (by rintro _ _ _ ⟨⟩) ?_
        clear hS; intro w hS
        refine pl_take rfl (yes_none rfl) (vr_move (v := (ptr p)) rfl) ?_
        refine pl_take rfl (yes_none rfl) (vr_nilCheck rfl) ?_
        first | (refine pl_take rfl (yes_none rfl) (vr_fieldAddr fo_59_0 rfl) ?_) | (refine pl_take rfl (yes_none rfl) (vr_fieldAddrV fo_59_0 rfl (by first | assumption | (refine Own.view ?_ (by assumption); exact fun _ => rfl) | exact OwnB.view (by assumption)) (by first | omega | (simp <;> omega))) ?_)
        refine pl_load rfl (yes_none rfl) (lr_load1 Tryz.underlying56 rfl rfl (by first | exact Has.here | exact Has.there (Has.here) | exact Has.there (Has.there (Has.here)) | exact Has.there (Has.there (Has.there (Has.here))) | exact Has.there (Has.there (Has.there (Has.there (Has.here)))) | exact Has.there (Has.there (Has.there (Has.there (Has.there (Has.here))))) | exact Has.there (Has.there (Has.there (Has.there (Has.there (Has.there (Has.here)))))) | exact Has.there (Has.there (Has.there (Has.there (Has.there (Has.there (Has.there (Has.here)))))))) rfl) ?_
        first | (refine pl_take rfl (yes_none rfl) (vr_fieldAddr fo_81_0 rfl) ?_) | (refine pl_take rfl (yes_none rfl) (vr_fieldAddrV fo_81_0 rfl (by first | assumption | (refine Own.view ?_ (by assumption); exact fun _ => rfl) | exact OwnB.view (by assumption)) (by first | omega | (simp <;> omega))) ?_)
        refine pl_load rfl (yes_none rfl) (lr_load1 Tryz.underlying3 rfl rfl (by first | exact Has.here | exact Has.there (Has.here) | exact Has.there (Has.there (Has.here)) | exact Has.there (Has.there (Has.there (Has.here))) | exact Has.there (Has.there (Has.there (Has.there (Has.here)))) | exact Has.there (Has.there (Has.there (Has.there (Has.there (Has.here))))) | exact Has.there (Has.there (Has.there (Has.there (Has.there (Has.there (Has.here)))))) | exact Has.there (Has.there (Has.there (Has.there (Has.there (Has.there (Has.there (Has.here)))))))) rfl) ?_
        first | (refine pl_take rfl (yes_none rfl) (vr_fieldAddr fo_81_1 rfl) ?_) | (refine pl_take rfl (yes_none rfl) (vr_fieldAddrV fo_81_1 rfl (by first | assumption | (refine Own.view ?_ (by assumption); exact fun _ => rfl) | exact OwnB.view (by assumption)) (by first | omega | (simp <;> omega))) ?_)
        refine pl_load rfl (yes_none rfl) (lr_load1 Tryz.underlying9 rfl rfl (by first | exact Has.here | exact Has.there (Has.here) | exact Has.there (Has.there (Has.here)) | exact Has.there (Has.there (Has.there (Has.here))) | exact Has.there (Has.there (Has.there (Has.there (Has.here)))) | exact Has.there (Has.there (Has.there (Has.there (Has.there (Has.here))))) | exact Has.there (Has.there (Has.there (Has.there (Has.there (Has.there (Has.here)))))) | exact Has.there (Has.there (Has.there (Has.there (Has.there (Has.there (Has.there (Has.here)))))))) rfl) ?_
        refine pl_end hS rfl (yes_none rfl) ?_
        clear hS; intro w hS
        refine (ow_mapUpdate (val := str) hS Tryz.underlying56 Tryz.underlying3 rfl rfl rfl (by assumption) (by first | exact HasC.here | exact HasC.there (HasC.here) | exact HasC.there (HasC.there (HasC.here)) | exact HasC.there (HasC.there (HasC.there (HasC.here))) | exact HasC.there (HasC.there (HasC.there (HasC.there (HasC.here)))) | exact HasC.there (HasC.there (HasC.there (HasC.there (HasC.there (HasC.here))))) | exact HasC.there (HasC.there (HasC.there (HasC.there (HasC.there (HasC.there (HasC.here)))))) | exact HasC.there (HasC.there (HasC.there (HasC.there (HasC.there (HasC.there (HasC.there (HasC.here))))))) | exact HasC.there (HasC.there (HasC.there (HasC.there (HasC.there (HasC.there (HasC.there (HasC.there (HasC.here))))))))) ?_)
        clear hS; intro D10_8 w hm10_8 hS
        refine pl_nil hS ?_
        clear hS; intro w hS
        replace hS := hS.tail1
        refine hK15 _ _ ?_
        refine cw_exit ?_
        refine hK11 _ _ ?_
        refine cw_region ?_
        first | (refine wl_op rfl rfl (ow_vr (vr_addi rfl rfl (by unfold inI64; omega)) ?_)) | (refine wl_op rfl rfl (ow_vr (vr_add rfl rfl) ?_))
        refine wl_op rfl rfl (ow_vr (vr_move (v := .int .i64 _) rfl) ?_)
        refine wl_nil ?_
        refine thenF_normal ⟨_, ?_, k + 1, lost, setM mp x.1 x.2, D10_8, _, (reb (reb (reb (reb (reb (reb rfl rfl) rfl) rfl) rfl) rfl) rfl), ?_, rfl, hS⟩
        · omega
        · exact ⟨by omega, by omega, by omega, hM, by omega, hm10_8⟩
      · (try simp only [decide_eq_true_eq, decide_eq_false_iff_not, Bool.not_eq_true, Bool.not_eq_false, Bool.not_eq_true', Bool.not_eq_false', Bool.and_eq_true, Bool.or_eq_true, Bool.and_eq_false_iff, Bool.or_eq_false_iff, Int.not_lt, Int.not_le, gt_iff_lt, ge_iff_le, ne_eq, Decidable.not_not, beq_iff_eq] at hc)
        have hkept := hc; clear hc
        refine cw_skip ?_
        refine hK13 _ _ ?_
        have hkp : keptB ks k = false := by first | (rw [kept_some (by omega)]; simpa using hkept) | exact kept_none (by omega)
        rw [if_neg (by simp [hkp])] at hM hL
        refine cw_region ?_
        refine wl_op rfl rfl (ow_vr (vr_move (v := .int .i64 lost) rfl) ?_)
        first | (refine wl_op rfl rfl (ow_vr (vr_addi rfl rfl (by unfold inI64; omega)) ?_)) | (refine wl_op rfl rfl (ow_vr (vr_add rfl rfl) ?_))
        refine wl_op rfl rfl (ow_vr (vr_assign (v := .int .i64 _) rfl) ?_)
        refine wl_nil ?_
        replace hS := hS.tail1
        refine hK11 _ _ ?_
        refine cw_region ?_
        first | (refine wl_op rfl rfl (ow_vr (vr_addi rfl rfl (by unfold inI64; omega)) ?_)) | (refine wl_op rfl rfl (ow_vr (vr_add rfl rfl) ?_))
        refine wl_op rfl rfl (ow_vr (vr_move (v := .int .i64 _) rfl) ?_)
        refine wl_nil ?_
        refine thenF_normal ⟨_, ?_, k + 1, lost + 1, mp, Dm, _, (reb (reb (reb (reb (reb (reb rfl rfl) rfl) rfl) rfl) rfl) rfl), ?_, rfl, hS⟩
        · omega
        · exact ⟨by omega, by omega, by omega, hM, by omega, hm⟩
    · (try simp only [decide_eq_true_eq, decide_eq_false_iff_not, Bool.not_eq_true, Bool.not_eq_false, Bool.not_eq_true', Bool.not_eq_false', Bool.and_eq_true, Bool.or_eq_true, Bool.and_eq_false_iff, Bool.or_eq_false_iff, Int.not_lt, Int.not_le, gt_iff_lt, ge_iff_le, ne_eq, Decidable.not_not, beq_iff_eq] at hc)
      have hg35 := hc; clear hc
      refine wl_noD rfl rfl rfl rfl rfl rfl ?_
      refine wl_noD rfl rfl rfl rfl rfl rfl ?_
      refine wl_noD rfl rfl rfl rfl rfl rfl ?_
      refine wl_noD rfl rfl rfl rfl rfl rfl ?_
      refine wl_noD rfl rfl rfl rfl rfl rfl ?_
      refine wl_noD rfl rfl rfl rfl rfl rfl ?_
      refine wl_op rfl rfl (ow_vr (vr_pick (b := false) (v := .bool _) rfl rfl) ?_)
      refine wl_nil ?_
      refine hK14 _ _ ?_
      refine cw_cond_f rfl rfl (rfl) ?_
      refine cw_skip ?_
      refine hK13 _ _ ?_
      have hkp : keptB ks k = false := by first | (rw [kept_some (by omega)]; simpa using hkept) | exact kept_none (by omega)
      rw [if_neg (by simp [hkp])] at hM hL
      refine cw_region ?_
      refine wl_op rfl rfl (ow_vr (vr_move (v := .int .i64 lost) rfl) ?_)
      first | (refine wl_op rfl rfl (ow_vr (vr_addi rfl rfl (by unfold inI64; omega)) ?_)) | (refine wl_op rfl rfl (ow_vr (vr_add rfl rfl) ?_))
      refine wl_op rfl rfl (ow_vr (vr_assign (v := .int .i64 _) rfl) ?_)
      refine wl_nil ?_
      replace hS := hS.tail1
      refine hK11 _ _ ?_
      refine cw_region ?_
      first | (refine wl_op rfl rfl (ow_vr (vr_addi rfl rfl (by unfold inI64; omega)) ?_)) | (refine wl_op rfl rfl (ow_vr (vr_add rfl rfl) ?_))
      refine wl_op rfl rfl (ow_vr (vr_move (v := .int .i64 _) rfl) ?_)
      refine wl_nil ?_
      refine thenF_normal ⟨_, ?_, k + 1, lost + 1, mp, Dm, _, (reb (reb (reb (reb (reb (reb rfl rfl) rfl) rfl) rfl) rfl) rfl), ?_, rfl, hS⟩
      · omega
      · exact ⟨by omega, by omega, by omega, hM, by omega, hm⟩
  · (try simp only [decide_eq_true_eq, decide_eq_false_iff_not, Bool.not_eq_true, Bool.not_eq_false, Bool.not_eq_true', Bool.not_eq_false', Bool.and_eq_true, Bool.or_eq_true, Bool.and_eq_false_iff, Bool.or_eq_false_iff, Int.not_lt, Int.not_le, gt_iff_lt, ge_iff_le, ne_eq, Decidable.not_not, beq_iff_eq] at hc)
    have hc1 := hc; clear hc
    refine cw_exit ?_
    refine hK7 _ _ ?_
    refine cw_seq fun K16 hK16 => ?_
    obtain ⟨hk, hl0, hl1, hM, hL, hm⟩ := (⟨hk, hl0, hl1, hM, hL, hm⟩ : k ≤ d.waits.length ∧ 0 ≤ lost ∧ lost ≤ k ∧ crashM ks k mp (d.waits.drop k) = crashM ks 0 d.lasts d.waits ∧ lost + crashL ks k (d.waits.drop k) = crashL ks 0 d.waits ∧ MapAt str r mp Dm)
    rw [show k = d.waits.length by omega, List.drop_length, crashM] at hM
    rw [show k = d.waits.length by omega, List.drop_length, crashL] at hL
    refine cw_region ?_
    refine wl_op rfl rfl (ow_vr (vr_move (v := (ptr p)) rfl) ?_)
    refine wl_op rfl rfl (ow_vr (vr_move (v := (ptr p)) rfl) ?_)
    refine wl_op rfl rfl (ow_vr (vr_nilCheck rfl) ?_)
    first | (refine wl_op rfl rfl (ow_vr (vr_fieldAddr fo_59_1 rfl) ?_)) | (refine wl_op rfl rfl (ow_vr (vr_fieldAddrV fo_59_1 rfl (by first | assumption | (refine Own.view ?_ (by assumption); exact fun _ => rfl) | exact OwnB.view (by assumption)) (by first | omega | (simp <;> omega))) ?_))
    refine wl_op rfl rfl (ow_store1 (v := .slice _ _ _) hS sz_57 rfl rfl (by first | rfl | exact Own.isOne (by assumption)) (by first | exact Has.here | exact Has.there (Has.here) | exact Has.there (Has.there (Has.here)) | exact Has.there (Has.there (Has.there (Has.here))) | exact Has.there (Has.there (Has.there (Has.there (Has.here)))) | exact Has.there (Has.there (Has.there (Has.there (Has.there (Has.here))))) | exact Has.there (Has.there (Has.there (Has.there (Has.there (Has.there (Has.here)))))) | exact Has.there (Has.there (Has.there (Has.there (Has.there (Has.there (Has.there (Has.here)))))))) (by simp) ?_)
    clear hS; intro w hS; try simp only [List.set_cons_zero, List.set_cons_succ] at hS
    refine wl_op rfl rfl (ow_vr (vr_nilCheck rfl) ?_)
    first | (refine wl_op rfl rfl (ow_vr (vr_fieldAddr fo_59_3 rfl) ?_)) | (refine wl_op rfl rfl (ow_vr (vr_fieldAddrV fo_59_3 rfl (by first | assumption | (refine Own.view ?_ (by assumption); exact fun _ => rfl) | exact OwnB.view (by assumption)) (by first | omega | (simp <;> omega))) ?_))
    refine wl_op rfl rfl (ow_store1 (v := .bool _) hS sz_4 rfl rfl (by first | rfl | exact Own.isOne (by assumption)) (by first | exact Has.here | exact Has.there (Has.here) | exact Has.there (Has.there (Has.here)) | exact Has.there (Has.there (Has.there (Has.here))) | exact Has.there (Has.there (Has.there (Has.there (Has.here)))) | exact Has.there (Has.there (Has.there (Has.there (Has.there (Has.here))))) | exact Has.there (Has.there (Has.there (Has.there (Has.there (Has.there (Has.here)))))) | exact Has.there (Has.there (Has.there (Has.there (Has.there (Has.there (Has.there (Has.here)))))))) (by simp) ?_)
    clear hS; intro w hS; try simp only [List.set_cons_zero, List.set_cons_succ] at hS
    refine wl_nil ?_
    refine hK16 _ _ ?_
    refine cw_seq fun K17 hK17 => ?_
    refine cw_region ?_
    refine wl_op rfl rfl (ow_vr (vr_move (v := .int .i64 lost) rfl) ?_)
    refine wl_op rfl rfl (ow_vr (vr_assign (v := .int .i64 lost) rfl) ?_)
    refine wl_nil ?_
    refine hK17 _ _ ?_
    refine cw_ret ?_
    refine ret_one (fn := Tryz.f16) (n := 61) (t := 4) (.inl rfl) rfl rfl ?_
    exact ⟨congrArg (Value.int .i64) (show lost = (crashD d ks).1 by rw [crashD]; omega), _, DiskAt.mk (d := (crashD d ks).2) (by rw [crashD]; rw [← hM]; exact hm) Own.nil Own.nil, Sat.opn4.2 (hS.front3.tail1.tail1.perm (flat_cons (flat_cons (by simp))))⟩
/-- By hands that hold the list. -/
theorem disk_CrashM (hd : DiskAt p d Δ) (v : Value) (ks : List Int) (Dv : Chunk) (hv : View 1 encI v ks Dv) (hks : ks.length ≤ 1000000) (hwl : d.waits.length ≤ 1000000) :
    FnM Tryz.prog 16 [ptr p, v] [Δ] [Dv] (fun u Δs => u = .int .i64 (crashD d ks).1 ∧ ∃ Δ', Δs = [Δ'] ∧ DiskAt p (crashD d ks).2 Δ') := by
  refine FnM.mk fun E F w hS hn => ?_
  refine (disk_Crash hd v ks Dv hv hks hwl E F w hS (.inl (hn _ (by simp)))).mono ?_
  rintro u w' ⟨h1, Δ', h2, h3⟩
  exact ⟨[Δ'], ⟨h1, Δ', rfl, h2⟩, h3⟩
theorem disk_CrashNil (hd : DiskAt p d Δ) (hwl : d.waits.length ≤ 1000000) :
    Fn Tryz.prog 16 [ptr p, .slice none 0 0] [Δ] (fun u Δs => u = .int .i64 (crashD d []).1 ∧ ∃ Δ', Δs = [Δ'] ∧ DiskAt p (crashD d []).2 Δ') := by
  refine Fn.mk fun E F w hS => ?_
  have hv : View 1 encI (.slice none 0 0) ([] : List Int) [] := Own.view (T := 3) (fun _ => rfl) Own.nil
  refine (disk_Crash hd _ [] [] hv (by simp) hwl E ([] :: F) w (hS.perm (by simp)) (.inl (List.Mem.head _))).mono ?_
  rintro u w' ⟨h1, Δ', h2, h3⟩
  exact ⟨[Δ'], ⟨h1, Δ', rfl, h2⟩, h3.perm (by simp)⟩
/-- By the disk's own list. -/
theorem disk_CrashOwn {r : Nat} {vw vk : Value} {Dm Dw Dk : Chunk} (hm : MapAt str r d.lasts Dm) (hw : Own 81 2 encW vw d.waits Dw) (hk : Own 3 1 encI vk d.keep Dk) (hks : d.keep.length ≤ 1000000) (hwl : d.waits.length ≤ 1000000) :
    Fn Tryz.prog 16 [ptr p, vk] [[(p, .cells (dskC d r vw vk).toArray 59 (0, 0))], Dm, Dw, Dk] (fun u Δs => u = .int .i64 (crashD d d.keep).1 ∧ ∃ Δ', Δs = [Δ'] ∧ DiskAt p (crashD d d.keep).2 Δ') := by
  refine Fn.mk fun E F w hS => ?_
  refine (disk_Crash (DiskAt.mk hm hw hk) vk d.keep Dk (hk.view fun _ => rfl) hks hwl E F w (Sat.opn4.2 hS) (.inr ⟨r, vw, vk, Dm, Dw, rfl, hm, hw, hk⟩)).mono ?_
  rintro u w' ⟨h1, Δ', h2, h3⟩
  exact ⟨[Δ'], ⟨h1, Δ', rfl, h2⟩, h3⟩
theorem falls_waits (d : Dsk) : (fallsD d).2.waits = d.waits ∧ (fallsD d).2.keep = d.keep ∧ (fallsD d).2.lasts = d.lasts := by
  rw [fallsD]; split <;> exact ⟨rfl, rfl, rfl⟩
theorem disk_done (hd : DiskAt p d Δ) (hks : d.keep.length ≤ 1000000) (hwl : d.waits.length ≤ 1000000) :
    Fn Tryz.prog 85 [ptr p] [Δ] (fun v Δs => v = .int .i64 (doneD d).1 ∧ ∃ Δ', Δs = [Δ'] ∧ DiskAt p (doneD d).2 Δ') := by
  refine Fn.mk fun E F w hS => ?_
  have hfw := falls_waits d
  refine returns_enter Tryz.func85 rfl Tryz.ntmps85 rfl ?_
  refine cw_seq fun K1 hK1 => ?_
  refine cw_region ?_
  refine wl_op rfl rfl (ow_vr (vr_assign (v := .int .i64 0) rfl) ?_)
  refine wl_nil ?_
  refine hK1 _ _ ?_
  refine cw_seq fun K2 hK2 => ?_
  refine cw_seq fun K3 hK3 => ?_
  refine cw_region ?_
  refine wl_op rfl rfl (ow_vr (vr_move (v := .pointer _) rfl) ?_)
  refine wl_op rfl rfl (ow_fn (vs := [.pointer _]) en_96 rfl hS (disk_falls hd) ?_)
  clear hS; rintro v4 _ w ⟨rfl, Δ1, rfl, hd1⟩ hS; (try simp only [List.cons_append, List.nil_append] at hS)
  refine wl_nil ?_
  obtain ⟨r, vw, vk, Dm, Dw, Dk, rfl, hm, hw, hk⟩ := hd1
  replace hS := Sat.opn4.1 hS
  refine hK3 _ _ ?_
  refine cw_cond rfl rfl (fun hc => ?_) (fun hc => ?_)
  · (try simp only [decide_eq_true_eq, decide_eq_false_iff_not, Bool.not_eq_true, Bool.not_eq_false, Bool.not_eq_true', Bool.not_eq_false', Bool.and_eq_true, Bool.or_eq_true, Bool.and_eq_false_iff, Bool.or_eq_false_iff, Int.not_lt, Int.not_le, gt_iff_lt, ge_iff_le, ne_eq, Decidable.not_not, beq_iff_eq] at hc)
    have hf := hc; clear hc
    refine cw_seq fun K4 hK4 => ?_
    have he : doneD d = (3, (crashD (fallsD d).2 (fallsD d).2.keep).2) := by rw [doneD, if_pos hf]
    refine cw_region ?_
    refine wl_op rfl rfl (ow_vr (vr_move (v := .pointer _) rfl) ?_)
    refine wl_op rfl rfl (ow_vr (vr_move (v := .pointer _) rfl) ?_)
    refine wl_op rfl rfl (ow_vr (vr_nilCheck rfl) ?_)
    first | (refine wl_op rfl rfl (ow_vr (vr_fieldAddr fo_59_7 rfl) ?_)) | (refine wl_op rfl rfl (ow_vr (vr_fieldAddrV fo_59_7 rfl (by first | assumption | (refine Own.view ?_ (by assumption); exact fun _ => rfl) | exact OwnB.view (by assumption)) (by first | omega | (simp <;> omega))) ?_))
    refine wl_op rfl rfl (ow_lr (S := Sat _ _) (lr_load1 Tryz.underlying38 rfl rfl (by first | exact Has.here | exact Has.there (Has.here) | exact Has.there (Has.there (Has.here)) | exact Has.there (Has.there (Has.there (Has.here))) | exact Has.there (Has.there (Has.there (Has.there (Has.here)))) | exact Has.there (Has.there (Has.there (Has.there (Has.there (Has.here))))) | exact Has.there (Has.there (Has.there (Has.there (Has.there (Has.there (Has.here)))))) | exact Has.there (Has.there (Has.there (Has.there (Has.there (Has.there (Has.there (Has.here)))))))) rfl) hS ?_)
    refine wl_op rfl rfl (ow_fn (vs := [.pointer _, vk]) en_16 rfl hS (disk_CrashOwn hm hw hk (by rw [hfw.2.1]; exact hks) (by rw [hfw.1]; exact hwl)) ?_)
    clear hS; rintro v10 _ w ⟨rfl, Δ2, rfl, hd2⟩ hS; (try simp only [List.cons_append, List.nil_append] at hS)
    refine wl_nil ?_
    refine hK4 _ _ ?_
    refine cw_seq fun K5 hK5 => ?_
    refine cw_region ?_
    refine wl_op rfl rfl (ow_vr (vr_assign (v := .int .i64 3) rfl) ?_)
    refine wl_nil ?_
    refine hK5 _ _ ?_
    refine cw_ret ?_
    refine thenF_ret (?_)
    refine ret_one (fn := Tryz.f85) (n := 18) (t := 2) (.inl rfl) rfl rfl ?_
    exact ⟨[Δ2], ⟨by rw [he] <;> rfl, _, rfl, by rw [he]; exact hd2⟩, hS⟩
  · (try simp only [decide_eq_true_eq, decide_eq_false_iff_not, Bool.not_eq_true, Bool.not_eq_false, Bool.not_eq_true', Bool.not_eq_false', Bool.and_eq_true, Bool.or_eq_true, Bool.and_eq_false_iff, Bool.or_eq_false_iff, Int.not_lt, Int.not_le, gt_iff_lt, ge_iff_le, ne_eq, Decidable.not_not, beq_iff_eq] at hc)
    have hf := hc; clear hc
    refine cw_skip ?_
    refine hK2 _ _ ?_
    refine cw_seq fun K6 hK6 => ?_
    have he : doneD d = (0, { (fallsD d).2 with deeds := wrap64I ((fallsD d).2.deeds + 1) }) := by rw [doneD, if_neg (by simp [hf])]
    refine cw_region ?_
    refine wl_op rfl rfl (ow_vr (vr_move (v := .pointer _) rfl) ?_)
    refine wl_op rfl rfl (ow_vr (vr_nilCheck rfl) ?_)
    first | (refine wl_op rfl rfl (ow_vr (vr_fieldAddr fo_59_4 rfl) ?_)) | (refine wl_op rfl rfl (ow_vr (vr_fieldAddrV fo_59_4 rfl (by first | assumption | (refine Own.view ?_ (by assumption); exact fun _ => rfl) | exact OwnB.view (by assumption)) (by first | omega | (simp <;> omega))) ?_))
    refine wl_op rfl rfl (ow_lr (S := Sat _ _) (lr_load1 Tryz.underlying3 rfl rfl (by first | exact Has.here | exact Has.there (Has.here) | exact Has.there (Has.there (Has.here)) | exact Has.there (Has.there (Has.there (Has.here))) | exact Has.there (Has.there (Has.there (Has.there (Has.here)))) | exact Has.there (Has.there (Has.there (Has.there (Has.there (Has.here))))) | exact Has.there (Has.there (Has.there (Has.there (Has.there (Has.there (Has.here)))))) | exact Has.there (Has.there (Has.there (Has.there (Has.there (Has.there (Has.there (Has.here)))))))) rfl) hS ?_)
    refine wl_op rfl rfl (ow_vr (vr_add rfl rfl) ?_)
    refine wl_op rfl rfl (ow_vr (vr_nilCheck rfl) ?_)
    first | (refine wl_op rfl rfl (ow_vr (vr_fieldAddr fo_59_4 rfl) ?_)) | (refine wl_op rfl rfl (ow_vr (vr_fieldAddrV fo_59_4 rfl (by first | assumption | (refine Own.view ?_ (by assumption); exact fun _ => rfl) | exact OwnB.view (by assumption)) (by first | omega | (simp <;> omega))) ?_))
    refine wl_op rfl rfl (ow_store1 (v := .int .i64 _) hS sz_3 rfl rfl (by first | rfl | exact Own.isOne (by assumption)) (by first | exact Has.here | exact Has.there (Has.here) | exact Has.there (Has.there (Has.here)) | exact Has.there (Has.there (Has.there (Has.here))) | exact Has.there (Has.there (Has.there (Has.there (Has.here)))) | exact Has.there (Has.there (Has.there (Has.there (Has.there (Has.here))))) | exact Has.there (Has.there (Has.there (Has.there (Has.there (Has.there (Has.here)))))) | exact Has.there (Has.there (Has.there (Has.there (Has.there (Has.there (Has.there (Has.here)))))))) (by simp) ?_)
    clear hS; intro w hS; try simp only [List.set_cons_zero, List.set_cons_succ] at hS
    refine wl_nil ?_
    refine hK6 _ _ ?_
    refine cw_seq fun K7 hK7 => ?_
    refine cw_region ?_
    refine wl_op rfl rfl (ow_vr (vr_assign (v := .int .i64 0) rfl) ?_)
    refine wl_nil ?_
    refine hK7 _ _ ?_
    refine cw_ret ?_
    refine ret_one (fn := Tryz.f85) (n := 18) (t := 2) (.inl rfl) rfl rfl ?_
    exact ⟨[_], ⟨by rw [he] <;> rfl, _, rfl, by rw [he]; exact DiskAt.mk (d := { (fallsD d).2 with deeds := wrap64I ((fallsD d).2.deeds + 1) }) hm hw hk⟩, Sat.opn4.2 hS⟩
theorem disk_Write (hd : DiskAt p d Δ) (k : Int) (b : List UInt8) (hks : d.keep.length ≤ 1000000) (hwl : d.waits.length ≤ 900000) (hb : b.length ≤ 1000000) :
    Fn Tryz.prog 60 [ptr p, .int .i64 k, str b] [Δ] (fun v Δs => v = .int .i64 (writeD d k b).1 ∧ ∃ Δ', Δs = [Δ'] ∧ DiskAt p (writeD d k b).2 Δ') := by
  refine Fn.mk fun E F w hS => ?_
  refine returns_enter Tryz.func60 rfl Tryz.ntmps60 rfl ?_
  refine cw_seq fun K1 hK1 => ?_
  refine cw_region ?_
  refine wl_op rfl rfl (ow_vr (vr_assign (v := .int .i64 0) rfl) ?_)
  refine wl_nil ?_
  refine hK1 _ _ ?_
  refine cw_seq fun K2 hK2 => ?_
  refine cw_region ?_
  refine wl_op rfl rfl (ow_vr (vr_move (v := .pointer _) rfl) ?_)
  refine wl_op rfl rfl (ow_vr (vr_move (v := .int .i64 _) rfl) ?_)
  refine wl_op rfl rfl (ow_fn (vs := [.pointer _, .int .i64 _]) en_65 rfl hS (disk_may hd k) ?_)
  clear hS; rintro v10 _ w ⟨rfl, rfl⟩ hS; (try simp only [List.cons_append, List.nil_append] at hS)
  refine wl_op rfl rfl (ow_vr (vr_assign (v := .int .i64 _) rfl) ?_)
  refine wl_nil ?_
  refine hK2 _ _ ?_
  refine cw_seq fun K3 hK3 => ?_
  refine cw_block ?_
  refine cw_seq fun K4 hK4 => ?_
  refine cw_region ?_
  refine wl_op rfl rfl (ow_vr (vr_move (v := .int .i64 _) rfl) ?_)
  refine wl_op rfl rfl (ow_vr (vr_neq rfl rfl) ?_)
  refine wl_op rfl rfl (ow_vr (vr_assign (v := .bool _) rfl) ?_)
  refine wl_nil ?_
  refine hK4 _ _ ?_
  refine cw_cond rfl rfl (fun hc => ?_) (fun hc => ?_)
  · (try simp only [decide_eq_true_eq, decide_eq_false_iff_not, Bool.not_eq_true, Bool.not_eq_false, Bool.not_eq_true', Bool.not_eq_false', Bool.and_eq_true, Bool.or_eq_true, Bool.and_eq_false_iff, Bool.or_eq_false_iff, Int.not_lt, Int.not_le, gt_iff_lt, ge_iff_le, ne_eq, Decidable.not_not, beq_iff_eq] at hc)
    have hc := hc; clear hc
    refine cw_seq fun K5 hK5 => ?_
    have he : writeD d k b = (mayE d k, d) := by rw [writeD, if_pos hc]
    refine cw_region ?_
    refine wl_op rfl rfl (ow_vr (vr_move (v := .int .i64 _) rfl) ?_)
    refine wl_op rfl rfl (ow_vr (vr_assign (v := .int .i64 _) rfl) ?_)
    refine wl_nil ?_
    refine hK5 _ _ ?_
    refine cw_ret ?_
    refine inB_ret (thenF_ret (?_))
    refine ret_one (fn := Tryz.f60) (n := 34) (t := 6) (.inl rfl) rfl rfl ?_
    exact ⟨[Δ], ⟨by rw [he] <;> rfl, _, rfl, by rw [he]; exact hd⟩, hS⟩
  · (try simp only [decide_eq_true_eq, decide_eq_false_iff_not, Bool.not_eq_true, Bool.not_eq_false, Bool.not_eq_true', Bool.not_eq_false', Bool.and_eq_true, Bool.or_eq_true, Bool.and_eq_false_iff, Bool.or_eq_false_iff, Int.not_lt, Int.not_le, gt_iff_lt, ge_iff_le, ne_eq, Decidable.not_not, beq_iff_eq] at hc)
    have hc := hc; clear hc
    refine cw_seq fun K6 hK6 => ?_
    refine cw_region ?_
    refine wl_op rfl rfl (ow_vr (vr_move (v := str _) rfl) ?_)
    refine wl_op rfl rfl (ow_vr (vr_len_s Tryz.underlying9 rfl) ?_)
    refine wl_op rfl rfl (ow_vr (vr_neq rfl rfl) ?_)
    refine wl_op rfl rfl (ow_vr (vr_assign (v := .bool _) rfl) ?_)
    refine wl_nil ?_
    refine hK6 _ _ ?_
    refine cw_cond rfl rfl (fun hc => ?_) (fun hc => ?_)
    · (try simp only [decide_eq_true_eq, decide_eq_false_iff_not, Bool.not_eq_true, Bool.not_eq_false, Bool.not_eq_true', Bool.not_eq_false', Bool.and_eq_true, Bool.or_eq_true, Bool.and_eq_false_iff, Bool.or_eq_false_iff, Int.not_lt, Int.not_le, gt_iff_lt, ge_iff_le, ne_eq, Decidable.not_not, beq_iff_eq] at hc)
      have hc2 := hc; clear hc
      refine cw_seq fun K7 hK7 => ?_
      have he : writeD d k b = (1, d) := by rw [writeD, if_neg (by omega), if_pos (by omega)]
      refine cw_region ?_
      refine wl_op rfl rfl (ow_vr (vr_assign (v := .int .i64 1) rfl) ?_)
      refine wl_nil ?_
      refine hK7 _ _ ?_
      refine cw_ret ?_
      refine inB_ret (thenF_ret (?_))
      refine ret_one (fn := Tryz.f60) (n := 34) (t := 6) (.inl rfl) rfl rfl ?_
      exact ⟨[Δ], ⟨by rw [he] <;> rfl, _, rfl, by rw [he]; exact hd⟩, hS⟩
    · (try simp only [decide_eq_true_eq, decide_eq_false_iff_not, Bool.not_eq_true, Bool.not_eq_false, Bool.not_eq_true', Bool.not_eq_false', Bool.and_eq_true, Bool.or_eq_true, Bool.and_eq_false_iff, Bool.or_eq_false_iff, Int.not_lt, Int.not_le, gt_iff_lt, ge_iff_le, ne_eq, Decidable.not_not, beq_iff_eq] at hc)
      have hc2 := hc; clear hc
      refine cw_skip ?_
      refine hK3 _ _ ?_
      refine cw_seq fun K8 hK8 => ?_
      have he : writeD d k b = doneD { d with waits := d.waits ++ [(k, b)] } := by rw [writeD, if_neg (by omega), if_neg (by omega)]
      obtain ⟨r, vw, vk, Dm, Dw, Dk, rfl, hm, hw, hk⟩ := hd
      replace hS := Sat.opn4.1 hS
      refine cw_draw_sat hS [(0, 0), (1, 0), (2, 0), (3, 0), (4, 1), (5, 0), (6, 0), (7, 2), (8, 0), (9, 2), (10, 3), (11, 0), (12, 0), (13, 3)] mixed (planFast_ok (by kernel_rfl)) (by rintro _ _ _ ⟨⟩) ?_
      clear hS; intro w hS
      refine pl_take rfl (yes_none rfl) (vr_move (v := .pointer _) rfl) ?_
      refine pl_take rfl (yes_none rfl) (vr_move (v := .pointer _) rfl) ?_
      refine pl_take rfl (yes_none rfl) (vr_nilCheck rfl) ?_
      first | (refine pl_take rfl (yes_none rfl) (vr_fieldAddr fo_59_1 rfl) ?_) | (refine pl_take rfl (yes_none rfl) (vr_fieldAddrV fo_59_1 rfl (by first | assumption | (refine Own.view ?_ (by assumption); exact fun _ => rfl) | exact OwnB.view (by assumption)) (by first | omega | (simp <;> omega))) ?_)
      refine pl_load rfl (yes_none rfl) (lr_load1 Tryz.underlying57 rfl rfl (by first | exact Has.here | exact Has.there (Has.here) | exact Has.there (Has.there (Has.here)) | exact Has.there (Has.there (Has.there (Has.here))) | exact Has.there (Has.there (Has.there (Has.there (Has.here)))) | exact Has.there (Has.there (Has.there (Has.there (Has.there (Has.here))))) | exact Has.there (Has.there (Has.there (Has.there (Has.there (Has.there (Has.here)))))) | exact Has.there (Has.there (Has.there (Has.there (Has.there (Has.there (Has.there (Has.here)))))))) rfl) ?_
      refine pl_take rfl (yes_none rfl) (vr_move (v := .int .i64 _) rfl) ?_
      refine pl_take rfl (yes_none rfl) (vr_move (v := str _) rfl) ?_
      refine pl_act hS rfl (yes_none rfl) ?_
      clear hS; intro w hS
      refine (ow_fn (vs := [str _]) en_84 rfl hS (strings_Clone b hb) ?_)
      clear hS; rintro v26 _ w ⟨rfl, rfl⟩ hS; (try simp only [List.cons_append, List.nil_append] at hS)
      refine ⟨by first | exact hS | exact hS.tail1 | exact hS.tail1.tail1 | exact hS.tail1.tail1.tail1, ?_⟩
      refine pl_take rfl (yes_none rfl) (vr_build (vs := [(0, .int .i64 _), (1, str _)]) (cs := [.int .i64 _, str _]) zr_81 pl_81 rfl rfl) ?_
      refine pl_act hS rfl (yes_none rfl) ?_
      clear hS; intro w hS
      refine (ow_buildSliceD (m := 2) (len := 1) (vs := [.agg #[.int .i64 _, str _]]) (cs := [.int .i64 _, str _]) hS Tryz.underlying57 if_81 rfl (by decide) (by decide) rfl rfl (by simp [Value.cells]) rfl ?_)
      clear hS; intro b28 w hS
      refine ⟨by first | exact hS | exact hS.tail1 | exact hS.tail1.tail1 | exact hS.tail1.tail1.tail1, ?_⟩
      refine pl_end hS rfl (yes_none rfl) ?_
      clear hS; intro w hS
      refine (ow_append (v := vw) hS Tryz.underlying57 Tryz.underlying57 if_81 rfl (by decide) rfl rfl (by assumption) (View.single (x := ((k, b) : Wr)) rfl rfl (by decide)) (by first | exact HasC.here | exact HasC.there (HasC.here) | exact HasC.there (HasC.there (HasC.here)) | exact HasC.there (HasC.there (HasC.there (HasC.here))) | exact HasC.there (HasC.there (HasC.there (HasC.there (HasC.here)))) | exact HasC.there (HasC.there (HasC.there (HasC.there (HasC.there (HasC.here))))) | exact HasC.there (HasC.there (HasC.there (HasC.there (HasC.there (HasC.there (HasC.here)))))) | exact HasC.there (HasC.there (HasC.there (HasC.there (HasC.there (HasC.there (HasC.there (HasC.here))))))) | exact HasC.there (HasC.there (HasC.there (HasC.there (HasC.there (HasC.there (HasC.there (HasC.there (HasC.here))))))))) (by repeat (first | exact List.mem_cons_self | assumption | refine List.mem_cons_of_mem _ ?_)) (by exact fun _ => rfl) (by exact fun _ => rfl) (by first | omega | (simp [maxLen] <;> omega) | (simp <;> omega)) (by first | omega | (simp [maxLen] <;> omega) | (simp <;> omega)) ?_)
      clear hS; intro v29 D29 w ho29 hS
      refine pl_take rfl (yes_none rfl) (vr_nilCheck rfl) ?_
      first | (refine pl_take rfl (yes_none rfl) (vr_fieldAddr fo_59_1 rfl) ?_) | (refine pl_take rfl (yes_none rfl) (vr_fieldAddrV fo_59_1 rfl (by first | assumption | (refine Own.view ?_ (by assumption); exact fun _ => rfl) | exact OwnB.view (by assumption)) (by first | omega | (simp <;> omega))) ?_)
      refine pl_end hS rfl (yes_none rfl) ?_
      clear hS; intro w hS
      refine (ow_store1 (v := v29) hS sz_57 rfl rfl (by first | rfl | exact Own.isOne (by assumption)) (by first | exact Has.here | exact Has.there (Has.here) | exact Has.there (Has.there (Has.here)) | exact Has.there (Has.there (Has.there (Has.here))) | exact Has.there (Has.there (Has.there (Has.there (Has.here)))) | exact Has.there (Has.there (Has.there (Has.there (Has.there (Has.here))))) | exact Has.there (Has.there (Has.there (Has.there (Has.there (Has.there (Has.here)))))) | exact Has.there (Has.there (Has.there (Has.there (Has.there (Has.there (Has.there (Has.here)))))))) (by simp) ?_)
      clear hS; intro w hS; try simp only [List.set_cons_zero, List.set_cons_succ] at hS
      refine pl_nil hS ?_
      clear hS; intro w hS
      replace hS := Sat.opn4.2 hS.tail1
      have hd2 := DiskAt.mk (p := p) (d := { d with waits := d.waits ++ [(k, b)] }) hm ho29 hk
      refine hK8 _ _ ?_
      refine cw_seq fun K9 hK9 => ?_
      refine cw_region ?_
      refine wl_op rfl rfl (ow_vr (vr_move (v := .pointer _) rfl) ?_)
      refine wl_op rfl rfl (ow_fn (vs := [.pointer _]) en_85 rfl hS (disk_done hd2 hks (by simp; omega)) ?_)
      clear hS; rintro v33 _ w ⟨rfl, Δ2, rfl, hd3⟩ hS; (try simp only [List.cons_append, List.nil_append] at hS)
      refine wl_op rfl rfl (ow_vr (vr_assign (v := .int .i64 _) rfl) ?_)
      refine wl_nil ?_
      refine hK9 _ _ ?_
      refine cw_ret ?_
      refine ret_one (fn := Tryz.f60) (n := 34) (t := 6) (.inl rfl) rfl rfl ?_
      exact ⟨[Δ2], ⟨by rw [he] <;> rfl, _, rfl, by rw [he]; exact hd3⟩, hS⟩
theorem disk_Read (hd : DiskAt p d Δ) (k : Int) (hwl : d.waits.length ≤ 1000000) :
    Fn Tryz.prog 29 [ptr p, .int .i64 k] [Δ] (fun v Δs => v = .tuple #[str (if mayE d k = 0 then readD d k else []), .int .i64 (mayE d k)] ∧ Δs = [Δ]) := by
  refine Fn.mk fun E F w hS => ?_
  refine returns_enter Tryz.func29 rfl Tryz.ntmps29 rfl ?_
  refine cw_seq fun K1 hK1 => ?_
  refine cw_region ?_
  refine wl_op rfl rfl (ow_vr (vr_assign (v := str []) rfl) ?_)
  refine wl_op rfl rfl (ow_vr (vr_assign (v := .int .i64 0) rfl) ?_)
  refine wl_nil ?_
  refine hK1 _ _ ?_
  refine cw_seq fun K2 hK2 => ?_
  refine cw_seq fun K3 hK3 => ?_
  refine cw_region ?_
  refine wl_op rfl rfl (ow_vr (vr_move (v := .pointer _) rfl) ?_)
  refine wl_op rfl rfl (ow_vr (vr_move (v := .int .i64 _) rfl) ?_)
  refine wl_op rfl rfl (ow_fn (vs := [.pointer _, .int .i64 _]) en_65 rfl hS (disk_may hd k) ?_)
  clear hS; rintro v12 _ w ⟨rfl, rfl⟩ hS; (try simp only [List.cons_append, List.nil_append] at hS)
  refine wl_op rfl rfl (ow_vr (vr_assign (v := .int .i64 _) rfl) ?_)
  refine wl_nil ?_
  refine hK3 _ _ ?_
  refine cw_seq fun K4 hK4 => ?_
  refine cw_region ?_
  refine wl_op rfl rfl (ow_vr (vr_move (v := .int .i64 _) rfl) ?_)
  refine wl_op rfl rfl (ow_vr (vr_neq rfl rfl) ?_)
  refine wl_nil ?_
  refine hK4 _ _ ?_
  refine cw_cond rfl rfl (fun hc => ?_) (fun hc => ?_)
  · (try simp only [decide_eq_true_eq, decide_eq_false_iff_not, Bool.not_eq_true, Bool.not_eq_false, Bool.not_eq_true', Bool.not_eq_false', Bool.and_eq_true, Bool.or_eq_true, Bool.and_eq_false_iff, Bool.or_eq_false_iff, Int.not_lt, Int.not_le, gt_iff_lt, ge_iff_le, ne_eq, Decidable.not_not, beq_iff_eq] at hc)
    have hc := hc; clear hc
    refine cw_seq fun K5 hK5 => ?_
    refine cw_region ?_
    refine wl_op rfl rfl (ow_vr (vr_move (v := .int .i64 _) rfl) ?_)
    refine wl_op rfl rfl (ow_vr (vr_assign (v := str []) rfl) ?_)
    refine wl_op rfl rfl (ow_vr (vr_assign (v := .int .i64 _) rfl) ?_)
    refine wl_nil ?_
    refine hK5 _ _ ?_
    refine cw_ret ?_
    refine thenF_ret (?_)
    refine ret_two (fn := Tryz.f29) (n := 56) (t := 4) (u := 5) (.inl rfl) rfl rfl rfl ?_
    exact ⟨[Δ], ⟨by rw [if_neg hc] <;> rfl, rfl⟩, hS⟩
  · (try simp only [decide_eq_true_eq, decide_eq_false_iff_not, Bool.not_eq_true, Bool.not_eq_false, Bool.not_eq_true', Bool.not_eq_false', Bool.and_eq_true, Bool.or_eq_true, Bool.and_eq_false_iff, Bool.or_eq_false_iff, Int.not_lt, Int.not_le, gt_iff_lt, ge_iff_le, ne_eq, Decidable.not_not, beq_iff_eq] at hc)
    have hc := hc; clear hc
    refine cw_skip ?_
    refine hK2 _ _ ?_
    refine cw_seq fun K6 hK6 => ?_
    refine cw_seq fun K7 hK7 => ?_
    obtain ⟨r, vw, vk, Dm, Dw, Dk, rfl, hm, hw, hk⟩ := hd
    replace hS := Sat.opn4.1 hS
    have hc : mayE d k = 0 := by omega
    refine cw_region ?_
    refine wl_op rfl rfl (ow_vr (vr_move (v := .pointer _) rfl) ?_)
    refine wl_op rfl rfl (ow_vr (vr_nilCheck rfl) ?_)
    first | (refine wl_op rfl rfl (ow_vr (vr_fieldAddr fo_59_1 rfl) ?_)) | (refine wl_op rfl rfl (ow_vr (vr_fieldAddrV fo_59_1 rfl (by first | assumption | (refine Own.view ?_ (by assumption); exact fun _ => rfl) | exact OwnB.view (by assumption)) (by first | omega | (simp <;> omega))) ?_))
    refine wl_op rfl rfl (ow_lr (S := Sat _ _) (lr_load1 Tryz.underlying57 rfl rfl (by first | exact Has.here | exact Has.there (Has.here) | exact Has.there (Has.there (Has.here)) | exact Has.there (Has.there (Has.there (Has.here))) | exact Has.there (Has.there (Has.there (Has.there (Has.here)))) | exact Has.there (Has.there (Has.there (Has.there (Has.there (Has.here))))) | exact Has.there (Has.there (Has.there (Has.there (Has.there (Has.there (Has.here)))))) | exact Has.there (Has.there (Has.there (Has.there (Has.there (Has.there (Has.there (Has.here)))))))) rfl) hS ?_)
    first | (refine wl_op rfl rfl (ow_vr (vr_len_sl Tryz.underlying57 rfl) ?_)) | (refine wl_op rfl rfl (ow_vr (vr_len_v (v := vw) Tryz.underlying57 rfl (by first | assumption | (refine Own.view ?_ (by assumption); exact fun _ => rfl) | exact OwnB.view (by assumption))) ?_))
    first | (refine wl_op rfl rfl (ow_vr (vr_subi rfl rfl (by unfold inI64; omega)) ?_)) | (refine wl_op rfl rfl (ow_vr (vr_sub rfl rfl) ?_))
    refine wl_op rfl rfl (ow_vr (vr_assign (v := .int .i64 _) rfl) ?_)
    refine wl_nil ?_
    refine hK7 _ _ ?_
    refine cw_block ?_
    refine cw_loop (fun m f w => ∃ (j : Int) (g : Nat → Value), f = (upd (upd (upd g 0 (ptr p)) 1 (.int .i64 k)) 7 (.int .i64 j)) ∧ (-1 ≤ j ∧ j + 1 ≤ d.waits.length ∧ lastW (d.waits.take (j + 1).toNat) k = lastW d.waits k) ∧ m = (j + 1).toNat ∧ Sat E ([(p, .cells (dskC d r vw vk).toArray 59 (0, 0))] :: Dm :: Dw :: Dk :: F) w) ⟨_, _, (reb (reb (reb rfl rfl) rfl) rfl), ?_, rfl, hS⟩ ?_
    · exact ⟨by omega, by omega, by rw [show ((d.waits.length : Int) - 1 + 1).toNat = d.waits.length by omega, List.take_length]⟩
    clear hS; rintro m f w ⟨j, g, rfl, hI0, rfl, hS⟩
    obtain ⟨hj0, hj1, hl⟩ := hI0
    refine cw_seq fun K8 hK8 => ?_
    refine cw_seq fun K9 hK9 => ?_
    refine cw_region ?_
    refine wl_op rfl rfl (ow_vr (vr_move (v := .int .i64 j) rfl) ?_)
    refine wl_op rfl rfl (ow_vr (vr_geq rfl rfl) ?_)
    refine wl_nil ?_
    refine hK9 _ _ ?_
    refine cw_cond rfl rfl (fun hc => ?_) (fun hc => ?_)
    · (try simp only [decide_eq_true_eq, decide_eq_false_iff_not, Bool.not_eq_true, Bool.not_eq_false, Bool.not_eq_true', Bool.not_eq_false', Bool.and_eq_true, Bool.or_eq_true, Bool.and_eq_false_iff, Bool.or_eq_false_iff, Int.not_lt, Int.not_le, gt_iff_lt, ge_iff_le, ne_eq, Decidable.not_not, beq_iff_eq] at hc)
      have hc1 := hc; clear hc
      refine cw_skip ?_
      refine hK8 _ _ ?_
      refine cw_seq fun K10 hK10 => ?_
      refine cw_block ?_
      refine cw_seq fun K11 hK11 => ?_
      obtain ⟨x, hx⟩ := get_lt (xs := d.waits) (k := j.toNat) (by omega)
      refine cw_region ?_
      refine wl_op rfl rfl (ow_vr (vr_move (v := (ptr p)) rfl) ?_)
      refine wl_op rfl rfl (ow_vr (vr_nilCheck rfl) ?_)
      first | (refine wl_op rfl rfl (ow_vr (vr_fieldAddr fo_59_1 rfl) ?_)) | (refine wl_op rfl rfl (ow_vr (vr_fieldAddrV fo_59_1 rfl (by first | assumption | (refine Own.view ?_ (by assumption); exact fun _ => rfl) | exact OwnB.view (by assumption)) (by first | omega | (simp <;> omega))) ?_))
      refine wl_op rfl rfl (ow_lr (S := Sat _ _) (lr_load1 Tryz.underlying57 rfl rfl (by first | exact Has.here | exact Has.there (Has.here) | exact Has.there (Has.there (Has.here)) | exact Has.there (Has.there (Has.there (Has.here))) | exact Has.there (Has.there (Has.there (Has.there (Has.here)))) | exact Has.there (Has.there (Has.there (Has.there (Has.there (Has.here))))) | exact Has.there (Has.there (Has.there (Has.there (Has.there (Has.there (Has.here)))))) | exact Has.there (Has.there (Has.there (Has.there (Has.there (Has.there (Has.there (Has.here)))))))) rfl) hS ?_)
      refine wl_op rfl rfl (ow_vr (vr_move (v := .int .i64 j) rfl) ?_)
      first | (refine wl_op rfl rfl (ow_vr (vr_indexAddr Tryz.underlying57 sz_81 rfl rfl (by omega) (by omega)) ?_)) | (refine wl_op rfl rfl (ow_vr (vr_indexV (v := vw) Tryz.underlying57 sz_81 rfl (by first | assumption | (refine Own.view ?_ (by assumption); exact fun _ => rfl) | exact OwnB.view (by assumption)) rfl (by omega) (by first | omega | (simp <;> omega))) ?_))
      first | (refine wl_op rfl rfl (ow_vr (vr_fieldAddr fo_81_0 rfl) ?_)) | (refine wl_op rfl rfl (ow_vr (vr_fieldAddrV fo_81_0 rfl (by first | assumption | (refine Own.view ?_ (by assumption); exact fun _ => rfl) | exact OwnB.view (by assumption)) (by first | omega | (simp <;> omega))) ?_))
      refine wl_op rfl rfl (ow_lr (S := Sat _ _) (lr_loadV1 (u := .int .i64 _) Tryz.underlying3 rfl rfl (by first | assumption | (refine Own.view ?_ (by assumption); exact fun _ => rfl) | exact OwnB.view (by assumption)) (by repeat (first | exact List.mem_cons_self | assumption | refine List.mem_cons_of_mem _ ?_)) (hx) (by exact fun _ => rfl) (by rfl)) hS ?_)
      refine wl_op rfl rfl (ow_vr (vr_move (v := .int .i64 k) rfl) ?_)
      refine wl_op rfl rfl (ow_vr (vr_eql rfl rfl) ?_)
      refine wl_nil ?_
      refine hK11 _ _ ?_
      refine cw_cond rfl rfl (fun hc => ?_) (fun hc => ?_)
      · (try simp only [decide_eq_true_eq, decide_eq_false_iff_not, Bool.not_eq_true, Bool.not_eq_false, Bool.not_eq_true', Bool.not_eq_false', Bool.and_eq_true, Bool.or_eq_true, Bool.and_eq_false_iff, Bool.or_eq_false_iff, Int.not_lt, Int.not_le, gt_iff_lt, ge_iff_le, ne_eq, Decidable.not_not, beq_iff_eq] at hc)
        have hc2 := hc; clear hc
        refine cw_seq fun K12 hK12 => ?_
        have hr : readD d k = x.2 := by rw [readD, ← hl, show (j + 1).toNat = j.toNat + 1 by omega, take_snoc hx, lastW_snoc, if_pos (by simpa using hc2)]; rfl
        refine cw_region ?_
        refine wl_op rfl rfl (ow_vr (vr_move (v := (ptr p)) rfl) ?_)
        refine wl_op rfl rfl (ow_vr (vr_nilCheck rfl) ?_)
        first | (refine wl_op rfl rfl (ow_vr (vr_fieldAddr fo_59_1 rfl) ?_)) | (refine wl_op rfl rfl (ow_vr (vr_fieldAddrV fo_59_1 rfl (by first | assumption | (refine Own.view ?_ (by assumption); exact fun _ => rfl) | exact OwnB.view (by assumption)) (by first | omega | (simp <;> omega))) ?_))
        refine wl_op rfl rfl (ow_lr (S := Sat _ _) (lr_load1 Tryz.underlying57 rfl rfl (by first | exact Has.here | exact Has.there (Has.here) | exact Has.there (Has.there (Has.here)) | exact Has.there (Has.there (Has.there (Has.here))) | exact Has.there (Has.there (Has.there (Has.there (Has.here)))) | exact Has.there (Has.there (Has.there (Has.there (Has.there (Has.here))))) | exact Has.there (Has.there (Has.there (Has.there (Has.there (Has.there (Has.here)))))) | exact Has.there (Has.there (Has.there (Has.there (Has.there (Has.there (Has.there (Has.here)))))))) rfl) hS ?_)
        refine wl_op rfl rfl (ow_vr (vr_move (v := .int .i64 j) rfl) ?_)
        first | (refine wl_op rfl rfl (ow_vr (vr_indexAddr Tryz.underlying57 sz_81 rfl rfl (by omega) (by omega)) ?_)) | (refine wl_op rfl rfl (ow_vr (vr_indexV (v := vw) Tryz.underlying57 sz_81 rfl (by first | assumption | (refine Own.view ?_ (by assumption); exact fun _ => rfl) | exact OwnB.view (by assumption)) rfl (by omega) (by first | omega | (simp <;> omega))) ?_))
        first | (refine wl_op rfl rfl (ow_vr (vr_fieldAddr fo_81_1 rfl) ?_)) | (refine wl_op rfl rfl (ow_vr (vr_fieldAddrV fo_81_1 rfl (by first | assumption | (refine Own.view ?_ (by assumption); exact fun _ => rfl) | exact OwnB.view (by assumption)) (by first | omega | (simp <;> omega))) ?_))
        refine wl_op rfl rfl (ow_lr (S := Sat _ _) (lr_loadV1 (u := str _) Tryz.underlying9 rfl rfl (by first | assumption | (refine Own.view ?_ (by assumption); exact fun _ => rfl) | exact OwnB.view (by assumption)) (by repeat (first | exact List.mem_cons_self | assumption | refine List.mem_cons_of_mem _ ?_)) (hx) (by exact fun _ => rfl) (by rfl)) hS ?_)
        refine wl_op rfl rfl (ow_vr (vr_assign (v := str _) rfl) ?_)
        refine wl_op rfl rfl (ow_vr (vr_assign (v := .int .i64 0) rfl) ?_)
        refine wl_nil ?_
        refine hK12 _ _ ?_
        refine cw_ret ?_
        refine inB_ret (thenF_ret (thenF_ret (inB_ret (thenF_ret (?_)))))
        refine ret_two (fn := Tryz.f29) (n := 56) (t := 4) (u := 5) (.inl rfl) rfl rfl rfl ?_
        exact ⟨[_], ⟨(show Value.tuple #[str x.2, .int .i64 0] = _ by rw [hc, if_pos rfl, hr]), rfl⟩, Sat.opn4.2 hS⟩
      · (try simp only [decide_eq_true_eq, decide_eq_false_iff_not, Bool.not_eq_true, Bool.not_eq_false, Bool.not_eq_true', Bool.not_eq_false', Bool.and_eq_true, Bool.or_eq_true, Bool.and_eq_false_iff, Bool.or_eq_false_iff, Int.not_lt, Int.not_le, gt_iff_lt, ge_iff_le, ne_eq, Decidable.not_not, beq_iff_eq] at hc)
        have hc2 := hc; clear hc
        refine cw_skip ?_
        refine hK10 _ _ ?_
        refine cw_region ?_
        refine wl_op rfl rfl (ow_vr (vr_move (v := .int .i64 j) rfl) ?_)
        first | (refine wl_op rfl rfl (ow_vr (vr_subi rfl rfl (by unfold inI64; omega)) ?_)) | (refine wl_op rfl rfl (ow_vr (vr_sub rfl rfl) ?_))
        refine wl_op rfl rfl (ow_vr (vr_assign (v := .int .i64 _) rfl) ?_)
        refine wl_nil ?_
        refine thenF_normal ⟨_, ?_, j - 1, _, (reb (reb (reb rfl rfl) rfl) rfl), ?_, rfl, hS⟩
        · omega
        · refine ⟨by omega, by omega, ?_⟩; rw [show (j - 1 + 1).toNat = j.toNat by omega, ← hl, show (j + 1).toNat = j.toNat + 1 by omega, take_snoc hx, lastW_snoc, if_neg (by simpa using hc2)]
    · (try simp only [decide_eq_true_eq, decide_eq_false_iff_not, Bool.not_eq_true, Bool.not_eq_false, Bool.not_eq_true', Bool.not_eq_false', Bool.and_eq_true, Bool.or_eq_true, Bool.and_eq_false_iff, Bool.or_eq_false_iff, Int.not_lt, Int.not_le, gt_iff_lt, ge_iff_le, ne_eq, Decidable.not_not, beq_iff_eq] at hc)
      have hc1 := hc; clear hc
      refine cw_exit ?_
      refine hK6 _ _ ?_
      refine cw_seq fun K13 hK13 => ?_
      refine cw_seq fun K14 hK14 => ?_
      have hr : readD d k = (d.lasts k).getD zeros32 := by rw [readD, ← hl, show (j + 1).toNat = 0 by omega, List.take_zero]; rfl
      refine cw_region ?_
      refine wl_op rfl rfl (ow_vr (vr_move (v := (ptr p)) rfl) ?_)
      refine wl_op rfl rfl (ow_vr (vr_nilCheck rfl) ?_)
      first | (refine wl_op rfl rfl (ow_vr (vr_fieldAddr fo_59_0 rfl) ?_)) | (refine wl_op rfl rfl (ow_vr (vr_fieldAddrV fo_59_0 rfl (by first | assumption | (refine Own.view ?_ (by assumption); exact fun _ => rfl) | exact OwnB.view (by assumption)) (by first | omega | (simp <;> omega))) ?_))
      refine wl_op rfl rfl (ow_lr (S := Sat _ _) (lr_load1 Tryz.underlying56 rfl rfl (by first | exact Has.here | exact Has.there (Has.here) | exact Has.there (Has.there (Has.here)) | exact Has.there (Has.there (Has.there (Has.here))) | exact Has.there (Has.there (Has.there (Has.there (Has.here)))) | exact Has.there (Has.there (Has.there (Has.there (Has.there (Has.here))))) | exact Has.there (Has.there (Has.there (Has.there (Has.there (Has.there (Has.here)))))) | exact Has.there (Has.there (Has.there (Has.there (Has.there (Has.there (Has.there (Has.here)))))))) rfl) hS ?_)
      refine wl_op rfl rfl (ow_vr (vr_move (v := .int .i64 k) rfl) ?_)
      refine wl_op rfl rfl (ow_lr (S := Sat _ _) (lr_lookup2 (val := str) (z := []) Tryz.underlying56 Tryz.underlying3 zr_9 rfl rfl (by assumption) (by repeat (first | exact List.mem_cons_self | assumption | refine List.mem_cons_of_mem _ ?_))) hS ?_)
      refine wl_op rfl rfl (ow_vr (vr_move (v := .tuple _) rfl) ?_)
      refine wl_op rfl rfl (ow_vr (vr_extract (v := str _) rfl rfl) ?_)
      refine wl_op rfl rfl (ow_vr (vr_extract (v := .bool _) rfl rfl) ?_)
      refine wl_op rfl rfl (ow_vr (vr_assign (v := str _) rfl) ?_)
      refine wl_op rfl rfl (ow_vr (vr_assign (v := .bool _) rfl) ?_)
      refine wl_nil ?_
      refine hK14 _ _ ?_
      refine cw_seq fun K15 hK15 => ?_
      refine cw_region ?_
      refine wl_op rfl rfl (ow_vr (vr_move (v := .bool _) rfl) ?_)
      refine wl_nil ?_
      refine hK15 _ _ ?_
      refine cw_cond rfl rfl (fun hc => ?_) (fun hc => ?_)
      · (try simp only [decide_eq_true_eq, decide_eq_false_iff_not, Bool.not_eq_true, Bool.not_eq_false, Bool.not_eq_true', Bool.not_eq_false', Bool.and_eq_true, Bool.or_eq_true, Bool.and_eq_false_iff, Bool.or_eq_false_iff, Int.not_lt, Int.not_le, gt_iff_lt, ge_iff_le, ne_eq, Decidable.not_not, beq_iff_eq] at hc)
        have his := hc; clear hc
        refine cw_seq fun K16 hK16 => ?_
        refine cw_region ?_
        refine wl_op rfl rfl (ow_vr (vr_move (v := str _) rfl) ?_)
        refine wl_op rfl rfl (ow_vr (vr_assign (v := str _) rfl) ?_)
        refine wl_op rfl rfl (ow_vr (vr_assign (v := .int .i64 0) rfl) ?_)
        refine wl_nil ?_
        refine hK16 _ _ ?_
        refine cw_ret ?_
        refine thenF_ret (?_)
        refine ret_two (fn := Tryz.f29) (n := 56) (t := 4) (u := 5) (.inl rfl) rfl rfl rfl ?_
        exact ⟨[_], ⟨(show Value.tuple #[str ((d.lasts k).getD []), .int .i64 0] = _ by rw [hc, if_pos rfl, hr]; cases hq : d.lasts k <;> simp_all), rfl⟩, Sat.opn4.2 hS⟩
      · (try simp only [decide_eq_true_eq, decide_eq_false_iff_not, Bool.not_eq_true, Bool.not_eq_false, Bool.not_eq_true', Bool.not_eq_false', Bool.and_eq_true, Bool.or_eq_true, Bool.and_eq_false_iff, Bool.or_eq_false_iff, Int.not_lt, Int.not_le, gt_iff_lt, ge_iff_le, ne_eq, Decidable.not_not, beq_iff_eq] at hc)
        have his := hc; clear hc
        refine cw_skip ?_
        refine hK13 _ _ ?_
        refine cw_seq fun K17 hK17 => ?_
        refine cw_region ?_
        refine wl_op rfl rfl (ow_fn (vs := [str _, .int .i64 _]) en_66 rfl hS (strings_Repeat 0 32 (by omega)) ?_)
        clear hS; rintro v55 _ w ⟨rfl, rfl⟩ hS; (try simp only [List.cons_append, List.nil_append] at hS)
        refine wl_op rfl rfl (ow_vr (vr_assign (v := str _) rfl) ?_)
        refine wl_op rfl rfl (ow_vr (vr_assign (v := .int .i64 0) rfl) ?_)
        refine wl_nil ?_
        refine hK17 _ _ ?_
        refine cw_ret ?_
        refine ret_two (fn := Tryz.f29) (n := 56) (t := 4) (u := 5) (.inl rfl) rfl rfl rfl ?_
        exact ⟨[_], ⟨(show Value.tuple #[str zeros32, .int .i64 0] = _ by rw [hc, if_pos rfl, hr]; cases hq : d.lasts k <;> simp_all), rfl⟩, Sat.opn4.2 hS⟩
theorem done_waits (d : Dsk) : (doneD d).2.waits.length ≤ d.waits.length := by
  rw [doneD]; split
  · simp [crashD]
  · rw [(falls_waits d).1]; omega
theorem disk_Barrier (hd : DiskAt p d Δ) (hks : d.keep.length ≤ 1000000) (hwl : d.waits.length ≤ 1000000) :
    Fn Tryz.prog 63 [ptr p] [Δ] (fun v Δs => v = .int .i64 (barrierD d).1 ∧ ∃ Δ', Δs = [Δ'] ∧ DiskAt p (barrierD d).2 Δ') := by
  refine Fn.mk fun E F w hS => ?_
  obtain ⟨r, vw, vk, Dm, Dw, Dk, rfl, hm, hw, hk⟩ := hd
  replace hS := Sat.opn4.1 hS
  have hdw := done_waits d
  refine returns_enter Tryz.func63 rfl Tryz.ntmps63 rfl ?_
  refine cw_seq fun K1 hK1 => ?_
  refine cw_region ?_
  refine wl_op rfl rfl (ow_vr (vr_assign (v := .int .i64 0) rfl) ?_)
  refine wl_nil ?_
  refine hK1 _ _ ?_
  refine cw_seq fun K2 hK2 => ?_
  refine cw_block ?_
  refine cw_seq fun K3 hK3 => ?_
  refine cw_region ?_
  refine wl_op rfl rfl (ow_vr (vr_move (v := .pointer _) rfl) ?_)
  refine wl_op rfl rfl (ow_vr (vr_eqnil Tryz.underlying24 rfl) ?_)
  refine wl_op rfl rfl (ow_vr (vr_assign (v := .bool _) rfl) ?_)
  refine wl_nil ?_
  refine hK3 _ _ ?_
  refine cw_cond_f rfl rfl (rfl) ?_
  refine cw_seq fun K4 hK4 => ?_
  refine cw_region ?_
  refine wl_op rfl rfl (ow_vr (vr_move (v := .pointer _) rfl) ?_)
  refine wl_op rfl rfl (ow_vr (vr_nilCheck rfl) ?_)
  first | (refine wl_op rfl rfl (ow_vr (vr_fieldAddr fo_59_3 rfl) ?_)) | (refine wl_op rfl rfl (ow_vr (vr_fieldAddrV fo_59_3 rfl (by first | assumption | (refine Own.view ?_ (by assumption); exact fun _ => rfl) | exact OwnB.view (by assumption)) (by first | omega | (simp <;> omega))) ?_))
  refine wl_op rfl rfl (ow_lr (S := Sat _ _) (lr_load1 Tryz.underlying4 rfl rfl (by first | exact Has.here | exact Has.there (Has.here) | exact Has.there (Has.there (Has.here)) | exact Has.there (Has.there (Has.there (Has.here))) | exact Has.there (Has.there (Has.there (Has.there (Has.here)))) | exact Has.there (Has.there (Has.there (Has.there (Has.there (Has.here))))) | exact Has.there (Has.there (Has.there (Has.there (Has.there (Has.there (Has.here)))))) | exact Has.there (Has.there (Has.there (Has.there (Has.there (Has.there (Has.there (Has.here)))))))) rfl) hS ?_)
  refine wl_op rfl rfl (ow_vr (vr_assign (v := .bool _) rfl) ?_)
  refine wl_nil ?_
  refine hK4 _ _ ?_
  refine cw_cond rfl rfl (fun hc => ?_) (fun hc => ?_)
  · (try simp only [decide_eq_true_eq, decide_eq_false_iff_not, Bool.not_eq_true, Bool.not_eq_false, Bool.not_eq_true', Bool.not_eq_false', Bool.and_eq_true, Bool.or_eq_true, Bool.and_eq_false_iff, Bool.or_eq_false_iff, Int.not_lt, Int.not_le, gt_iff_lt, ge_iff_le, ne_eq, Decidable.not_not, beq_iff_eq] at hc)
    have hoff := hc; clear hc
    refine cw_seq fun K5 hK5 => ?_
    have he : barrierD d = (3, d) := by rw [barrierD, if_pos hoff]
    refine cw_region ?_
    refine wl_op rfl rfl (ow_vr (vr_assign (v := .int .i64 3) rfl) ?_)
    refine wl_nil ?_
    refine hK5 _ _ ?_
    refine cw_ret ?_
    refine inB_ret (thenF_ret (?_))
    refine ret_one (fn := Tryz.f63) (n := 40) (t := 2) (.inl rfl) rfl rfl ?_
    exact ⟨[_], ⟨by rw [he] <;> rfl, _, rfl, by rw [he]; exact DiskAt.mk hm hw hk⟩, Sat.opn4.2 hS⟩
  · (try simp only [decide_eq_true_eq, decide_eq_false_iff_not, Bool.not_eq_true, Bool.not_eq_false, Bool.not_eq_true', Bool.not_eq_false', Bool.and_eq_true, Bool.or_eq_true, Bool.and_eq_false_iff, Bool.or_eq_false_iff, Int.not_lt, Int.not_le, gt_iff_lt, ge_iff_le, ne_eq, Decidable.not_not, beq_iff_eq] at hc)
    have hoff := hc; clear hc
    refine cw_skip ?_
    refine hK2 _ _ ?_
    refine cw_seq fun K6 hK6 => ?_
    replace hS := Sat.opn4.2 hS
    have hd := DiskAt.mk (p := p) (d := d) hm hw hk
    clear hm hw hk
    refine cw_region ?_
    refine wl_op rfl rfl (ow_vr (vr_move (v := .pointer _) rfl) ?_)
    refine wl_op rfl rfl (ow_fn (vs := [.pointer _]) en_85 rfl hS (disk_done hd hks hwl) ?_)
    clear hS; rintro v15 _ w ⟨rfl, Δ1, rfl, hd1⟩ hS; (try simp only [List.cons_append, List.nil_append] at hS)
    refine wl_op rfl rfl (ow_vr (vr_assign (v := .int .i64 _) rfl) ?_)
    refine wl_nil ?_
    refine hK6 _ _ ?_
    refine cw_seq fun K7 hK7 => ?_
    refine cw_seq fun K8 hK8 => ?_
    refine cw_region ?_
    refine wl_op rfl rfl (ow_vr (vr_move (v := .int .i64 _) rfl) ?_)
    refine wl_op rfl rfl (ow_vr (vr_eql rfl rfl) ?_)
    refine wl_nil ?_
    refine hK8 _ _ ?_
    refine cw_cond rfl rfl (fun hc => ?_) (fun hc => ?_)
    · (try simp only [decide_eq_true_eq, decide_eq_false_iff_not, Bool.not_eq_true, Bool.not_eq_false, Bool.not_eq_true', Bool.not_eq_false', Bool.and_eq_true, Bool.or_eq_true, Bool.and_eq_false_iff, Bool.or_eq_false_iff, Int.not_lt, Int.not_le, gt_iff_lt, ge_iff_le, ne_eq, Decidable.not_not, beq_iff_eq] at hc)
      have hc := hc; clear hc
      refine cw_seq fun K9 hK9 => ?_
      refine cw_seq fun K10 hK10 => ?_
      have he : barrierD d = (0, { (doneD d).2 with lasts := barM (doneD d).2.lasts (doneD d).2.waits, waits := [] }) := by rw [barrierD, if_neg (by simp [hoff]), if_pos hc]
      generalize hd2 : (doneD d).2 = d2 at hd1 he hdw
      obtain ⟨r, vw, vk, Dm, Dw, Dk, rfl, hm, hw, hk⟩ := hd1
      replace hS := Sat.opn4.1 hS
      refine cw_region ?_
      refine wl_op rfl rfl (ow_vr (vr_move (v := .pointer _) rfl) ?_)
      refine wl_op rfl rfl (ow_vr (vr_nilCheck rfl) ?_)
      first | (refine wl_op rfl rfl (ow_vr (vr_fieldAddr fo_59_1 rfl) ?_)) | (refine wl_op rfl rfl (ow_vr (vr_fieldAddrV fo_59_1 rfl (by first | assumption | (refine Own.view ?_ (by assumption); exact fun _ => rfl) | exact OwnB.view (by assumption)) (by first | omega | (simp <;> omega))) ?_))
      refine wl_op rfl rfl (ow_lr (S := Sat _ _) (lr_load1 Tryz.underlying57 rfl rfl (by first | exact Has.here | exact Has.there (Has.here) | exact Has.there (Has.there (Has.here)) | exact Has.there (Has.there (Has.there (Has.here))) | exact Has.there (Has.there (Has.there (Has.there (Has.here)))) | exact Has.there (Has.there (Has.there (Has.there (Has.there (Has.here))))) | exact Has.there (Has.there (Has.there (Has.there (Has.there (Has.there (Has.here)))))) | exact Has.there (Has.there (Has.there (Has.there (Has.there (Has.there (Has.there (Has.here)))))))) rfl) hS ?_)
      first | (refine wl_op rfl rfl (ow_vr (vr_len_sl Tryz.underlying57 rfl) ?_)) | (refine wl_op rfl rfl (ow_vr (vr_len_v (v := vw) Tryz.underlying57 rfl (by first | assumption | (refine Own.view ?_ (by assumption); exact fun _ => rfl) | exact OwnB.view (by assumption))) ?_))
      refine wl_op rfl rfl (ow_vr (vr_move (v := .int .i64 0) rfl) ?_)
      refine wl_nil ?_
      refine hK10 _ _ ?_
      refine cw_block ?_
      refine cw_loop (fun m f w => ∃ (k : Nat) (mp : Int → Option (List UInt8)) (Dm : Chunk) (g : Nat → Value), f = (upd (upd (upd (upd (upd g 0 (ptr p)) 3 (.int .i64 (doneD d).1)) 21 (vw)) 22 (.int .i64 (d2.waits.length : Int))) 23 (.int .i64 (k : Int))) ∧ (k ≤ d2.waits.length ∧ barM mp (d2.waits.drop k) = barM d2.lasts d2.waits ∧ MapAt str r mp Dm) ∧ m = d2.waits.length - k ∧ Sat E ([(p, .cells (dskC d2 r vw vk).toArray 59 (0, 0))] :: Dm :: Dw :: Dk :: F) w) ⟨0, d2.lasts, Dm, _, (reb (reb (reb (reb (reb rfl rfl) rfl) rfl) rfl) rfl), ?_, rfl, hS⟩ ?_
      · exact ⟨by omega, rfl, hm⟩
      clear hS; rintro m f w ⟨k, mp, Dm, g, rfl, hI0, rfl, hS⟩
      obtain ⟨hkl, hM, hm⟩ := hI0
      refine cw_seq fun K11 hK11 => ?_
      refine cw_region ?_
      refine wl_op rfl rfl (ow_vr (vr_lss rfl rfl) ?_)
      refine wl_nil ?_
      refine hK11 _ _ ?_
      refine cw_seq fun K12 hK12 => ?_
      refine cw_cond rfl rfl (fun hc => ?_) (fun hc => ?_)
      · (try simp only [decide_eq_true_eq, decide_eq_false_iff_not, Bool.not_eq_true, Bool.not_eq_false, Bool.not_eq_true', Bool.not_eq_false', Bool.and_eq_true, Bool.or_eq_true, Bool.and_eq_false_iff, Bool.or_eq_false_iff, Int.not_lt, Int.not_le, gt_iff_lt, ge_iff_le, ne_eq, Decidable.not_not, beq_iff_eq] at hc)
        have hc3 := hc; clear hc
        refine cw_skip ?_
        refine hK12 _ _ ?_
        refine cw_seq fun K13 hK13 => ?_
        refine cw_block ?_
        refine cw_seq fun K14 hK14 => ?_
        obtain ⟨x, hx⟩ := get_lt (xs := d2.waits) (k := k) (by omega)
        rw [drop_cons hx, barM] at hM
        refine cw_region ?_
        first | (refine wl_op rfl rfl (ow_vr (vr_indexAddr Tryz.underlying57 sz_81 rfl rfl (by omega) (by omega)) ?_)) | (refine wl_op rfl rfl (ow_vr (vr_indexV (v := vw) Tryz.underlying57 sz_81 rfl (by first | assumption | (refine Own.view ?_ (by assumption); exact fun _ => rfl) | exact OwnB.view (by assumption)) rfl (by omega) (by first | omega | (simp <;> omega))) ?_))
        refine wl_op rfl rfl (ow_lr (S := Sat _ _) (lr_loadVA (cs := [.int .i64 _, str _]) Tryz.underlying81 rfl sz_81 rfl (by first | assumption | (refine Own.view ?_ (by assumption); exact fun _ => rfl) | exact OwnB.view (by assumption)) (by repeat (first | exact List.mem_cons_self | assumption | refine List.mem_cons_of_mem _ ?_)) (hx) (by exact fun _ => rfl) (by rfl)) hS ?_)
        refine wl_op rfl rfl (ow_alloc (cs := [_, _]) hS zr_81 rfl ?_)
        clear hS; intro b5 w hS
        refine wl_op rfl rfl (ow_storeA (vs := [.int .i64 _, str _]) hS sz_81 rfl rfl rfl (by first | rfl | (simp only [List.all_cons, List.all_nil, Bool.and_true, Bool.and_eq_true]; repeat (first | refine ⟨by first | rfl | assumption, ?_⟩ | rfl | assumption))) (by first | exact Has.here | exact Has.there (Has.here) | exact Has.there (Has.there (Has.here)) | exact Has.there (Has.there (Has.there (Has.here))) | exact Has.there (Has.there (Has.there (Has.there (Has.here)))) | exact Has.there (Has.there (Has.there (Has.there (Has.there (Has.here))))) | exact Has.there (Has.there (Has.there (Has.there (Has.there (Has.there (Has.here)))))) | exact Has.there (Has.there (Has.there (Has.there (Has.there (Has.there (Has.there (Has.here)))))))) (by simp) ?_)
        clear hS; intro w hS; try simp only [putAt, List.set_cons_zero, List.set_cons_succ] at hS
        refine wl_nil ?_
        refine hK14 _ _ ?_
        refine cw_draw_sat hS [(0, 0), (1, 0), (2, 0), (3, 1), (4, 0), (5, 1), (6, 0), (7, 1), (8, 3)] mixed (planFast_ok (by kernel_rfl)) (by rintro _ _ _ ⟨⟩) ?_
        clear hS; intro w hS
        refine pl_take rfl (yes_none rfl) (vr_move (v := (ptr p)) rfl) ?_
        refine pl_take rfl (yes_none rfl) (vr_nilCheck rfl) ?_
        first | (refine pl_take rfl (yes_none rfl) (vr_fieldAddr fo_59_0 rfl) ?_) | (refine pl_take rfl (yes_none rfl) (vr_fieldAddrV fo_59_0 rfl (by first | assumption | (refine Own.view ?_ (by assumption); exact fun _ => rfl) | exact OwnB.view (by assumption)) (by first | omega | (simp <;> omega))) ?_)
        refine pl_load rfl (yes_none rfl) (lr_load1 Tryz.underlying56 rfl rfl (by first | exact Has.here | exact Has.there (Has.here) | exact Has.there (Has.there (Has.here)) | exact Has.there (Has.there (Has.there (Has.here))) | exact Has.there (Has.there (Has.there (Has.there (Has.here)))) | exact Has.there (Has.there (Has.there (Has.there (Has.there (Has.here))))) | exact Has.there (Has.there (Has.there (Has.there (Has.there (Has.there (Has.here)))))) | exact Has.there (Has.there (Has.there (Has.there (Has.there (Has.there (Has.there (Has.here)))))))) rfl) ?_
        first | (refine pl_take rfl (yes_none rfl) (vr_fieldAddr fo_81_0 rfl) ?_) | (refine pl_take rfl (yes_none rfl) (vr_fieldAddrV fo_81_0 rfl (by first | assumption | (refine Own.view ?_ (by assumption); exact fun _ => rfl) | exact OwnB.view (by assumption)) (by first | omega | (simp <;> omega))) ?_)
        refine pl_load rfl (yes_none rfl) (lr_load1 Tryz.underlying3 rfl rfl (by first | exact Has.here | exact Has.there (Has.here) | exact Has.there (Has.there (Has.here)) | exact Has.there (Has.there (Has.there (Has.here))) | exact Has.there (Has.there (Has.there (Has.there (Has.here)))) | exact Has.there (Has.there (Has.there (Has.there (Has.there (Has.here))))) | exact Has.there (Has.there (Has.there (Has.there (Has.there (Has.there (Has.here)))))) | exact Has.there (Has.there (Has.there (Has.there (Has.there (Has.there (Has.there (Has.here)))))))) rfl) ?_
        first | (refine pl_take rfl (yes_none rfl) (vr_fieldAddr fo_81_1 rfl) ?_) | (refine pl_take rfl (yes_none rfl) (vr_fieldAddrV fo_81_1 rfl (by first | assumption | (refine Own.view ?_ (by assumption); exact fun _ => rfl) | exact OwnB.view (by assumption)) (by first | omega | (simp <;> omega))) ?_)
        refine pl_load rfl (yes_none rfl) (lr_load1 Tryz.underlying9 rfl rfl (by first | exact Has.here | exact Has.there (Has.here) | exact Has.there (Has.there (Has.here)) | exact Has.there (Has.there (Has.there (Has.here))) | exact Has.there (Has.there (Has.there (Has.there (Has.here)))) | exact Has.there (Has.there (Has.there (Has.there (Has.there (Has.here))))) | exact Has.there (Has.there (Has.there (Has.there (Has.there (Has.there (Has.here)))))) | exact Has.there (Has.there (Has.there (Has.there (Has.there (Has.there (Has.there (Has.here)))))))) rfl) ?_
        refine pl_end hS rfl (yes_none rfl) ?_
        clear hS; intro w hS
        refine (ow_mapUpdate (val := str) hS Tryz.underlying56 Tryz.underlying3 rfl rfl rfl (by assumption) (by first | exact HasC.here | exact HasC.there (HasC.here) | exact HasC.there (HasC.there (HasC.here)) | exact HasC.there (HasC.there (HasC.there (HasC.here))) | exact HasC.there (HasC.there (HasC.there (HasC.there (HasC.here)))) | exact HasC.there (HasC.there (HasC.there (HasC.there (HasC.there (HasC.here))))) | exact HasC.there (HasC.there (HasC.there (HasC.there (HasC.there (HasC.there (HasC.here)))))) | exact HasC.there (HasC.there (HasC.there (HasC.there (HasC.there (HasC.there (HasC.there (HasC.here))))))) | exact HasC.there (HasC.there (HasC.there (HasC.there (HasC.there (HasC.there (HasC.there (HasC.there (HasC.here))))))))) ?_)
        clear hS; intro D10_8 w hm10_8 hS
        refine pl_nil hS ?_
        clear hS; intro w hS
        replace hS := hS.tail1
        refine hK13 _ _ ?_
        refine cw_region ?_
        first | (refine wl_op rfl rfl (ow_vr (vr_addi rfl rfl (by unfold inI64; omega)) ?_)) | (refine wl_op rfl rfl (ow_vr (vr_add rfl rfl) ?_))
        refine wl_op rfl rfl (ow_vr (vr_move (v := .int .i64 _) rfl) ?_)
        refine wl_nil ?_
        refine thenF_normal ⟨_, ?_, k + 1, setM mp x.1 x.2, D10_8, _, (reb (reb (reb (reb (reb rfl rfl) rfl) rfl) rfl) rfl), ?_, rfl, hS⟩
        · omega
        · exact ⟨by omega, hM, hm10_8⟩
      · (try simp only [decide_eq_true_eq, decide_eq_false_iff_not, Bool.not_eq_true, Bool.not_eq_false, Bool.not_eq_true', Bool.not_eq_false', Bool.and_eq_true, Bool.or_eq_true, Bool.and_eq_false_iff, Bool.or_eq_false_iff, Int.not_lt, Int.not_le, gt_iff_lt, ge_iff_le, ne_eq, Decidable.not_not, beq_iff_eq] at hc)
        have hc3 := hc; clear hc
        refine cw_exit ?_
        refine hK9 _ _ ?_
        rw [show k = d2.waits.length by omega, List.drop_length, barM] at hM
        refine cw_region ?_
        refine wl_op rfl rfl (ow_vr (vr_move (v := (ptr p)) rfl) ?_)
        refine wl_op rfl rfl (ow_vr (vr_nilCheck rfl) ?_)
        first | (refine wl_op rfl rfl (ow_vr (vr_fieldAddr fo_59_1 rfl) ?_)) | (refine wl_op rfl rfl (ow_vr (vr_fieldAddrV fo_59_1 rfl (by first | assumption | (refine Own.view ?_ (by assumption); exact fun _ => rfl) | exact OwnB.view (by assumption)) (by first | omega | (simp <;> omega))) ?_))
        refine wl_op rfl rfl (ow_store1 (v := .slice _ _ _) hS sz_57 rfl rfl (by first | rfl | exact Own.isOne (by assumption)) (by first | exact Has.here | exact Has.there (Has.here) | exact Has.there (Has.there (Has.here)) | exact Has.there (Has.there (Has.there (Has.here))) | exact Has.there (Has.there (Has.there (Has.there (Has.here)))) | exact Has.there (Has.there (Has.there (Has.there (Has.there (Has.here))))) | exact Has.there (Has.there (Has.there (Has.there (Has.there (Has.there (Has.here)))))) | exact Has.there (Has.there (Has.there (Has.there (Has.there (Has.there (Has.there (Has.here)))))))) (by simp) ?_)
        clear hS; intro w hS; try simp only [List.set_cons_zero, List.set_cons_succ] at hS
        refine wl_nil ?_
        replace hS := hS.front2.tail1
        refine hK7 _ _ ?_
        refine cw_seq fun K15 hK15 => ?_
        have he1 : barrierD d = (0, { d2 with lasts := mp, waits := [] }) := by rw [he, hM]
        refine cw_region ?_
        refine wl_op rfl rfl (ow_vr (vr_move (v := .int .i64 (doneD d).1) rfl) ?_)
        refine wl_op rfl rfl (ow_vr (vr_assign (v := .int .i64 (doneD d).1) rfl) ?_)
        refine wl_nil ?_
        refine hK15 _ _ ?_
        refine cw_ret ?_
        refine ret_one (fn := Tryz.f63) (n := 40) (t := 2) (.inl rfl) rfl rfl ?_
        exact ⟨[_], ⟨by rw [he1, hc] <;> rfl, _, rfl, by rw [he1]; exact DiskAt.mk (d := { d2 with lasts := mp, waits := [] }) (Dw := []) hm Own.nil hk⟩, Sat.opn4.2 (hS.perm (by simp))⟩
    · (try simp only [decide_eq_true_eq, decide_eq_false_iff_not, Bool.not_eq_true, Bool.not_eq_false, Bool.not_eq_true', Bool.not_eq_false', Bool.and_eq_true, Bool.or_eq_true, Bool.and_eq_false_iff, Bool.or_eq_false_iff, Int.not_lt, Int.not_le, gt_iff_lt, ge_iff_le, ne_eq, Decidable.not_not, beq_iff_eq] at hc)
      have hc := hc; clear hc
      refine cw_skip ?_
      refine hK7 _ _ ?_
      refine cw_seq fun K16 hK16 => ?_
      have he : barrierD d = doneD d := by rw [barrierD, if_neg (by simp [hoff]), if_neg hc]
      refine cw_region ?_
      refine wl_op rfl rfl (ow_vr (vr_move (v := .int .i64 _) rfl) ?_)
      refine wl_op rfl rfl (ow_vr (vr_assign (v := .int .i64 _) rfl) ?_)
      refine wl_nil ?_
      refine hK16 _ _ ?_
      refine cw_ret ?_
      refine ret_one (fn := Tryz.f63) (n := 40) (t := 2) (.inl rfl) rfl rfl ?_
      exact ⟨[Δ1], ⟨by rw [he] <;> rfl, _, rfl, by rw [he]; exact hd1⟩, hS⟩
def armD (d : Dsk) (n : Int) (ks : List Int) : Dsk := { d with armed := decide (n ≥ 0), left := n, keep := ks }
theorem disk_Arm (hd : DiskAt p d Δ) (n : Int) (v : Value) (ks : List Int) (Dv : Chunk) (hv : View 1 encI v ks Dv) (hks : ks.length ≤ 1000000) :
    FnM Tryz.prog 18 [ptr p, .int .i64 n, v] [Δ] [Dv] (fun _ Δs => ∃ Δ', Δs = [Δ'] ∧ DiskAt p (armD d n ks) Δ') := by
  refine FnM.mk fun E F w hS hn => ?_
  have hDv : Dv ∈ F := hn _ (by simp)
  obtain ⟨r, vw, vk, Dm, Dw, Dk, rfl, hm, hw, hk⟩ := hd
  replace hS := Sat.opn4.1 hS
  refine returns_enter Tryz.func18 rfl Tryz.ntmps18 rfl ?_
  refine cw_seq fun K1 hK1 => ?_
  refine cw_region ?_
  refine wl_op rfl rfl (ow_vr (vr_move (v := .pointer _) rfl) ?_)
  refine wl_op rfl rfl (ow_vr (vr_nenil Tryz.underlying24 rfl) ?_)
  refine wl_nil ?_
  refine hK1 _ _ ?_
  refine cw_cond_t rfl rfl (rfl) ?_
  refine cw_region ?_
  refine wl_op rfl rfl (ow_vr (vr_move (v := .pointer _) rfl) ?_)
  refine wl_op rfl rfl (ow_vr (vr_move (v := .pointer _) rfl) ?_)
  refine wl_op rfl rfl (ow_vr (vr_move (v := .pointer _) rfl) ?_)
  refine wl_op rfl rfl (ow_vr (vr_move (v := .int .i64 _) rfl) ?_)
  refine wl_op rfl rfl (ow_vr (vr_geq rfl rfl) ?_)
  refine wl_op rfl rfl (ow_vr (vr_move (v := .int .i64 _) rfl) ?_)
  refine wl_op rfl rfl (ow_vr (vr_move (v := v) rfl) ?_)
  refine wl_op rfl rfl (ow_fng (vs := [v]) en_32 rfl hS (clone_ints ks _ _ hv hks) (by repeat (first | exact needs0 | (refine needsC ?_ ?_; · (repeat (first | exact List.mem_cons_self | assumption | refine List.mem_cons_of_mem _ ?_))))) ?_)
  clear hS; rintro v15 _ w ⟨D15, rfl, ho15⟩ hS; (try simp only [List.cons_append, List.nil_append] at hS)
  refine wl_op rfl rfl (ow_vr (vr_nilCheck rfl) ?_)
  first | (refine wl_op rfl rfl (ow_vr (vr_fieldAddr fo_59_5 rfl) ?_)) | (refine wl_op rfl rfl (ow_vr (vr_fieldAddrV fo_59_5 rfl (by first | assumption | (refine Own.view ?_ (by assumption); exact fun _ => rfl) | exact OwnB.view (by assumption)) (by first | omega | (simp <;> omega))) ?_))
  refine wl_op rfl rfl (ow_store1 (v := .bool _) hS sz_4 rfl rfl (by first | rfl | exact Own.isOne (by assumption)) (by first | exact Has.here | exact Has.there (Has.here) | exact Has.there (Has.there (Has.here)) | exact Has.there (Has.there (Has.there (Has.here))) | exact Has.there (Has.there (Has.there (Has.there (Has.here)))) | exact Has.there (Has.there (Has.there (Has.there (Has.there (Has.here))))) | exact Has.there (Has.there (Has.there (Has.there (Has.there (Has.there (Has.here)))))) | exact Has.there (Has.there (Has.there (Has.there (Has.there (Has.there (Has.there (Has.here)))))))) (by simp) ?_)
  clear hS; intro w hS; try simp only [List.set_cons_zero, List.set_cons_succ] at hS
  refine wl_op rfl rfl (ow_vr (vr_nilCheck rfl) ?_)
  first | (refine wl_op rfl rfl (ow_vr (vr_fieldAddr fo_59_6 rfl) ?_)) | (refine wl_op rfl rfl (ow_vr (vr_fieldAddrV fo_59_6 rfl (by first | assumption | (refine Own.view ?_ (by assumption); exact fun _ => rfl) | exact OwnB.view (by assumption)) (by first | omega | (simp <;> omega))) ?_))
  refine wl_op rfl rfl (ow_store1 (v := .int .i64 _) hS sz_3 rfl rfl (by first | rfl | exact Own.isOne (by assumption)) (by first | exact Has.here | exact Has.there (Has.here) | exact Has.there (Has.there (Has.here)) | exact Has.there (Has.there (Has.there (Has.here))) | exact Has.there (Has.there (Has.there (Has.there (Has.here)))) | exact Has.there (Has.there (Has.there (Has.there (Has.there (Has.here))))) | exact Has.there (Has.there (Has.there (Has.there (Has.there (Has.there (Has.here)))))) | exact Has.there (Has.there (Has.there (Has.there (Has.there (Has.there (Has.there (Has.here)))))))) (by simp) ?_)
  clear hS; intro w hS; try simp only [List.set_cons_zero, List.set_cons_succ] at hS
  refine wl_op rfl rfl (ow_vr (vr_nilCheck rfl) ?_)
  first | (refine wl_op rfl rfl (ow_vr (vr_fieldAddr fo_59_7 rfl) ?_)) | (refine wl_op rfl rfl (ow_vr (vr_fieldAddrV fo_59_7 rfl (by first | assumption | (refine Own.view ?_ (by assumption); exact fun _ => rfl) | exact OwnB.view (by assumption)) (by first | omega | (simp <;> omega))) ?_))
  refine wl_op rfl rfl (ow_store1 (v := v15) hS sz_38 rfl rfl (by first | rfl | exact Own.isOne (by assumption)) (by first | exact Has.here | exact Has.there (Has.here) | exact Has.there (Has.there (Has.here)) | exact Has.there (Has.there (Has.there (Has.here))) | exact Has.there (Has.there (Has.there (Has.there (Has.here)))) | exact Has.there (Has.there (Has.there (Has.there (Has.there (Has.here))))) | exact Has.there (Has.there (Has.there (Has.there (Has.there (Has.there (Has.here)))))) | exact Has.there (Has.there (Has.there (Has.there (Has.there (Has.there (Has.there (Has.here)))))))) (by simp) ?_)
  clear hS; intro w hS; try simp only [List.set_cons_zero, List.set_cons_succ] at hS
  refine wl_nil ?_
  replace hS := hS.front4.tail1.back3
  refine ret_none (fn := Tryz.f18) (n := 22) (.inr rfl) rfl ?_
  exact ⟨[_], ⟨_, rfl, DiskAt.mk (d := armD d n ks) hm hw ho15⟩, Sat.opn4.2 hS⟩
end
end Go.Proofs.YtjcagoighpmdkaaGreatDoor
