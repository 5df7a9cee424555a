/- What package loop's log is, and what its functions do. -/
import Derived.Test.YtjcagoighpmdkaaGreatDoorDisk
import Derived.Test.YtjcagoighpmdkaaGreatDoorRefEntry
import Derived.Test.YtjcagoighpmdkaaGreatDoorErrAs
namespace Go.Proofs.YtjcagoighpmdkaaGreatDoor
open Go Go.RowKit
set_option linter.unusedVariables false
set_option linter.unusedSimpArgs false
attribute [local irreducible] actF WL CW OW PL SW VR LR yes Returns Fn
structure Lp where
  from_ : Int
  n : Int
  head : Int
  next : Int
  epoch : Int
abbrev loopC (q p : Nat) (L : Lp) : Chunk := [(q, .cells [ptr p, .int .i64 L.from_, .int .i64 L.n, .int .i64 L.head, .int .i64 L.next, .int .i64 L.epoch].toArray 62 (0, 0))]
/-! plain -/
def mayL (m from_ n head next epoch : Int) : Bool := decide (0 ≤ from_ ∧ 1 ≤ n ∧ from_ ≤ m ∧ n ≤ m - from_ ∧ 0 ≤ head ∧ head ≤ next ∧ next - head ≤ n ∧ 0 ≤ epoch ∧ epoch < 1000000000 ∧ next < 1000000000)
def cutL (L : Lp) (e : Int) : Int × Lp := if e ≤ L.epoch ∨ 1000000000 ≤ e then (1, L) else (0, { L with head := L.next, epoch := e })
def putE (e : Entr) : List UInt8 := if rightE e then laidB e else []
def writeL (d : Dsk) (from_ n : Int) : List Entr → Int × Dsk
  | [] => barrierD d
  | e :: es => if (writeD d (from_ + e.lsn % n) (putE e)).1 = 0 then writeL (writeD d (from_ + e.lsn % n) (putE e)).2 from_ n es else writeD d (from_ + e.lsn % n) (putE e)
def appendL (d : Dsk) (L : Lp) (c : List (Int × Int)) : Int × Dsk × Lp :=
  if (groupL L.next L.epoch c).all rightE then
    if L.n - (L.next - L.head) < (groupL L.next L.epoch c).length then (5, d, L)
    else if (writeL d L.from_ L.n (groupL L.next L.epoch c)).1 = 0 then (0, (writeL d L.from_ L.n (groupL L.next L.epoch c)).2, { L with next := L.next + (groupL L.next L.epoch c).length })
    else ((writeL d L.from_ L.n (groupL L.next L.epoch c)).1, (writeL d L.from_ L.n (groupL L.next L.epoch c)).2, L)
  else (1, d, L)
/-- The entries that are read from lsn on, k at most. -/
def scanGo (rd : Int → List UInt8) (from_ n epoch : Int) : Nat → Int → List Entr
  | 0, _ => []
  | k + 1, lsn => if getOkE (rd (from_ + lsn % n)) = true ∧ (getE (rd (from_ + lsn % n))).lsn = lsn ∧ (getE (rd (from_ + lsn % n))).epoch = epoch then getE (rd (from_ + lsn % n)) :: scanGo rd from_ n epoch k (lsn + 1) else []
def scanE (d : Dsk) (from_ n head epoch : Int) : List Entr := if mayL d.n from_ n head head epoch = true ∧ d.off = false then scanGo (readD d) from_ n epoch n.toNat head else []
theorem scanGo_length (rd : Int → List UInt8) (from_ n epoch : Int) : ∀ (k : Nat) (lsn : Int), (scanGo rd from_ n epoch k lsn).length ≤ k
  | 0, _ => by simp [scanGo]
  | k + 1, lsn => by
    rw [scanGo]; split
    · have := scanGo_length rd from_ n epoch k (lsn + 1); simp; omega
    · simp
theorem mod_in {a n : Int} (hn : 1 ≤ n) : 0 ≤ a % n ∧ a % n < n := ⟨Int.emod_nonneg _ (by omega), Int.emod_lt_of_pos _ (by omega)⟩
structure WfD (d : Dsk) : Prop where
  keep : d.keep.length ≤ 1000000
  waits : d.waits.length ≤ 800000
  n0 : 0 ≤ d.n
  n1 : d.n ≤ 3000
structure WfL (L : Lp) : Prop where
  f0 : 0 ≤ L.from_
  f1 : L.from_ ≤ 3000
  n0 : 1 ≤ L.n
  n1 : L.n ≤ 3000
  h0 : 0 ≤ L.head
  h1 : L.head ≤ L.next
  h2 : L.next - L.head ≤ L.n
  x : L.next ≤ 1000000000000
theorem writeD_n (d : Dsk) (k : Int) (b : List UInt8) : (writeD d k b).2.n = d.n ∧ (writeD d k b).2.waits.length ≤ d.waits.length + 1 ∧ (writeD d k b).2.keep.length ≤ d.keep.length := by
  rw [writeD]
  split
  · exact ⟨rfl, by simp, by simp⟩
  split
  · exact ⟨rfl, by simp, by simp⟩
  rw [doneD]
  have hf : ∀ d : Dsk, (fallsD d).2.n = d.n := fun d => by rw [fallsD]; split <;> rfl
  have h2 := falls_waits { d with waits := d.waits ++ [(k, b)] }
  split
  · exact ⟨by rw [crashD]; exact hf _, by simp [crashD], by simp [crashD]⟩
  · exact ⟨hf _, by simp only; rw [h2.1]; simp, by simp only; rw [h2.2.1]; simp⟩
/-! walks -/
section
variable {p : Nat} {d : Dsk} {Δ : Chunk}
theorem loop_mayT (hd : DiskAt p d Δ) (hw : WfD d) (from_ n head next epoch : Int) (hx : next ≤ 9223372036854775807) :
    Fn Tryz.prog 23 [ptr p, .int .i64 from_, .int .i64 n, .int .i64 head, .int .i64 next, .int .i64 epoch] [Δ] (fun u Δs => u = .bool (mayL d.n from_ n head next epoch) ∧ Δs = [Δ]) := by
  refine Fn.mk fun E F w hS => ?_
  have h0 := hw.n0
  have h1 := hw.n1
  refine returns_enter Tryz.func23 rfl Tryz.ntmps23 rfl ?_
  refine cw_seq fun K1 hK1 => ?_
  refine cw_region ?_
  refine wl_op rfl rfl (ow_vr (vr_assign (v := .bool false) rfl) ?_)
  refine wl_nil ?_
  refine hK1 _ _ ?_
  refine cw_seq fun K2 hK2 => ?_
  refine cw_block ?_
  refine cw_seq fun K3 hK3 => ?_
  refine cw_block ?_
  refine cw_block ?_
  refine cw_seq fun K4 hK4 => ?_
  refine cw_block ?_
  refine cw_seq fun K5 hK5 => ?_
  refine cw_seq fun K6 hK6 => ?_
  refine cw_seq fun K7 hK7 => ?_
  refine cw_region ?_
  refine wl_op rfl rfl (ow_vr (vr_move (v := .pointer _) rfl) ?_)
  refine wl_op rfl rfl (ow_vr (vr_eqnil Tryz.underlying24 rfl) ?_)
  refine wl_op rfl rfl (ow_vr (vr_move (v := .bool _) rfl) ?_)
  refine wl_known 16 rfl (c := false) (rfl) ?_
  refine wl_yes rfl rfl rfl rfl rfl (ow_vr (vr_move (v := .int .i64 _) rfl) ?_)
  refine wl_yes rfl rfl rfl rfl rfl (ow_vr (vr_lss rfl rfl) ?_)
  refine wl_op rfl rfl (ow_vr (vr_pick (b := false) (v := .bool _) rfl rfl) ?_)
  refine wl_op rfl rfl (ow_vr (vr_move (v := .bool _) rfl) ?_)
  refine wl_split 20 rfl (fun hc => ?_) (fun hc => ?_)
  · (try simp only [decide_eq_true_eq, decide_eq_false_iff_not, Bool.not_eq_true, Bool.not_eq_false, Bool.not_eq_true', Bool.not_eq_false', Bool.and_eq_true, Bool.or_eq_true, Bool.and_eq_false_iff, Bool.or_eq_false_iff, Int.not_lt, Int.not_le, gt_iff_lt, ge_iff_le, ne_eq, Decidable.not_not, beq_iff_eq] at hc)
    have hg20 := hc; clear hc
    refine wl_noD rfl rfl rfl rfl rfl rfl ?_
    refine wl_noD rfl rfl rfl rfl rfl rfl ?_
    refine wl_op rfl rfl (ow_vr (vr_pick (b := true) (v := .bool _) rfl rfl) ?_)
    refine wl_op rfl rfl (ow_vr (vr_assign (v := .bool _) rfl) ?_)
    refine wl_nil ?_
    refine hK7 _ _ ?_
    refine cw_cond_t rfl rfl (rfl) ?_
    refine cw_exit ?_
    refine hK4 _ _ ?_
    refine cw_seq fun K8 hK8 => ?_
    refine cw_seq fun K9 hK9 => ?_
    refine cw_region ?_
    refine wl_op rfl rfl (ow_vr (vr_assign (v := .bool false) rfl) ?_)
    refine wl_nil ?_
    refine hK9 _ _ ?_
    refine cw_ret ?_
    refine thenF_ret (inB_ret (inB_ret (thenF_ret (inB_ret (thenF_ret (?_))))))
    refine ret_one (fn := Tryz.f23) (n := 62) (t := 12) (.inl rfl) rfl rfl ?_
    refine ⟨[Δ], ⟨congrArg Value.bool ?_, rfl⟩, hS⟩; first | (symm; rw [mayL]; first | exact decide_eq_false (by omega) | exact decide_eq_true (by omega)) | (rw [mayL, Bool.eq_iff_iff]; simp; omega)
  · (try simp only [decide_eq_true_eq, decide_eq_false_iff_not, Bool.not_eq_true, Bool.not_eq_false, Bool.not_eq_true', Bool.not_eq_false', Bool.and_eq_true, Bool.or_eq_true, Bool.and_eq_false_iff, Bool.or_eq_false_iff, Int.not_lt, Int.not_le, gt_iff_lt, ge_iff_le, ne_eq, Decidable.not_not, beq_iff_eq] at hc)
    have hg20 := hc; clear hc
    refine wl_yes rfl rfl rfl rfl rfl (ow_vr (vr_move (v := .int .i64 _) rfl) ?_)
    refine wl_yes rfl rfl rfl rfl rfl (ow_vr (vr_lss rfl rfl) ?_)
    refine wl_op rfl rfl (ow_vr (vr_pick (b := false) (v := .bool _) rfl rfl) ?_)
    refine wl_op rfl rfl (ow_vr (vr_assign (v := .bool _) rfl) ?_)
    refine wl_nil ?_
    refine hK7 _ _ ?_
    refine cw_cond rfl rfl (fun hc => ?_) (fun hc => ?_)
    · (try simp only [decide_eq_true_eq, decide_eq_false_iff_not, Bool.not_eq_true, Bool.not_eq_false, Bool.not_eq_true', Bool.not_eq_false', Bool.and_eq_true, Bool.or_eq_true, Bool.and_eq_false_iff, Bool.or_eq_false_iff, Int.not_lt, Int.not_le, gt_iff_lt, ge_iff_le, ne_eq, Decidable.not_not, beq_iff_eq] at hc)
      have hc0 := hc; clear hc
      refine cw_exit ?_
      refine hK4 _ _ ?_
      refine cw_seq fun K10 hK10 => ?_
      refine cw_seq fun K11 hK11 => ?_
      refine cw_region ?_
      refine wl_op rfl rfl (ow_vr (vr_assign (v := .bool false) rfl) ?_)
      refine wl_nil ?_
      refine hK11 _ _ ?_
      refine cw_ret ?_
      refine thenF_ret (inB_ret (inB_ret (thenF_ret (inB_ret (thenF_ret (?_))))))
      refine ret_one (fn := Tryz.f23) (n := 62) (t := 12) (.inl rfl) rfl rfl ?_
      refine ⟨[Δ], ⟨congrArg Value.bool ?_, rfl⟩, hS⟩; first | (symm; rw [mayL]; first | exact decide_eq_false (by omega) | exact decide_eq_true (by omega)) | (rw [mayL, Bool.eq_iff_iff]; simp; omega)
    · (try simp only [decide_eq_true_eq, decide_eq_false_iff_not, Bool.not_eq_true, Bool.not_eq_false, Bool.not_eq_true', Bool.not_eq_false', Bool.and_eq_true, Bool.or_eq_true, Bool.and_eq_false_iff, Bool.or_eq_false_iff, Int.not_lt, Int.not_le, gt_iff_lt, ge_iff_le, ne_eq, Decidable.not_not, beq_iff_eq] at hc)
      have hc0 := hc; clear hc
      refine cw_skip ?_
      refine hK6 _ _ ?_
      refine cw_seq fun K12 hK12 => ?_
      refine cw_seq fun K13 hK13 => ?_
      refine cw_region ?_
      refine wl_op rfl rfl (ow_vr (vr_move (v := .int .i64 _) rfl) ?_)
      refine wl_op rfl rfl (ow_vr (vr_move (v := .pointer _) rfl) ?_)
      refine wl_op rfl rfl (ow_fn (vs := [.pointer _]) en_57 rfl hS (disk_Len hd) ?_)
      clear hS; rintro v27 _ w ⟨rfl, rfl⟩ hS; (try simp only [List.cons_append, List.nil_append] at hS)
      refine wl_op rfl rfl (ow_vr (vr_gtr rfl rfl) ?_)
      refine wl_op rfl rfl (ow_vr (vr_move (v := .bool _) rfl) ?_)
      refine wl_split 29 rfl (fun hc => ?_) (fun hc => ?_)
      · (try simp only [decide_eq_true_eq, decide_eq_false_iff_not, Bool.not_eq_true, Bool.not_eq_false, Bool.not_eq_true', Bool.not_eq_false', Bool.and_eq_true, Bool.or_eq_true, Bool.and_eq_false_iff, Bool.or_eq_false_iff, Int.not_lt, Int.not_le, gt_iff_lt, ge_iff_le, ne_eq, Decidable.not_not, beq_iff_eq] at hc)
        have hg29 := hc; clear hc
        refine wl_noD rfl rfl rfl rfl rfl rfl ?_
        refine wl_noD rfl rfl rfl rfl rfl rfl ?_
        refine wl_noD rfl rfl rfl rfl rfl rfl ?_
        refine wl_noD rfl rfl rfl rfl rfl rfl ?_
        refine wl_noD rfl rfl rfl rfl rfl rfl ?_
        refine wl_noD rfl rfl rfl rfl rfl rfl ?_
        refine wl_op rfl rfl (ow_vr (vr_pick (b := true) (v := .bool _) rfl rfl) ?_)
        refine wl_op rfl rfl (ow_vr (vr_assign (v := .bool _) rfl) ?_)
        refine wl_nil ?_
        refine hK13 _ _ ?_
        refine cw_cond_t rfl rfl (rfl) ?_
        refine cw_exit ?_
        refine hK3 _ _ ?_
        refine cw_seq fun K14 hK14 => ?_
        refine cw_seq fun K15 hK15 => ?_
        refine cw_region ?_
        refine wl_op rfl rfl (ow_vr (vr_assign (v := .bool false) rfl) ?_)
        refine wl_nil ?_
        refine hK15 _ _ ?_
        refine cw_ret ?_
        refine thenF_ret (inB_ret (thenF_ret (?_)))
        refine ret_one (fn := Tryz.f23) (n := 62) (t := 12) (.inl rfl) rfl rfl ?_
        refine ⟨[Δ], ⟨congrArg Value.bool ?_, rfl⟩, hS⟩; first | (symm; rw [mayL]; first | exact decide_eq_false (by omega) | exact decide_eq_true (by omega)) | (rw [mayL, Bool.eq_iff_iff]; simp; omega)
      · (try simp only [decide_eq_true_eq, decide_eq_false_iff_not, Bool.not_eq_true, Bool.not_eq_false, Bool.not_eq_true', Bool.not_eq_false', Bool.and_eq_true, Bool.or_eq_true, Bool.and_eq_false_iff, Bool.or_eq_false_iff, Int.not_lt, Int.not_le, gt_iff_lt, ge_iff_le, ne_eq, Decidable.not_not, beq_iff_eq] at hc)
        have hg29 := hc; clear hc
        refine wl_yes rfl rfl rfl rfl rfl (ow_vr (vr_move (v := .int .i64 _) rfl) ?_)
        refine wl_yes rfl rfl rfl rfl rfl (ow_vr (vr_move (v := .pointer _) rfl) ?_)
        refine wl_yes rfl rfl rfl rfl rfl (ow_fn (vs := [.pointer _]) en_57 rfl hS (disk_Len hd) ?_)
        clear hS; rintro v32 _ w ⟨rfl, rfl⟩ hS; (try simp only [List.cons_append, List.nil_append] at hS)
        refine wl_yes rfl rfl rfl rfl rfl (ow_vr (vr_move (v := .int .i64 _) rfl) ?_)
        first | (refine wl_yes rfl rfl rfl rfl rfl (ow_vr (vr_subi rfl rfl (by unfold inI64; omega)) ?_)) | (refine wl_yes rfl rfl rfl rfl rfl (ow_vr (vr_sub rfl rfl) ?_))
        refine wl_yes rfl rfl rfl rfl rfl (ow_vr (vr_gtr rfl rfl) ?_)
        refine wl_op rfl rfl (ow_vr (vr_pick (b := false) (v := .bool _) rfl rfl) ?_)
        refine wl_op rfl rfl (ow_vr (vr_assign (v := .bool _) rfl) ?_)
        refine wl_nil ?_
        refine hK13 _ _ ?_
        refine cw_cond rfl rfl (fun hc => ?_) (fun hc => ?_)
        · (try simp only [decide_eq_true_eq, decide_eq_false_iff_not, Bool.not_eq_true, Bool.not_eq_false, Bool.not_eq_true', Bool.not_eq_false', Bool.and_eq_true, Bool.or_eq_true, Bool.and_eq_false_iff, Bool.or_eq_false_iff, Int.not_lt, Int.not_le, gt_iff_lt, ge_iff_le, ne_eq, Decidable.not_not, beq_iff_eq] at hc)
          have hc1 := hc; clear hc
          refine cw_exit ?_
          refine hK3 _ _ ?_
          refine cw_seq fun K16 hK16 => ?_
          refine cw_seq fun K17 hK17 => ?_
          refine cw_region ?_
          refine wl_op rfl rfl (ow_vr (vr_assign (v := .bool false) rfl) ?_)
          refine wl_nil ?_
          refine hK17 _ _ ?_
          refine cw_ret ?_
          refine thenF_ret (inB_ret (thenF_ret (?_)))
          refine ret_one (fn := Tryz.f23) (n := 62) (t := 12) (.inl rfl) rfl rfl ?_
          refine ⟨[Δ], ⟨congrArg Value.bool ?_, rfl⟩, hS⟩; first | (symm; rw [mayL]; first | exact decide_eq_false (by omega) | exact decide_eq_true (by omega)) | (rw [mayL, Bool.eq_iff_iff]; simp; omega)
        · (try simp only [decide_eq_true_eq, decide_eq_false_iff_not, Bool.not_eq_true, Bool.not_eq_false, Bool.not_eq_true', Bool.not_eq_false', Bool.and_eq_true, Bool.or_eq_true, Bool.and_eq_false_iff, Bool.or_eq_false_iff, Int.not_lt, Int.not_le, gt_iff_lt, ge_iff_le, ne_eq, Decidable.not_not, beq_iff_eq] at hc)
          have hc1 := hc; clear hc
          refine cw_skip ?_
          refine hK12 _ _ ?_
          refine cw_seq fun K18 hK18 => ?_
          refine cw_region ?_
          refine wl_op rfl rfl (ow_vr (vr_move (v := .int .i64 _) rfl) ?_)
          refine wl_op rfl rfl (ow_vr (vr_lss rfl rfl) ?_)
          refine wl_op rfl rfl (ow_vr (vr_move (v := .bool _) rfl) ?_)
          refine wl_split 40 rfl (fun hc => ?_) (fun hc => ?_)
          · (try simp only [decide_eq_true_eq, decide_eq_false_iff_not, Bool.not_eq_true, Bool.not_eq_false, Bool.not_eq_true', Bool.not_eq_false', Bool.and_eq_true, Bool.or_eq_true, Bool.and_eq_false_iff, Bool.or_eq_false_iff, Int.not_lt, Int.not_le, gt_iff_lt, ge_iff_le, ne_eq, Decidable.not_not, beq_iff_eq] at hc)
            have hg40 := hc; clear hc
            refine wl_noD rfl rfl rfl rfl rfl rfl ?_
            refine wl_noD rfl rfl rfl rfl rfl rfl ?_
            refine wl_noD rfl rfl rfl rfl rfl rfl ?_
            refine wl_op rfl rfl (ow_vr (vr_pick (b := true) (v := .bool _) rfl rfl) ?_)
            refine wl_op rfl rfl (ow_vr (vr_move (v := .bool _) rfl) ?_)
            refine wl_noD rfl rfl rfl rfl rfl rfl ?_
            refine wl_noD rfl rfl rfl rfl rfl rfl ?_
            refine wl_noD rfl rfl rfl rfl rfl rfl ?_
            refine wl_noD rfl rfl rfl rfl rfl rfl ?_
            refine wl_noD rfl rfl rfl rfl rfl rfl ?_
            refine wl_op rfl rfl (ow_vr (vr_pick (b := true) (v := .bool _) rfl rfl) ?_)
            refine wl_op rfl rfl (ow_vr (vr_assign (v := .bool _) rfl) ?_)
            refine wl_nil ?_
            refine hK18 _ _ ?_
            refine cw_cond_t rfl rfl (rfl) ?_
            refine cw_exit ?_
            refine hK3 _ _ ?_
            refine cw_seq fun K19 hK19 => ?_
            refine cw_seq fun K20 hK20 => ?_
            refine cw_region ?_
            refine wl_op rfl rfl (ow_vr (vr_assign (v := .bool false) rfl) ?_)
            refine wl_nil ?_
            refine hK20 _ _ ?_
            refine cw_ret ?_
            refine thenF_ret (inB_ret (thenF_ret (?_)))
            refine ret_one (fn := Tryz.f23) (n := 62) (t := 12) (.inl rfl) rfl rfl ?_
            refine ⟨[Δ], ⟨congrArg Value.bool ?_, rfl⟩, hS⟩; first | (symm; rw [mayL]; first | exact decide_eq_false (by omega) | exact decide_eq_true (by omega)) | (rw [mayL, Bool.eq_iff_iff]; simp; omega)
          · (try simp only [decide_eq_true_eq, decide_eq_false_iff_not, Bool.not_eq_true, Bool.not_eq_false, Bool.not_eq_true', Bool.not_eq_false', Bool.and_eq_true, Bool.or_eq_true, Bool.and_eq_false_iff, Bool.or_eq_false_iff, Int.not_lt, Int.not_le, gt_iff_lt, ge_iff_le, ne_eq, Decidable.not_not, beq_iff_eq] at hc)
            have hg40 := hc; clear hc
            refine wl_yes rfl rfl rfl rfl rfl (ow_vr (vr_move (v := .int .i64 _) rfl) ?_)
            refine wl_yes rfl rfl rfl rfl rfl (ow_vr (vr_move (v := .int .i64 _) rfl) ?_)
            refine wl_yes rfl rfl rfl rfl rfl (ow_vr (vr_lss rfl rfl) ?_)
            refine wl_op rfl rfl (ow_vr (vr_pick (b := false) (v := .bool _) rfl rfl) ?_)
            refine wl_op rfl rfl (ow_vr (vr_move (v := .bool _) rfl) ?_)
            refine wl_split 45 rfl (fun hc => ?_) (fun hc => ?_)
            · (try simp only [decide_eq_true_eq, decide_eq_false_iff_not, Bool.not_eq_true, Bool.not_eq_false, Bool.not_eq_true', Bool.not_eq_false', Bool.and_eq_true, Bool.or_eq_true, Bool.and_eq_false_iff, Bool.or_eq_false_iff, Int.not_lt, Int.not_le, gt_iff_lt, ge_iff_le, ne_eq, Decidable.not_not, beq_iff_eq] at hc)
              have hg45 := hc; clear hc
              refine wl_noD rfl rfl rfl rfl rfl rfl ?_
              refine wl_noD rfl rfl rfl rfl rfl rfl ?_
              refine wl_noD rfl rfl rfl rfl rfl rfl ?_
              refine wl_noD rfl rfl rfl rfl rfl rfl ?_
              refine wl_noD rfl rfl rfl rfl rfl rfl ?_
              refine wl_op rfl rfl (ow_vr (vr_pick (b := true) (v := .bool _) rfl rfl) ?_)
              refine wl_op rfl rfl (ow_vr (vr_assign (v := .bool _) rfl) ?_)
              refine wl_nil ?_
              refine hK18 _ _ ?_
              refine cw_cond_t rfl rfl (rfl) ?_
              refine cw_exit ?_
              refine hK3 _ _ ?_
              refine cw_seq fun K21 hK21 => ?_
              refine cw_seq fun K22 hK22 => ?_
              refine cw_region ?_
              refine wl_op rfl rfl (ow_vr (vr_assign (v := .bool false) rfl) ?_)
              refine wl_nil ?_
              refine hK22 _ _ ?_
              refine cw_ret ?_
              refine thenF_ret (inB_ret (thenF_ret (?_)))
              refine ret_one (fn := Tryz.f23) (n := 62) (t := 12) (.inl rfl) rfl rfl ?_
              refine ⟨[Δ], ⟨congrArg Value.bool ?_, rfl⟩, hS⟩; first | (symm; rw [mayL]; first | exact decide_eq_false (by omega) | exact decide_eq_true (by omega)) | (rw [mayL, Bool.eq_iff_iff]; simp; omega)
            · (try simp only [decide_eq_true_eq, decide_eq_false_iff_not, Bool.not_eq_true, Bool.not_eq_false, Bool.not_eq_true', Bool.not_eq_false', Bool.and_eq_true, Bool.or_eq_true, Bool.and_eq_false_iff, Bool.or_eq_false_iff, Int.not_lt, Int.not_le, gt_iff_lt, ge_iff_le, ne_eq, Decidable.not_not, beq_iff_eq] at hc)
              have hg45 := hc; clear hc
              refine wl_yes rfl rfl rfl rfl rfl (ow_vr (vr_move (v := .int .i64 _) rfl) ?_)
              refine wl_yes rfl rfl rfl rfl rfl (ow_vr (vr_move (v := .int .i64 _) rfl) ?_)
              first | (refine wl_yes rfl rfl rfl rfl rfl (ow_vr (vr_subi rfl rfl (by unfold inI64; omega)) ?_)) | (refine wl_yes rfl rfl rfl rfl rfl (ow_vr (vr_sub rfl rfl) ?_))
              refine wl_yes rfl rfl rfl rfl rfl (ow_vr (vr_move (v := .int .i64 _) rfl) ?_)
              refine wl_yes rfl rfl rfl rfl rfl (ow_vr (vr_gtr rfl rfl) ?_)
              refine wl_op rfl rfl (ow_vr (vr_pick (b := false) (v := .bool _) rfl rfl) ?_)
              refine wl_op rfl rfl (ow_vr (vr_assign (v := .bool _) rfl) ?_)
              refine wl_nil ?_
              refine hK18 _ _ ?_
              refine cw_cond rfl rfl (fun hc => ?_) (fun hc => ?_)
              · (try simp only [decide_eq_true_eq, decide_eq_false_iff_not, Bool.not_eq_true, Bool.not_eq_false, Bool.not_eq_true', Bool.not_eq_false', Bool.and_eq_true, Bool.or_eq_true, Bool.and_eq_false_iff, Bool.or_eq_false_iff, Int.not_lt, Int.not_le, gt_iff_lt, ge_iff_le, ne_eq, Decidable.not_not, beq_iff_eq] at hc)
                have hc2 := hc; clear hc
                refine cw_exit ?_
                refine hK3 _ _ ?_
                refine cw_seq fun K23 hK23 => ?_
                refine cw_seq fun K24 hK24 => ?_
                refine cw_region ?_
                refine wl_op rfl rfl (ow_vr (vr_assign (v := .bool false) rfl) ?_)
                refine wl_nil ?_
                refine hK24 _ _ ?_
                refine cw_ret ?_
                refine thenF_ret (inB_ret (thenF_ret (?_)))
                refine ret_one (fn := Tryz.f23) (n := 62) (t := 12) (.inl rfl) rfl rfl ?_
                refine ⟨[Δ], ⟨congrArg Value.bool ?_, rfl⟩, hS⟩; first | (symm; rw [mayL]; first | exact decide_eq_false (by omega) | exact decide_eq_true (by omega)) | (rw [mayL, Bool.eq_iff_iff]; simp; omega)
              · (try simp only [decide_eq_true_eq, decide_eq_false_iff_not, Bool.not_eq_true, Bool.not_eq_false, Bool.not_eq_true', Bool.not_eq_false', Bool.and_eq_true, Bool.or_eq_true, Bool.and_eq_false_iff, Bool.or_eq_false_iff, Int.not_lt, Int.not_le, gt_iff_lt, ge_iff_le, ne_eq, Decidable.not_not, beq_iff_eq] at hc)
                have hc2 := hc; clear hc
                refine cw_skip ?_
                refine hK5 _ _ ?_
                refine cw_exit ?_
                refine hK2 _ _ ?_
                refine cw_seq fun K25 hK25 => ?_
                refine cw_region ?_
                refine wl_op rfl rfl (ow_vr (vr_move (v := .int .i64 _) rfl) ?_)
                refine wl_op rfl rfl (ow_vr (vr_geq rfl rfl) ?_)
                refine wl_op rfl rfl (ow_vr (vr_move (v := .bool _) rfl) ?_)
                refine wl_split 54 rfl (fun hc => ?_) (fun hc => ?_)
                · (try simp only [decide_eq_true_eq, decide_eq_false_iff_not, Bool.not_eq_true, Bool.not_eq_false, Bool.not_eq_true', Bool.not_eq_false', Bool.and_eq_true, Bool.or_eq_true, Bool.and_eq_false_iff, Bool.or_eq_false_iff, Int.not_lt, Int.not_le, gt_iff_lt, ge_iff_le, ne_eq, Decidable.not_not, beq_iff_eq] at hc)
                  have hg54 := hc; clear hc
                  refine wl_yes rfl rfl rfl rfl rfl (ow_vr (vr_move (v := .int .i64 _) rfl) ?_)
                  refine wl_yes rfl rfl rfl rfl rfl (ow_vr (vr_lss rfl rfl) ?_)
                  refine wl_op rfl rfl (ow_vr (vr_pick (b := true) (v := .bool _) rfl rfl) ?_)
                  refine wl_op rfl rfl (ow_vr (vr_move (v := .bool _) rfl) ?_)
                  refine wl_split 58 rfl (fun hc => ?_) (fun hc => ?_)
                  · (try simp only [decide_eq_true_eq, decide_eq_false_iff_not, Bool.not_eq_true, Bool.not_eq_false, Bool.not_eq_true', Bool.not_eq_false', Bool.and_eq_true, Bool.or_eq_true, Bool.and_eq_false_iff, Bool.or_eq_false_iff, Int.not_lt, Int.not_le, gt_iff_lt, ge_iff_le, ne_eq, Decidable.not_not, beq_iff_eq] at hc)
                    have hg58 := hc; clear hc
                    refine wl_yes rfl rfl rfl rfl rfl (ow_vr (vr_move (v := .int .i64 _) rfl) ?_)
                    refine wl_yes rfl rfl rfl rfl rfl (ow_vr (vr_lss rfl rfl) ?_)
                    refine wl_op rfl rfl (ow_vr (vr_pick (b := true) (v := .bool _) rfl rfl) ?_)
                    refine wl_op rfl rfl (ow_vr (vr_assign (v := .bool _) rfl) ?_)
                    refine wl_nil ?_
                    refine hK25 _ _ ?_
                    refine cw_ret ?_
                    refine ret_one (fn := Tryz.f23) (n := 62) (t := 12) (.inl rfl) rfl rfl ?_
                    refine ⟨[Δ], ⟨congrArg Value.bool ?_, rfl⟩, hS⟩; first | (symm; rw [mayL]; first | exact decide_eq_false (by omega) | exact decide_eq_true (by omega)) | (rw [mayL, Bool.eq_iff_iff]; simp; omega)
                  · (try simp only [decide_eq_true_eq, decide_eq_false_iff_not, Bool.not_eq_true, Bool.not_eq_false, Bool.not_eq_true', Bool.not_eq_false', Bool.and_eq_true, Bool.or_eq_true, Bool.and_eq_false_iff, Bool.or_eq_false_iff, Int.not_lt, Int.not_le, gt_iff_lt, ge_iff_le, ne_eq, Decidable.not_not, beq_iff_eq] at hc)
                    have hg58 := hc; clear hc
                    refine wl_noD rfl rfl rfl rfl rfl rfl ?_
                    refine wl_noD rfl rfl rfl rfl rfl rfl ?_
                    refine wl_op rfl rfl (ow_vr (vr_pick (b := false) (v := .bool _) rfl rfl) ?_)
                    refine wl_op rfl rfl (ow_vr (vr_assign (v := .bool _) rfl) ?_)
                    refine wl_nil ?_
                    refine hK25 _ _ ?_
                    refine cw_ret ?_
                    refine ret_one (fn := Tryz.f23) (n := 62) (t := 12) (.inl rfl) rfl rfl ?_
                    refine ⟨[Δ], ⟨congrArg Value.bool ?_, rfl⟩, hS⟩; first | (symm; rw [mayL]; first | exact decide_eq_false (by omega) | exact decide_eq_true (by omega)) | (rw [mayL, Bool.eq_iff_iff]; simp; omega)
                · (try simp only [decide_eq_true_eq, decide_eq_false_iff_not, Bool.not_eq_true, Bool.not_eq_false, Bool.not_eq_true', Bool.not_eq_false', Bool.and_eq_true, Bool.or_eq_true, Bool.and_eq_false_iff, Bool.or_eq_false_iff, Int.not_lt, Int.not_le, gt_iff_lt, ge_iff_le, ne_eq, Decidable.not_not, beq_iff_eq] at hc)
                  have hg54 := hc; clear hc
                  refine wl_noD rfl rfl rfl rfl rfl rfl ?_
                  refine wl_noD rfl rfl rfl rfl rfl rfl ?_
                  refine wl_op rfl rfl (ow_vr (vr_pick (b := false) (v := .bool _) rfl rfl) ?_)
                  refine wl_op rfl rfl (ow_vr (vr_move (v := .bool _) rfl) ?_)
                  refine wl_noD rfl rfl rfl rfl rfl rfl ?_
                  refine wl_noD rfl rfl rfl rfl rfl rfl ?_
                  refine wl_op rfl rfl (ow_vr (vr_pick (b := false) (v := .bool _) rfl rfl) ?_)
                  refine wl_op rfl rfl (ow_vr (vr_assign (v := .bool _) rfl) ?_)
                  refine wl_nil ?_
                  refine hK25 _ _ ?_
                  refine cw_ret ?_
                  refine ret_one (fn := Tryz.f23) (n := 62) (t := 12) (.inl rfl) rfl rfl ?_
                  refine ⟨[Δ], ⟨congrArg Value.bool ?_, rfl⟩, hS⟩; first | (symm; rw [mayL]; first | exact decide_eq_false (by omega) | exact decide_eq_true (by omega)) | (rw [mayL, Bool.eq_iff_iff]; simp; omega)
theorem loop_may0 (from_ n head next epoch : Int) :
    FnV Tryz.prog 23 [.pointer none, .int .i64 from_, .int .i64 n, .int .i64 head, .int .i64 next, .int .i64 epoch] (.bool false) := by
  refine FnV.mk fun E F w hS => ?_
  refine returns_enter Tryz.func23 rfl Tryz.ntmps23 rfl ?_
  refine cw_seq fun K1 hK1 => ?_
  refine cw_region ?_
  refine wl_op rfl rfl (ow_vr (vr_assign (v := .bool false) rfl) ?_)
  refine wl_nil ?_
  refine hK1 _ _ ?_
  refine cw_seq fun K2 hK2 => ?_
  refine cw_block ?_
  refine cw_seq fun K3 hK3 => ?_
  refine cw_block ?_
  refine cw_block ?_
  refine cw_seq fun K4 hK4 => ?_
  refine cw_block ?_
  refine cw_seq fun K5 hK5 => ?_
  refine cw_seq fun K6 hK6 => ?_
  refine cw_seq fun K7 hK7 => ?_
  refine cw_region ?_
  refine wl_op rfl rfl (ow_vr (vr_move (v := .pointer _) rfl) ?_)
  refine wl_op rfl rfl (ow_vr (vr_eqnil Tryz.underlying24 rfl) ?_)
  refine wl_op rfl rfl (ow_vr (vr_move (v := .bool _) rfl) ?_)
  refine wl_known 16 rfl (c := true) (rfl) ?_
  refine wl_noD rfl rfl rfl rfl rfl rfl ?_
  refine wl_noD rfl rfl rfl rfl rfl rfl ?_
  refine wl_op rfl rfl (ow_vr (vr_pick (b := true) (v := .bool _) rfl rfl) ?_)
  refine wl_op rfl rfl (ow_vr (vr_move (v := .bool _) rfl) ?_)
  refine wl_noD rfl rfl rfl rfl rfl rfl ?_
  refine wl_noD rfl rfl rfl rfl rfl rfl ?_
  refine wl_op rfl rfl (ow_vr (vr_pick (b := true) (v := .bool _) rfl rfl) ?_)
  refine wl_op rfl rfl (ow_vr (vr_assign (v := .bool _) rfl) ?_)
  refine wl_nil ?_
  refine hK7 _ _ ?_
  refine cw_cond_t rfl rfl (rfl) ?_
  refine cw_exit ?_
  refine hK4 _ _ ?_
  refine cw_seq fun K8 hK8 => ?_
  refine cw_seq fun K9 hK9 => ?_
  refine cw_region ?_
  refine wl_op rfl rfl (ow_vr (vr_assign (v := .bool false) rfl) ?_)
  refine wl_nil ?_
  refine hK9 _ _ ?_
  refine cw_ret ?_
  refine thenF_ret (inB_ret (inB_ret (thenF_ret (inB_ret (thenF_ret (?_))))))
  refine ret_one (fn := Tryz.f23) (n := 62) (t := 12) (.inl rfl) rfl rfl ?_
  exact ⟨rfl, hS⟩
theorem loop_New (hd : DiskAt p d Δ) (hw : WfD d) (L : Lp) (hx : L.next ≤ 9223372036854775807) :
    Fn Tryz.prog 6 [ptr p, .int .i64 L.from_, .int .i64 L.n, .int .i64 L.head, .int .i64 L.next, .int .i64 L.epoch] [Δ] (fun u Δs => ∃ a Dq, u = .pointer a ∧ a.isNone = !(mayL d.n L.from_ L.n L.head L.next L.epoch) ∧ Δs = [Dq, Δ] ∧ (mayL d.n L.from_ L.n L.head L.next L.epoch = true → ∃ q, a = some ⟨q, 0, none⟩ ∧ Dq = loopC q p L)) := by
  refine Fn.mk fun E F w hS => ?_
  refine returns_enter Tryz.func6 rfl Tryz.ntmps6 rfl ?_
  refine cw_seq fun K1 hK1 => ?_
  refine cw_region ?_
  refine wl_op rfl rfl (ow_vr (vr_assign (v := .pointer none) rfl) ?_)
  refine wl_nil ?_
  refine hK1 _ _ ?_
  refine cw_seq fun K2 hK2 => ?_
  refine cw_seq fun K3 hK3 => ?_
  refine cw_region ?_
  refine wl_op rfl rfl (ow_vr (vr_move (v := .pointer _) rfl) ?_)
  refine wl_op rfl rfl (ow_vr (vr_move (v := .int .i64 _) rfl) ?_)
  refine wl_op rfl rfl (ow_vr (vr_move (v := .int .i64 _) rfl) ?_)
  refine wl_op rfl rfl (ow_vr (vr_move (v := .int .i64 _) rfl) ?_)
  refine wl_op rfl rfl (ow_vr (vr_move (v := .int .i64 _) rfl) ?_)
  refine wl_op rfl rfl (ow_vr (vr_move (v := .int .i64 _) rfl) ?_)
  refine wl_op rfl rfl (ow_fn (vs := [.pointer _, .int .i64 _, .int .i64 _, .int .i64 _, .int .i64 _, .int .i64 _]) en_23 rfl hS (loop_mayT hd hw L.from_ L.n L.head L.next L.epoch hx) ?_)
  clear hS; rintro v19 _ w ⟨rfl, rfl⟩ hS; (try simp only [List.cons_append, List.nil_append] at hS)
  refine wl_op rfl rfl (ow_vr (vr_not rfl) ?_)
  refine wl_nil ?_
  refine hK3 _ _ ?_
  refine cw_cond rfl rfl (fun hc => ?_) (fun hc => ?_)
  · (try simp only [decide_eq_true_eq, decide_eq_false_iff_not, Bool.not_eq_true, Bool.not_eq_false, Bool.not_eq_true', Bool.not_eq_false', Bool.and_eq_true, Bool.or_eq_true, Bool.and_eq_false_iff, Bool.or_eq_false_iff, Int.not_lt, Int.not_le, gt_iff_lt, ge_iff_le, ne_eq, Decidable.not_not, beq_iff_eq] at hc)
    have hm := hc; clear hc
    refine cw_seq fun K4 hK4 => ?_
    refine cw_region ?_
    refine wl_op rfl rfl (ow_vr (vr_assign (v := .pointer none) rfl) ?_)
    refine wl_nil ?_
    refine hK4 _ _ ?_
    refine cw_ret ?_
    refine thenF_ret (?_)
    refine ret_one (fn := Tryz.f6) (n := 29) (t := 12) (.inl rfl) rfl rfl ?_
    exact ⟨[[], Δ], ⟨none, [], rfl, by rw [hm]; rfl, rfl, fun h => by rw [h] at hm; cases hm⟩, hS.perm (by simp)⟩
  · (try simp only [decide_eq_true_eq, decide_eq_false_iff_not, Bool.not_eq_true, Bool.not_eq_false, Bool.not_eq_true', Bool.not_eq_false', Bool.and_eq_true, Bool.or_eq_true, Bool.and_eq_false_iff, Bool.or_eq_false_iff, Int.not_lt, Int.not_le, gt_iff_lt, ge_iff_le, ne_eq, Decidable.not_not, beq_iff_eq] at hc)
    have hm := hc; clear hc
    refine cw_skip ?_
    refine hK2 _ _ ?_
    refine cw_seq fun K5 hK5 => ?_
    refine cw_region ?_
    refine wl_op rfl rfl (ow_vr (vr_move (v := .pointer _) rfl) ?_)
    refine wl_op rfl rfl (ow_vr (vr_move (v := .int .i64 _) rfl) ?_)
    refine wl_op rfl rfl (ow_vr (vr_move (v := .int .i64 _) rfl) ?_)
    refine wl_op rfl rfl (ow_vr (vr_move (v := .int .i64 _) rfl) ?_)
    refine wl_op rfl rfl (ow_vr (vr_move (v := .int .i64 _) rfl) ?_)
    refine wl_op rfl rfl (ow_vr (vr_move (v := .int .i64 _) rfl) ?_)
    refine wl_op rfl rfl (ow_vr (vr_build1 (ps := [(0, .pointer _), (1, .int .i64 _), (2, .int .i64 _), (3, .int .i64 _), (4, .int .i64 _), (5, .int .i64 _)]) (vs := [.pointer _, .int .i64 _, .int .i64 _, .int .i64 _, .int .i64 _, .int .i64 _]) zr_62 pl_62 rfl rfl rfl rfl (by first | rfl | (simp only [List.all_cons, List.all_nil, Bool.and_true, Bool.and_eq_true]; repeat (first | refine ⟨by first | rfl | assumption, ?_⟩ | rfl | assumption)))) ?_)
    refine wl_op rfl rfl (ow_box (cs := [_, _, _, _, _, _]) hS rfl rfl ?_)
    clear hS; intro b28 w hS
    refine wl_op rfl rfl (ow_vr (vr_assign (v := .pointer _) rfl) ?_)
    refine wl_nil ?_
    refine hK5 _ _ ?_
    refine cw_ret ?_
    refine ret_one (fn := Tryz.f6) (n := 29) (t := 12) (.inl rfl) rfl rfl ?_
    exact ⟨[_, Δ], ⟨_, _, rfl, by rw [hm]; rfl, rfl, fun _ => ⟨_, rfl, rfl⟩⟩, hS⟩
theorem loop_NewT (hd : DiskAt p d Δ) (hw : WfD d) (L : Lp) (hm : mayL d.n L.from_ L.n L.head L.next L.epoch = true) :
    Fn Tryz.prog 6 [ptr p, .int .i64 L.from_, .int .i64 L.n, .int .i64 L.head, .int .i64 L.next, .int .i64 L.epoch] [Δ] (fun u Δs => ∃ q, u = ptr q ∧ Δs = [loopC q p L, Δ]) := by
  have hx : L.next ≤ 9223372036854775807 := by simp [mayL] at hm; omega
  refine (loop_New hd hw L hx).mono ?_
  rintro u Δs ⟨a, Dq, rfl, _, rfl, h⟩
  obtain ⟨q, rfl, rfl⟩ := h hm
  exact ⟨q, rfl, rfl⟩
theorem loop_New0 (L : Lp) : FnV Tryz.prog 6 [.pointer none, .int .i64 L.from_, .int .i64 L.n, .int .i64 L.head, .int .i64 L.next, .int .i64 L.epoch] (.pointer none) := by
  refine FnV.mk fun E F w hS => ?_
  refine returns_enter Tryz.func6 rfl Tryz.ntmps6 rfl ?_
  refine cw_seq fun K1 hK1 => ?_
  refine cw_region ?_
  refine wl_op rfl rfl (ow_vr (vr_assign (v := .pointer none) rfl) ?_)
  refine wl_nil ?_
  refine hK1 _ _ ?_
  refine cw_seq fun K2 hK2 => ?_
  refine cw_seq fun K3 hK3 => ?_
  refine cw_region ?_
  refine wl_op rfl rfl (ow_vr (vr_move (v := .pointer _) rfl) ?_)
  refine wl_op rfl rfl (ow_vr (vr_move (v := .int .i64 _) rfl) ?_)
  refine wl_op rfl rfl (ow_vr (vr_move (v := .int .i64 _) rfl) ?_)
  refine wl_op rfl rfl (ow_vr (vr_move (v := .int .i64 _) rfl) ?_)
  refine wl_op rfl rfl (ow_vr (vr_move (v := .int .i64 _) rfl) ?_)
  refine wl_op rfl rfl (ow_vr (vr_move (v := .int .i64 _) rfl) ?_)
  refine wl_op rfl rfl (ow_fn (vs := [.pointer _, .int .i64 _, .int .i64 _, .int .i64 _, .int .i64 _, .int .i64 _]) en_23 rfl hS (loop_may0 L.from_ L.n L.head L.next L.epoch) ?_)
  clear hS; rintro v19 _ w ⟨rfl, rfl⟩ hS; (try simp only [List.cons_append, List.nil_append] at hS)
  refine wl_op rfl rfl (ow_vr (vr_not rfl) ?_)
  refine wl_nil ?_
  refine hK3 _ _ ?_
  refine cw_cond_t rfl rfl (rfl) ?_
  refine cw_seq fun K4 hK4 => ?_
  refine cw_region ?_
  refine wl_op rfl rfl (ow_vr (vr_assign (v := .pointer none) rfl) ?_)
  refine wl_nil ?_
  refine hK4 _ _ ?_
  refine cw_ret ?_
  refine thenF_ret (?_)
  refine ret_one (fn := Tryz.f6) (n := 29) (t := 12) (.inl rfl) rfl rfl ?_
  exact ⟨rfl, hS⟩
theorem loop_Head (q p : Nat) (L : Lp) : Fn Tryz.prog 19 [ptr q] [loopC q p L] (fun u Δs => u = .int .i64 L.head ∧ Δs = [loopC q p L]) := by
  refine Fn.mk fun E F w hS => ?_
  simp only [List.cons_append, List.nil_append] at hS
  refine returns_enter Tryz.func19 rfl Tryz.ntmps19 rfl ?_
  refine cw_seq fun K1 hK1 => ?_
  refine cw_region ?_
  refine wl_op rfl rfl (ow_vr (vr_assign (v := .int .i64 0) rfl) ?_)
  refine wl_nil ?_
  refine hK1 _ _ ?_
  refine cw_seq fun K2 hK2 => ?_
  refine cw_seq fun K3 hK3 => ?_
  refine cw_region ?_
  refine wl_op rfl rfl (ow_vr (vr_move (v := .pointer _) rfl) ?_)
  refine wl_op rfl rfl (ow_vr (vr_eqnil Tryz.underlying26 rfl) ?_)
  refine wl_nil ?_
  refine hK3 _ _ ?_
  refine cw_cond_f rfl rfl (rfl) ?_
  refine cw_skip ?_
  refine hK2 _ _ ?_
  refine cw_seq fun K4 hK4 => ?_
  refine cw_region ?_
  refine wl_op rfl rfl (ow_vr (vr_move (v := .pointer _) rfl) ?_)
  refine wl_op rfl rfl (ow_vr (vr_nilCheck rfl) ?_)
  first | (refine wl_op rfl rfl (ow_vr (vr_fieldAddr fo_62_3 rfl) ?_)) | (refine wl_op rfl rfl (ow_vr (vr_fieldAddrV fo_62_3 rfl (by first | assumption | (refine Own.view ?_ (by assumption); exact fun _ => rfl) | exact OwnB.view (by assumption)) (by first | omega | (simp <;> omega))) ?_))
  refine wl_op rfl rfl (ow_lr (S := Sat _ _) (lr_load1 Tryz.underlying3 rfl rfl (by first | exact Has.here | exact Has.there (Has.here) | exact Has.there (Has.there (Has.here)) | exact Has.there (Has.there (Has.there (Has.here))) | exact Has.there (Has.there (Has.there (Has.there (Has.here)))) | exact Has.there (Has.there (Has.there (Has.there (Has.there (Has.here))))) | exact Has.there (Has.there (Has.there (Has.there (Has.there (Has.there (Has.here)))))) | exact Has.there (Has.there (Has.there (Has.there (Has.there (Has.there (Has.there (Has.here)))))))) rfl) hS ?_)
  refine wl_op rfl rfl (ow_vr (vr_assign (v := .int .i64 _) rfl) ?_)
  refine wl_nil ?_
  refine hK4 _ _ ?_
  refine cw_ret ?_
  refine ret_one (fn := Tryz.f19) (n := 9) (t := 2) (.inl rfl) rfl rfl ?_
  exact ⟨[_], ⟨rfl, rfl⟩, hS⟩
theorem loop_Next (q p : Nat) (L : Lp) : Fn Tryz.prog 20 [ptr q] [loopC q p L] (fun u Δs => u = .int .i64 L.next ∧ Δs = [loopC q p L]) := by
  refine Fn.mk fun E F w hS => ?_
  simp only [List.cons_append, List.nil_append] at hS
  refine returns_enter Tryz.func20 rfl Tryz.ntmps20 rfl ?_
  refine cw_seq fun K1 hK1 => ?_
  refine cw_region ?_
  refine wl_op rfl rfl (ow_vr (vr_assign (v := .int .i64 0) rfl) ?_)
  refine wl_nil ?_
  refine hK1 _ _ ?_
  refine cw_seq fun K2 hK2 => ?_
  refine cw_seq fun K3 hK3 => ?_
  refine cw_region ?_
  refine wl_op rfl rfl (ow_vr (vr_move (v := .pointer _) rfl) ?_)
  refine wl_op rfl rfl (ow_vr (vr_eqnil Tryz.underlying26 rfl) ?_)
  refine wl_nil ?_
  refine hK3 _ _ ?_
  refine cw_cond_f rfl rfl (rfl) ?_
  refine cw_skip ?_
  refine hK2 _ _ ?_
  refine cw_seq fun K4 hK4 => ?_
  refine cw_region ?_
  refine wl_op rfl rfl (ow_vr (vr_move (v := .pointer _) rfl) ?_)
  refine wl_op rfl rfl (ow_vr (vr_nilCheck rfl) ?_)
  first | (refine wl_op rfl rfl (ow_vr (vr_fieldAddr fo_62_4 rfl) ?_)) | (refine wl_op rfl rfl (ow_vr (vr_fieldAddrV fo_62_4 rfl (by first | assumption | (refine Own.view ?_ (by assumption); exact fun _ => rfl) | exact OwnB.view (by assumption)) (by first | omega | (simp <;> omega))) ?_))
  refine wl_op rfl rfl (ow_lr (S := Sat _ _) (lr_load1 Tryz.underlying3 rfl rfl (by first | exact Has.here | exact Has.there (Has.here) | exact Has.there (Has.there (Has.here)) | exact Has.there (Has.there (Has.there (Has.here))) | exact Has.there (Has.there (Has.there (Has.there (Has.here)))) | exact Has.there (Has.there (Has.there (Has.there (Has.there (Has.here))))) | exact Has.there (Has.there (Has.there (Has.there (Has.there (Has.there (Has.here)))))) | exact Has.there (Has.there (Has.there (Has.there (Has.there (Has.there (Has.there (Has.here)))))))) rfl) hS ?_)
  refine wl_op rfl rfl (ow_vr (vr_assign (v := .int .i64 _) rfl) ?_)
  refine wl_nil ?_
  refine hK4 _ _ ?_
  refine cw_ret ?_
  refine ret_one (fn := Tryz.f20) (n := 9) (t := 2) (.inl rfl) rfl rfl ?_
  exact ⟨[_], ⟨rfl, rfl⟩, hS⟩
theorem loop_Room (q p : Nat) (L : Lp) (hw : WfL L) : Fn Tryz.prog 21 [ptr q] [loopC q p L] (fun u Δs => u = .int .i64 (L.n - (L.next - L.head)) ∧ Δs = [loopC q p L]) := by
  refine Fn.mk fun E F w hS => ?_
  have := hw.n0; have := hw.n1; have := hw.h0; have := hw.h1; have := hw.h2; have := hw.x
  simp only [List.cons_append, List.nil_append] at hS
  refine returns_enter Tryz.func21 rfl Tryz.ntmps21 rfl ?_
  refine cw_seq fun K1 hK1 => ?_
  refine cw_region ?_
  refine wl_op rfl rfl (ow_vr (vr_assign (v := .int .i64 0) rfl) ?_)
  refine wl_nil ?_
  refine hK1 _ _ ?_
  refine cw_seq fun K2 hK2 => ?_
  refine cw_seq fun K3 hK3 => ?_
  refine cw_region ?_
  refine wl_op rfl rfl (ow_vr (vr_move (v := .pointer _) rfl) ?_)
  refine wl_op rfl rfl (ow_vr (vr_eqnil Tryz.underlying26 rfl) ?_)
  refine wl_nil ?_
  refine hK3 _ _ ?_
  refine cw_cond_f rfl rfl (rfl) ?_
  refine cw_skip ?_
  refine hK2 _ _ ?_
  refine cw_seq fun K4 hK4 => ?_
  refine cw_draw_sat hS [(0, 0), (1, 0), (2, 0), (3, 1), (4, 0), (5, 0), (6, 0), (7, 1), (8, 0), (9, 0), (10, 0), (11, 1), (12, 0), (13, 0), (14, 0)] mixed (planFast_ok (by kernel_rfl)) (by rintro _ _ _ ⟨⟩) ?_
  clear hS; intro w hS
  refine pl_take rfl (yes_none rfl) (vr_move (v := .pointer _) rfl) ?_
  refine pl_take rfl (yes_none rfl) (vr_nilCheck rfl) ?_
  first | (refine pl_take rfl (yes_none rfl) (vr_fieldAddr fo_62_2 rfl) ?_) | (refine pl_take rfl (yes_none rfl) (vr_fieldAddrV fo_62_2 rfl (by first | assumption | (refine Own.view ?_ (by assumption); exact fun _ => rfl) | exact OwnB.view (by assumption)) (by first | omega | (simp <;> omega))) ?_)
  refine pl_load rfl (yes_none rfl) (lr_load1 Tryz.underlying3 rfl rfl (by first | exact Has.here | exact Has.there (Has.here) | exact Has.there (Has.there (Has.here)) | exact Has.there (Has.there (Has.there (Has.here))) | exact Has.there (Has.there (Has.there (Has.there (Has.here)))) | exact Has.there (Has.there (Has.there (Has.there (Has.there (Has.here))))) | exact Has.there (Has.there (Has.there (Has.there (Has.there (Has.there (Has.here)))))) | exact Has.there (Has.there (Has.there (Has.there (Has.there (Has.there (Has.there (Has.here)))))))) rfl) ?_
  refine pl_take rfl (yes_none rfl) (vr_move (v := .pointer _) rfl) ?_
  refine pl_take rfl (yes_none rfl) (vr_nilCheck rfl) ?_
  first | (refine pl_take rfl (yes_none rfl) (vr_fieldAddr fo_62_4 rfl) ?_) | (refine pl_take rfl (yes_none rfl) (vr_fieldAddrV fo_62_4 rfl (by first | assumption | (refine Own.view ?_ (by assumption); exact fun _ => rfl) | exact OwnB.view (by assumption)) (by first | omega | (simp <;> omega))) ?_)
  refine pl_load rfl (yes_none rfl) (lr_load1 Tryz.underlying3 rfl rfl (by first | exact Has.here | exact Has.there (Has.here) | exact Has.there (Has.there (Has.here)) | exact Has.there (Has.there (Has.there (Has.here))) | exact Has.there (Has.there (Has.there (Has.there (Has.here)))) | exact Has.there (Has.there (Has.there (Has.there (Has.there (Has.here))))) | exact Has.there (Has.there (Has.there (Has.there (Has.there (Has.there (Has.here)))))) | exact Has.there (Has.there (Has.there (Has.there (Has.there (Has.there (Has.there (Has.here)))))))) rfl) ?_
  refine pl_take rfl (yes_none rfl) (vr_move (v := .pointer _) rfl) ?_
  refine pl_take rfl (yes_none rfl) (vr_nilCheck rfl) ?_
  first | (refine pl_take rfl (yes_none rfl) (vr_fieldAddr fo_62_3 rfl) ?_) | (refine pl_take rfl (yes_none rfl) (vr_fieldAddrV fo_62_3 rfl (by first | assumption | (refine Own.view ?_ (by assumption); exact fun _ => rfl) | exact OwnB.view (by assumption)) (by first | omega | (simp <;> omega))) ?_)
  refine pl_load rfl (yes_none rfl) (lr_load1 Tryz.underlying3 rfl rfl (by first | exact Has.here | exact Has.there (Has.here) | exact Has.there (Has.there (Has.here)) | exact Has.there (Has.there (Has.there (Has.here))) | exact Has.there (Has.there (Has.there (Has.there (Has.here)))) | exact Has.there (Has.there (Has.there (Has.there (Has.there (Has.here))))) | exact Has.there (Has.there (Has.there (Has.there (Has.there (Has.there (Has.here)))))) | exact Has.there (Has.there (Has.there (Has.there (Has.there (Has.there (Has.there (Has.here)))))))) rfl) ?_
  first | (refine pl_take rfl (yes_none rfl) (vr_subi rfl rfl (by unfold inI64; omega)) ?_) | (refine pl_take rfl (yes_none rfl) (vr_sub rfl rfl) ?_)
  first | (refine pl_take rfl (yes_none rfl) (vr_subi rfl rfl (by unfold inI64; omega)) ?_) | (refine pl_take rfl (yes_none rfl) (vr_sub rfl rfl) ?_)
  refine pl_take rfl (yes_none rfl) (vr_assign (v := .int .i64 _) rfl) ?_
  refine pl_nil hS ?_
  clear hS; intro w hS
  refine hK4 _ _ ?_
  refine cw_ret ?_
  refine ret_one (fn := Tryz.f21) (n := 19) (t := 2) (.inl rfl) rfl rfl ?_
  exact ⟨[_], ⟨rfl, rfl⟩, hS⟩
theorem loop_Cut (q p : Nat) (L : Lp) (e : Int) : Fn Tryz.prog 15 [ptr q, .int .i64 e] [loopC q p L] (fun u Δs => u = .int .i64 (cutL L e).1 ∧ Δs = [loopC q p (cutL L e).2]) := by
  refine Fn.mk fun E F w hS => ?_
  simp only [List.cons_append, List.nil_append] at hS
  refine returns_enter Tryz.func15 rfl Tryz.ntmps15 rfl ?_
  refine cw_seq fun K1 hK1 => ?_
  refine cw_region ?_
  refine wl_op rfl rfl (ow_vr (vr_assign (v := .int .i64 0) rfl) ?_)
  refine wl_nil ?_
  refine hK1 _ _ ?_
  refine cw_seq fun K2 hK2 => ?_
  refine cw_seq fun K3 hK3 => ?_
  refine cw_region ?_
  refine wl_op rfl rfl (ow_vr (vr_move (v := .pointer _) rfl) ?_)
  refine wl_op rfl rfl (ow_vr (vr_eqnil Tryz.underlying26 rfl) ?_)
  refine wl_op rfl rfl (ow_vr (vr_move (v := .bool _) rfl) ?_)
  refine wl_known 7 rfl (c := false) (rfl) ?_
  refine wl_yes rfl rfl rfl rfl rfl (ow_vr (vr_move (v := .int .i64 _) rfl) ?_)
  refine wl_yes rfl rfl rfl rfl rfl (ow_vr (vr_move (v := .pointer _) rfl) ?_)
  refine wl_yes rfl rfl rfl rfl rfl (ow_vr (vr_nilCheck rfl) ?_)
  first | (refine wl_yes rfl rfl rfl rfl rfl (ow_vr (vr_fieldAddr fo_62_5 rfl) ?_)) | (refine wl_yes rfl rfl rfl rfl rfl (ow_vr (vr_fieldAddrV fo_62_5 rfl (by first | assumption | (refine Own.view ?_ (by assumption); exact fun _ => rfl) | exact OwnB.view (by assumption)) (by first | omega | (simp <;> omega))) ?_))
  refine wl_yes rfl rfl rfl rfl rfl (ow_lr (S := Sat _ _) (lr_load1 Tryz.underlying3 rfl rfl (by first | exact Has.here | exact Has.there (Has.here) | exact Has.there (Has.there (Has.here)) | exact Has.there (Has.there (Has.there (Has.here))) | exact Has.there (Has.there (Has.there (Has.there (Has.here)))) | exact Has.there (Has.there (Has.there (Has.there (Has.there (Has.here))))) | exact Has.there (Has.there (Has.there (Has.there (Has.there (Has.there (Has.here)))))) | exact Has.there (Has.there (Has.there (Has.there (Has.there (Has.there (Has.there (Has.here)))))))) rfl) hS ?_)
  refine wl_yes rfl rfl rfl rfl rfl (ow_vr (vr_leq rfl rfl) ?_)
  refine wl_op rfl rfl (ow_vr (vr_pick (b := false) (v := .bool _) rfl rfl) ?_)
  refine wl_op rfl rfl (ow_vr (vr_move (v := .bool _) rfl) ?_)
  refine wl_split 15 rfl (fun hc => ?_) (fun hc => ?_)
  · (try simp only [decide_eq_true_eq, decide_eq_false_iff_not, Bool.not_eq_true, Bool.not_eq_false, Bool.not_eq_true', Bool.not_eq_false', Bool.and_eq_true, Bool.or_eq_true, Bool.and_eq_false_iff, Bool.or_eq_false_iff, Int.not_lt, Int.not_le, gt_iff_lt, ge_iff_le, ne_eq, Decidable.not_not, beq_iff_eq] at hc)
    have hg15 := hc; clear hc
    refine wl_noD rfl rfl rfl rfl rfl rfl ?_
    refine wl_noD rfl rfl rfl rfl rfl rfl ?_
    refine wl_op rfl rfl (ow_vr (vr_pick (b := true) (v := .bool _) rfl rfl) ?_)
    refine wl_nil ?_
    refine hK3 _ _ ?_
    refine cw_cond_t rfl rfl (rfl) ?_
    refine cw_seq fun K4 hK4 => ?_
    have he : cutL L e = (1, L) := by rw [cutL, if_pos (by omega)]
    refine cw_region ?_
    refine wl_op rfl rfl (ow_vr (vr_assign (v := .int .i64 1) rfl) ?_)
    refine wl_nil ?_
    refine hK4 _ _ ?_
    refine cw_ret ?_
    refine thenF_ret (?_)
    refine ret_one (fn := Tryz.f15) (n := 30) (t := 4) (.inl rfl) rfl rfl ?_
    exact ⟨[_], ⟨by rw [he] <;> rfl, by rw [he]⟩, hS⟩
  · (try simp only [decide_eq_true_eq, decide_eq_false_iff_not, Bool.not_eq_true, Bool.not_eq_false, Bool.not_eq_true', Bool.not_eq_false', Bool.and_eq_true, Bool.or_eq_true, Bool.and_eq_false_iff, Bool.or_eq_false_iff, Int.not_lt, Int.not_le, gt_iff_lt, ge_iff_le, ne_eq, Decidable.not_not, beq_iff_eq] at hc)
    have hg15 := hc; clear hc
    refine wl_yes rfl rfl rfl rfl rfl (ow_vr (vr_move (v := .int .i64 _) rfl) ?_)
    refine wl_yes rfl rfl rfl rfl rfl (ow_vr (vr_geq rfl rfl) ?_)
    refine wl_op rfl rfl (ow_vr (vr_pick (b := false) (v := .bool _) rfl rfl) ?_)
    refine wl_nil ?_
    refine hK3 _ _ ?_
    refine cw_cond rfl rfl (fun hc => ?_) (fun hc => ?_)
    · (try simp only [decide_eq_true_eq, decide_eq_false_iff_not, Bool.not_eq_true, Bool.not_eq_false, Bool.not_eq_true', Bool.not_eq_false', Bool.and_eq_true, Bool.or_eq_true, Bool.and_eq_false_iff, Bool.or_eq_false_iff, Int.not_lt, Int.not_le, gt_iff_lt, ge_iff_le, ne_eq, Decidable.not_not, beq_iff_eq] at hc)
      have hc0 := hc; clear hc
      refine cw_seq fun K5 hK5 => ?_
      have he : cutL L e = (1, L) := by rw [cutL, if_pos (by omega)]
      refine cw_region ?_
      refine wl_op rfl rfl (ow_vr (vr_assign (v := .int .i64 1) rfl) ?_)
      refine wl_nil ?_
      refine hK5 _ _ ?_
      refine cw_ret ?_
      refine thenF_ret (?_)
      refine ret_one (fn := Tryz.f15) (n := 30) (t := 4) (.inl rfl) rfl rfl ?_
      exact ⟨[_], ⟨by rw [he] <;> rfl, by rw [he]⟩, hS⟩
    · (try simp only [decide_eq_true_eq, decide_eq_false_iff_not, Bool.not_eq_true, Bool.not_eq_false, Bool.not_eq_true', Bool.not_eq_false', Bool.and_eq_true, Bool.or_eq_true, Bool.and_eq_false_iff, Bool.or_eq_false_iff, Int.not_lt, Int.not_le, gt_iff_lt, ge_iff_le, ne_eq, Decidable.not_not, beq_iff_eq] at hc)
      have hc0 := hc; clear hc
      refine cw_skip ?_
      refine hK2 _ _ ?_
      refine cw_seq fun K6 hK6 => ?_
      have he : cutL L e = (0, { L with head := L.next, epoch := e }) := by rw [cutL, if_neg (by omega)]
      refine cw_region ?_
      refine wl_op rfl rfl (ow_vr (vr_move (v := .pointer _) rfl) ?_)
      refine wl_op rfl rfl (ow_vr (vr_move (v := .pointer _) rfl) ?_)
      refine wl_op rfl rfl (ow_vr (vr_move (v := .pointer _) rfl) ?_)
      refine wl_op rfl rfl (ow_vr (vr_nilCheck rfl) ?_)
      first | (refine wl_op rfl rfl (ow_vr (vr_fieldAddr fo_62_4 rfl) ?_)) | (refine wl_op rfl rfl (ow_vr (vr_fieldAddrV fo_62_4 rfl (by first | assumption | (refine Own.view ?_ (by assumption); exact fun _ => rfl) | exact OwnB.view (by assumption)) (by first | omega | (simp <;> omega))) ?_))
      refine wl_op rfl rfl (ow_lr (S := Sat _ _) (lr_load1 Tryz.underlying3 rfl rfl (by first | exact Has.here | exact Has.there (Has.here) | exact Has.there (Has.there (Has.here)) | exact Has.there (Has.there (Has.there (Has.here))) | exact Has.there (Has.there (Has.there (Has.there (Has.here)))) | exact Has.there (Has.there (Has.there (Has.there (Has.there (Has.here))))) | exact Has.there (Has.there (Has.there (Has.there (Has.there (Has.there (Has.here)))))) | exact Has.there (Has.there (Has.there (Has.there (Has.there (Has.there (Has.there (Has.here)))))))) rfl) hS ?_)
      refine wl_op rfl rfl (ow_vr (vr_move (v := .int .i64 _) rfl) ?_)
      refine wl_op rfl rfl (ow_vr (vr_nilCheck rfl) ?_)
      first | (refine wl_op rfl rfl (ow_vr (vr_fieldAddr fo_62_3 rfl) ?_)) | (refine wl_op rfl rfl (ow_vr (vr_fieldAddrV fo_62_3 rfl (by first | assumption | (refine Own.view ?_ (by assumption); exact fun _ => rfl) | exact OwnB.view (by assumption)) (by first | omega | (simp <;> omega))) ?_))
      refine wl_op rfl rfl (ow_store1 (v := .int .i64 _) hS sz_3 rfl rfl (by first | rfl | exact Own.isOne (by assumption)) (by first | exact Has.here | exact Has.there (Has.here) | exact Has.there (Has.there (Has.here)) | exact Has.there (Has.there (Has.there (Has.here))) | exact Has.there (Has.there (Has.there (Has.there (Has.here)))) | exact Has.there (Has.there (Has.there (Has.there (Has.there (Has.here))))) | exact Has.there (Has.there (Has.there (Has.there (Has.there (Has.there (Has.here)))))) | exact Has.there (Has.there (Has.there (Has.there (Has.there (Has.there (Has.there (Has.here)))))))) (by simp) ?_)
      clear hS; intro w hS; try simp only [List.set_cons_zero, List.set_cons_succ] at hS
      refine wl_op rfl rfl (ow_vr (vr_nilCheck rfl) ?_)
      first | (refine wl_op rfl rfl (ow_vr (vr_fieldAddr fo_62_5 rfl) ?_)) | (refine wl_op rfl rfl (ow_vr (vr_fieldAddrV fo_62_5 rfl (by first | assumption | (refine Own.view ?_ (by assumption); exact fun _ => rfl) | exact OwnB.view (by assumption)) (by first | omega | (simp <;> omega))) ?_))
      refine wl_op rfl rfl (ow_store1 (v := .int .i64 _) hS sz_3 rfl rfl (by first | rfl | exact Own.isOne (by assumption)) (by first | exact Has.here | exact Has.there (Has.here) | exact Has.there (Has.there (Has.here)) | exact Has.there (Has.there (Has.there (Has.here))) | exact Has.there (Has.there (Has.there (Has.there (Has.here)))) | exact Has.there (Has.there (Has.there (Has.there (Has.there (Has.here))))) | exact Has.there (Has.there (Has.there (Has.there (Has.there (Has.there (Has.here)))))) | exact Has.there (Has.there (Has.there (Has.there (Has.there (Has.there (Has.there (Has.here)))))))) (by simp) ?_)
      clear hS; intro w hS; try simp only [List.set_cons_zero, List.set_cons_succ] at hS
      refine wl_nil ?_
      refine hK6 _ _ ?_
      refine cw_seq fun K7 hK7 => ?_
      refine cw_region ?_
      refine wl_op rfl rfl (ow_vr (vr_assign (v := .int .i64 0) rfl) ?_)
      refine wl_nil ?_
      refine hK7 _ _ ?_
      refine cw_ret ?_
      refine ret_one (fn := Tryz.f15) (n := 30) (t := 4) (.inl rfl) rfl rfl ?_
      exact ⟨[_], ⟨by rw [he] <;> rfl, by rw [he]⟩, hS⟩
end
end Go.Proofs.YtjcagoighpmdkaaGreatDoor
