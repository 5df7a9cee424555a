/- What package flittingbook marks with, and when two lists of texts, or of entries, are alike. -/
import Derived.Test.YtjcagoighpmdkaaGreatDoorKept
import Derived.Test.YtjcagoighpmdkaaGreatDoorSame
import Derived.Test.YtjcagoighpmdkaaGreatDoorBook
namespace Go.Proofs.YtjcagoighpmdkaaGreatDoor
open Go Go.RowKit
set_option linter.unusedVariables false
set_option linter.unusedSimpArgs false
attribute [local irreducible] actF WL CW OW PL SW VR LR yes Returns Fn
def mkI (i k : Nat) : Int := -1000000 * (i : Int) - (k : Int) - 7
def mkC (i k : Nat) : Int × Int := (-1000 * (i : Int) - (k : Int) - 1, 0)
def mkE (i k : Nat) : Entr := ⟨-1000 * (i : Int) - (k : Int) - 1, 0, 0, 0, 0⟩
def mkT (i k : Nat) : List UInt8 := [109, UInt8.ofNat (65 + i % 26), UInt8.ofNat (65 + i / 26 % 26), UInt8.ofNat (48 + k % 10), UInt8.ofNat (48 + k / 10 % 10), UInt8.ofNat (48 + k / 100 % 10)]
theorem entr_ext {a b : Entr} (h : a.kind = b.kind ∧ a.lsn = b.lsn ∧ a.epoch = b.epoch ∧ a.cell = b.cell ∧ a.value = b.value) : a = b := by
  cases a; cases b; simp at h; simp; exact h
instance : DecidableEq Entr := fun a b => decidable_of_iff (a.kind = b.kind ∧ a.lsn = b.lsn ∧ a.epoch = b.epoch ∧ a.cell = b.cell ∧ a.value = b.value) ⟨entr_ext, fun h => by subst h; exact ⟨rfl, rfl, rfl, rfl, rfl⟩⟩
theorem mix_set {α : Type} {M xs : List α} {k : Nat} {y : α} (h : k ≤ M.length) (hk : k < xs.length) (hy : M[k]? = some y) : (M.take k ++ xs.drop k).set k y = M.take (k + 1) ++ xs.drop (k + 1) := by
  have hl : (M.take k).length = k := by simp; omega
  rw [take_snoc hy, List.drop_eq_getElem_cons hk, List.set_append_right _ _ (by omega), hl, Nat.sub_self, List.set_cons_zero, List.append_assoc]; rfl
theorem i64_as {a b : Int} (h : a = b) : Value.int .i64 a = Value.int .i64 b := congrArg _ h
theorem book_name (i k : Nat) (hi : i ≤ 1000) (hk : k ≤ 5000000) : FnV Tryz.prog 94 [.int .i64 (i : Int), .int .i64 (k : Int)] (str (mkT i k)) := by
  refine FnV.mk fun E F w hS => ?_
  refine returns_enter Tryz.func94 rfl Tryz.ntmps94 rfl ?_
  refine cw_seq fun K1 hK1 => ?_
  refine cw_region ?_
  refine wl_op rfl rfl (ow_vr (vr_assign (v := str []) rfl) ?_)
  refine wl_nil ?_
  refine hK1 _ _ ?_
  refine cw_seq fun K2 hK2 => ?_
  refine cw_region ?_
  refine wl_op rfl rfl (ow_vr (vr_move (v := .int .i64 _) rfl) ?_)
  refine wl_op rfl rfl (ow_vr (vr_as (v' := .int .i64 ((i % 26 : Nat) : Int)) (vr_rem rfl rfl (by omega) (by omega)) (i64_as (by omega))) ?_)
  refine wl_op rfl rfl (ow_vr (vr_as (v' := .int .i64 ((65 + i % 26 : Nat) : Int)) (vr_addi rfl rfl (by unfold inI64; omega)) (i64_as (by omega))) ?_)
  first | (refine wl_op rfl rfl (ow_vr (vr_conv_byte Tryz.underlying3 Tryz.underlying5 rfl) ?_)) | (refine wl_op rfl rfl (ow_vr (vr_conv_int Tryz.underlying3 Tryz.underlying5 rfl) ?_))
  refine wl_op rfl rfl (ow_vr (vr_move (v := .int .i64 _) rfl) ?_)
  refine wl_op rfl rfl (ow_vr (vr_as (v' := .int .i64 ((i / 26 : Nat) : Int)) (vr_quo rfl rfl (by omega) (by omega)) (i64_as (by omega))) ?_)
  refine wl_op rfl rfl (ow_vr (vr_as (v' := .int .i64 ((i / 26 % 26 : Nat) : Int)) (vr_rem rfl rfl (by omega) (by omega)) (i64_as (by omega))) ?_)
  refine wl_op rfl rfl (ow_vr (vr_as (v' := .int .i64 ((65 + i / 26 % 26 : Nat) : Int)) (vr_addi rfl rfl (by unfold inI64; omega)) (i64_as (by omega))) ?_)
  first | (refine wl_op rfl rfl (ow_vr (vr_conv_byte Tryz.underlying3 Tryz.underlying5 rfl) ?_)) | (refine wl_op rfl rfl (ow_vr (vr_conv_int Tryz.underlying3 Tryz.underlying5 rfl) ?_))
  refine wl_op rfl rfl (ow_vr (vr_move (v := .int .i64 _) rfl) ?_)
  refine wl_op rfl rfl (ow_vr (vr_as (v' := .int .i64 ((k % 10 : Nat) : Int)) (vr_rem rfl rfl (by omega) (by omega)) (i64_as (by omega))) ?_)
  refine wl_op rfl rfl (ow_vr (vr_as (v' := .int .i64 ((48 + k % 10 : Nat) : Int)) (vr_addi rfl rfl (by unfold inI64; omega)) (i64_as (by omega))) ?_)
  first | (refine wl_op rfl rfl (ow_vr (vr_conv_byte Tryz.underlying3 Tryz.underlying5 rfl) ?_)) | (refine wl_op rfl rfl (ow_vr (vr_conv_int Tryz.underlying3 Tryz.underlying5 rfl) ?_))
  refine wl_op rfl rfl (ow_vr (vr_move (v := .int .i64 _) rfl) ?_)
  refine wl_op rfl rfl (ow_vr (vr_as (v' := .int .i64 ((k / 10 : Nat) : Int)) (vr_quo rfl rfl (by omega) (by omega)) (i64_as (by omega))) ?_)
  refine wl_op rfl rfl (ow_vr (vr_as (v' := .int .i64 ((k / 10 % 10 : Nat) : Int)) (vr_rem rfl rfl (by omega) (by omega)) (i64_as (by omega))) ?_)
  refine wl_op rfl rfl (ow_vr (vr_as (v' := .int .i64 ((48 + k / 10 % 10 : Nat) : Int)) (vr_addi rfl rfl (by unfold inI64; omega)) (i64_as (by omega))) ?_)
  first | (refine wl_op rfl rfl (ow_vr (vr_conv_byte Tryz.underlying3 Tryz.underlying5 rfl) ?_)) | (refine wl_op rfl rfl (ow_vr (vr_conv_int Tryz.underlying3 Tryz.underlying5 rfl) ?_))
  refine wl_op rfl rfl (ow_vr (vr_move (v := .int .i64 _) rfl) ?_)
  refine wl_op rfl rfl (ow_vr (vr_as (v' := .int .i64 ((k / 100 : Nat) : Int)) (vr_quo rfl rfl (by omega) (by omega)) (i64_as (by omega))) ?_)
  refine wl_op rfl rfl (ow_vr (vr_as (v' := .int .i64 ((k / 100 % 10 : Nat) : Int)) (vr_rem rfl rfl (by omega) (by omega)) (i64_as (by omega))) ?_)
  refine wl_op rfl rfl (ow_vr (vr_as (v' := .int .i64 ((48 + k / 100 % 10 : Nat) : Int)) (vr_addi rfl rfl (by unfold inI64; omega)) (i64_as (by omega))) ?_)
  first | (refine wl_op rfl rfl (ow_vr (vr_conv_byte Tryz.underlying3 Tryz.underlying5 rfl) ?_)) | (refine wl_op rfl rfl (ow_vr (vr_conv_int Tryz.underlying3 Tryz.underlying5 rfl) ?_))
  refine wl_op rfl rfl (ow_buildSliceD (m := 1) (len := 6) (vs := [.int .u8 _, .int .u8 _, .int .u8 _, .int .u8 _, .int .u8 _, .int .u8 _]) (cs := [.int .u8 _, .int .u8 _, .int .u8 _, .int .u8 _, .int .u8 _, .int .u8 _]) hS Tryz.underlying140 if_5 rfl (by decide) (by decide) rfl rfl (by simp [Value.cells]) rfl ?_)
  clear hS; intro b28 w hS
  refine wl_op rfl rfl (ow_lr (S := Sat _ _) (lr_bytes_str (xs := mkT i k) Tryz.underlying140 Tryz.underlying5 Tryz.underlying9 rfl (View.lits rfl rfl rfl) (by exact List.Mem.head _)) hS ?_)
  refine wl_op rfl rfl (ow_vr (vr_assign (v := str _) rfl) ?_)
  refine wl_nil ?_
  refine hK2 _ _ ?_
  refine cw_ret ?_
  refine ret_one (fn := Tryz.f94) (n := 30) (t := 4) (.inl rfl) rfl rfl ?_
  exact ⟨rfl, hS.tail1⟩
theorem book_SameTexts (xs ys : List (List UInt8)) (va vb : Value) (Δa Δb : Chunk) (hva : View 1 encS va xs Δa) (hvb : View 1 encS vb ys Δb) (hn : xs.length ≤ 1000000) (hm : ys.length ≤ 1000000) : FnG Tryz.prog 70 [va, vb] [Δa, Δb] (fun u Δs => u = .bool (decide (xs = ys)) ∧ Δs = []) := by
  refine FnG.mk fun E F w hS hF => ?_
  have hFa : Δa ∈ F := hF _ (by simp)
  have hFb : Δb ∈ F := hF _ (by simp)
  refine returns_enter Tryz.func70 rfl Tryz.ntmps70 rfl ?_
  refine cw_seq fun K1 hK1 => ?_
  refine cw_region ?_
  refine wl_op rfl rfl (ow_vr (vr_assign (v := .bool false) rfl) ?_)
  refine wl_nil ?_
  refine hK1 _ _ ?_
  refine cw_seq fun K2 hK2 => ?_
  refine cw_seq fun K3 hK3 => ?_
  refine cw_region ?_
  refine wl_op rfl rfl (ow_vr (vr_move (v := va) rfl) ?_)
  refine wl_op rfl rfl (ow_vr (vr_len_v (v := va) Tryz.underlying109 rfl hva) ?_)
  refine wl_op rfl rfl (ow_vr (vr_move (v := vb) rfl) ?_)
  refine wl_op rfl rfl (ow_vr (vr_len_v (v := vb) Tryz.underlying109 rfl hvb) ?_)
  refine wl_op rfl rfl (ow_vr (vr_neq rfl rfl) ?_)
  refine wl_nil ?_
  refine hK3 _ _ ?_
  refine cw_cond rfl rfl (fun hc => ?_) (fun hc => ?_)
  · (try simp only [decide_eq_true_eq, decide_eq_false_iff_not, Bool.not_eq_true, Bool.not_eq_false, Bool.not_eq_true', Bool.not_eq_false', Bool.and_eq_true, Bool.or_eq_true, Bool.and_eq_false_iff, Bool.or_eq_false_iff, Int.not_lt, Int.not_le, gt_iff_lt, ge_iff_le, ne_eq, Decidable.not_not, beq_iff_eq] at hc)
    have hc0 := hc; clear hc
    refine cw_seq fun K4 hK4 => ?_
    refine cw_region ?_
    refine wl_op rfl rfl (ow_vr (vr_assign (v := .bool false) rfl) ?_)
    refine wl_nil ?_
    refine hK4 _ _ ?_
    refine cw_ret ?_
    refine thenF_ret (?_)
    refine ret_one (fn := Tryz.f70) (n := 27) (t := 4) (.inl rfl) rfl rfl ?_
    exact ⟨[], ⟨congrArg Value.bool (by rw [eq_comm, decide_eq_false_iff_not]; intro e; rw [e] at hc0; omega), rfl⟩, hS⟩
  · (try simp only [decide_eq_true_eq, decide_eq_false_iff_not, Bool.not_eq_true, Bool.not_eq_false, Bool.not_eq_true', Bool.not_eq_false', Bool.and_eq_true, Bool.or_eq_true, Bool.and_eq_false_iff, Bool.or_eq_false_iff, Int.not_lt, Int.not_le, gt_iff_lt, ge_iff_le, ne_eq, Decidable.not_not, beq_iff_eq] at hc)
    have hc0 := hc; clear hc
    refine cw_skip ?_
    refine hK2 _ _ ?_
    refine cw_seq fun K5 hK5 => ?_
    refine cw_seq fun K6 hK6 => ?_
    refine cw_region ?_
    refine wl_op rfl rfl (ow_vr (vr_assign (v := .int .i64 0) rfl) ?_)
    refine wl_nil ?_
    refine hK6 _ _ ?_
    refine cw_block ?_
    refine cw_loop (fun m f w => ∃ (k : Nat) (g : Nat → Value), f = (upd (upd (upd g 0 (va)) 1 (vb)) 5 (.int .i64 (k : Int))) ∧ (k ≤ xs.length ∧ xs.take k = ys.take k) ∧ m = xs.length - k ∧ Sat E (F) w) ⟨0, _, (reb (reb (reb rfl rfl) rfl) rfl), ?_, rfl, hS⟩ ?_
    · simp
    clear hS; rintro m f w ⟨k, g, rfl, hI0, rfl, hS⟩
    refine cw_seq fun K7 hK7 => ?_
    refine cw_seq fun K8 hK8 => ?_
    refine cw_region ?_
    refine wl_op rfl rfl (ow_vr (vr_move (v := .int .i64 (k : Int)) rfl) ?_)
    refine wl_op rfl rfl (ow_vr (vr_move (v := va) rfl) ?_)
    refine wl_op rfl rfl (ow_vr (vr_len_v (v := va) Tryz.underlying109 rfl hva) ?_)
    refine wl_op rfl rfl (ow_vr (vr_lss rfl rfl) ?_)
    refine wl_nil ?_
    refine hK8 _ _ ?_
    refine cw_cond rfl rfl (fun hc => ?_) (fun hc => ?_)
    · (try simp only [decide_eq_true_eq, decide_eq_false_iff_not, Bool.not_eq_true, Bool.not_eq_false, Bool.not_eq_true', Bool.not_eq_false', Bool.and_eq_true, Bool.or_eq_true, Bool.and_eq_false_iff, Bool.or_eq_false_iff, Int.not_lt, Int.not_le, gt_iff_lt, ge_iff_le, ne_eq, Decidable.not_not, beq_iff_eq] at hc)
      have hc1 := hc; clear hc
      refine cw_skip ?_
      refine hK7 _ _ ?_
      refine cw_seq fun K9 hK9 => ?_
      refine cw_block ?_
      refine cw_seq fun K10 hK10 => ?_
      obtain ⟨x, hx⟩ := get_lt (xs := xs) (k := k) (by omega)
      obtain ⟨y, hy⟩ := get_lt (xs := ys) (k := k) (by omega)
      refine cw_draw_sat hS [(0, 0), (1, 0), (2, 0), (3, 1), (4, 0), (5, 0), (6, 0), (7, 1), (8, 0), (9, 0)] mixed (planFast_ok (by kernel_rfl)) (by rintro _ _ _ ⟨⟩) ?_
      clear hS; intro w hS
      refine pl_take rfl (yes_none rfl) (vr_move (v := va) rfl) ?_
      refine pl_take rfl (yes_none rfl) (vr_move (v := .int .i64 (k : Int)) rfl) ?_
      refine pl_take rfl (yes_none rfl) (vr_indexV (v := va) Tryz.underlying109 sz_9 rfl hva rfl (by omega) (by omega)) ?_
      refine pl_load rfl (yes_none rfl) (lr_loadV1 (u := str _) Tryz.underlying9 rfl rfl hva (by repeat (first | exact List.mem_cons_self | assumption | refine List.mem_cons_of_mem _ ?_)) (hx) (by exact fun _ => rfl) (by rfl)) ?_
      refine pl_take rfl (yes_none rfl) (vr_move (v := vb) rfl) ?_
      refine pl_take rfl (yes_none rfl) (vr_move (v := .int .i64 (k : Int)) rfl) ?_
      refine pl_take rfl (yes_none rfl) (vr_indexV (v := vb) Tryz.underlying109 sz_9 rfl hvb rfl (by omega) (by omega)) ?_
      refine pl_load rfl (yes_none rfl) (lr_loadV1 (u := str _) Tryz.underlying9 rfl rfl hvb (by repeat (first | exact List.mem_cons_self | assumption | refine List.mem_cons_of_mem _ ?_)) (hy) (by exact fun _ => rfl) (by rfl)) ?_
      refine pl_take rfl (yes_none rfl) (vr_eql_s rfl rfl) ?_
      refine pl_take rfl (yes_none rfl) (vr_not rfl) ?_
      refine pl_nil hS ?_
      clear hS; intro w hS
      refine hK10 _ _ ?_
      refine cw_cond rfl rfl (fun hc => ?_) (fun hc => ?_)
      · (try simp only [decide_eq_true_eq, decide_eq_false_iff_not, Bool.not_eq_true, Bool.not_eq_false, Bool.not_eq_true', Bool.not_eq_false', Bool.and_eq_true, Bool.or_eq_true, Bool.and_eq_false_iff, Bool.or_eq_false_iff, Int.not_lt, Int.not_le, gt_iff_lt, ge_iff_le, ne_eq, Decidable.not_not, beq_iff_eq] at hc)
        have hc2 := hc; clear hc
        refine cw_seq fun K11 hK11 => ?_
        refine cw_region ?_
        refine wl_op rfl rfl (ow_vr (vr_assign (v := .bool false) rfl) ?_)
        refine wl_nil ?_
        refine hK11 _ _ ?_
        refine cw_ret ?_
        refine inB_ret (thenF_ret (thenF_ret (inB_ret (thenF_ret (?_)))))
        refine ret_one (fn := Tryz.f70) (n := 27) (t := 4) (.inl rfl) rfl rfl ?_
        exact ⟨[], ⟨congrArg Value.bool (by rw [eq_comm, decide_eq_false_iff_not]; intro e; subst e; rw [hx] at hy; cases hy; exact hc2 rfl), rfl⟩, hS⟩
      · (try simp only [decide_eq_true_eq, decide_eq_false_iff_not, Bool.not_eq_true, Bool.not_eq_false, Bool.not_eq_true', Bool.not_eq_false', Bool.and_eq_true, Bool.or_eq_true, Bool.and_eq_false_iff, Bool.or_eq_false_iff, Int.not_lt, Int.not_le, gt_iff_lt, ge_iff_le, ne_eq, Decidable.not_not, beq_iff_eq] at hc)
        have hc2 := hc; clear hc
        refine cw_skip ?_
        refine hK9 _ _ ?_
        refine cw_region ?_
        refine wl_op rfl rfl (ow_vr (vr_move (v := .int .i64 (k : Int)) rfl) ?_)
        first | (refine wl_op rfl rfl (ow_vr (vr_addi rfl rfl (by unfold inI64; omega)) ?_)) | (refine wl_op rfl rfl (ow_vr (vr_add rfl rfl) ?_))
        refine wl_op rfl rfl (ow_vr (vr_assign (v := .int .i64 _) rfl) ?_)
        refine wl_nil ?_
        refine thenF_normal ⟨_, ?_, k + 1, _, (reb (reb (reb rfl rfl) rfl) rfl), ?_, rfl, hS⟩
        · omega
        · refine ⟨by omega, ?_⟩; rw [take_snoc hx, take_snoc hy, hI0.2, hc2]
    · (try simp only [decide_eq_true_eq, decide_eq_false_iff_not, Bool.not_eq_true, Bool.not_eq_false, Bool.not_eq_true', Bool.not_eq_false', Bool.and_eq_true, Bool.or_eq_true, Bool.and_eq_false_iff, Bool.or_eq_false_iff, Int.not_lt, Int.not_le, gt_iff_lt, ge_iff_le, ne_eq, Decidable.not_not, beq_iff_eq] at hc)
      have hc1 := hc; clear hc
      refine cw_exit ?_
      refine hK5 _ _ ?_
      refine cw_seq fun K12 hK12 => ?_
      refine cw_region ?_
      refine wl_op rfl rfl (ow_vr (vr_assign (v := .bool true) rfl) ?_)
      refine wl_nil ?_
      refine hK12 _ _ ?_
      refine cw_ret ?_
      refine ret_one (fn := Tryz.f70) (n := 27) (t := 4) (.inl rfl) rfl rfl ?_
      exact ⟨[], ⟨congrArg Value.bool (by rw [eq_comm, decide_eq_true_eq]; have h := hI0.2; rwa [show k = xs.length by omega, List.take_length, List.take_of_length_le (by omega)] at h), rfl⟩, hS⟩

theorem book_SameEntries (a b : List Entr) (v u : Value) (Δ Δ' : Chunk) (hv : View 5 encE v a Δ) (hu : View 5 encE u b Δ') (hn : a.length ≤ 1000000) (hn' : b.length ≤ 1000000) :
    FnG Tryz.prog 72 [v, u] [Δ, Δ'] (fun r Δs => r = .bool (decide (a = b)) ∧ Δs = []) := by
  refine FnG.mk fun E F w hS hF => ?_
  have hF0 : Δ ∈ F := hF _ (by simp)
  have hF1 : Δ' ∈ F := hF _ (by simp)
  refine returns_enter Tryz.func72 rfl Tryz.ntmps72 rfl ?_
  refine cw_seq fun K1 hK1 => ?_
  refine cw_region ?_
  refine wl_op rfl rfl (ow_vr (vr_assign (v := .bool false) rfl) ?_)
  refine wl_nil ?_
  refine hK1 _ _ ?_
  refine cw_seq fun K2 hK2 => ?_
  refine cw_seq fun K3 hK3 => ?_
  refine cw_region ?_
  refine wl_op rfl rfl (ow_vr (vr_move (v := v) rfl) ?_)
  first | (refine wl_op rfl rfl (ow_vr (vr_len_sl Tryz.underlying63 rfl) ?_)) | (refine wl_op rfl rfl (ow_vr (vr_len_v (v := v) Tryz.underlying63 rfl (by first | assumption | (refine Own.view ?_ (by assumption); exact fun _ => rfl) | exact OwnB.view (by assumption))) ?_))
  refine wl_op rfl rfl (ow_vr (vr_move (v := u) rfl) ?_)
  first | (refine wl_op rfl rfl (ow_vr (vr_len_sl Tryz.underlying63 rfl) ?_)) | (refine wl_op rfl rfl (ow_vr (vr_len_v (v := u) Tryz.underlying63 rfl (by first | assumption | (refine Own.view ?_ (by assumption); exact fun _ => rfl) | exact OwnB.view (by assumption))) ?_))
  refine wl_op rfl rfl (ow_vr (vr_neq rfl rfl) ?_)
  refine wl_nil ?_
  refine hK3 _ _ ?_
  refine cw_cond rfl rfl (fun hc => ?_) (fun hc => ?_)
  · (try simp only [decide_eq_true_eq, decide_eq_false_iff_not, Bool.not_eq_true, Bool.not_eq_false, Bool.not_eq_true', Bool.not_eq_false', Bool.and_eq_true, Bool.or_eq_true, Bool.and_eq_false_iff, Bool.or_eq_false_iff, Int.not_lt, Int.not_le, gt_iff_lt, ge_iff_le, ne_eq, Decidable.not_not, beq_iff_eq] at hc)
    have hc0 := hc; clear hc
    refine cw_seq fun K4 hK4 => ?_
    refine cw_region ?_
    refine wl_op rfl rfl (ow_vr (vr_assign (v := .bool false) rfl) ?_)
    refine wl_nil ?_
    refine hK4 _ _ ?_
    refine cw_ret ?_
    refine thenF_ret (?_)
    refine ret_one (fn := Tryz.f72) (n := 27) (t := 4) (.inl rfl) rfl rfl ?_
    exact ⟨[], ⟨congrArg Value.bool (by first | (symm; rw [decide_eq_false_iff_not]; intro e; subst e; omega) | (have h1 := hI0.2; rw [show k = a.length by omega, List.take_length, hl, List.take_length] at h1; symm; exact decide_eq_true h1) | (symm; rw [decide_eq_false_iff_not]; intro e; subst e; rw [hx] at hy; cases hy; simp at hc2)), rfl⟩, hS⟩
  · (try simp only [decide_eq_true_eq, decide_eq_false_iff_not, Bool.not_eq_true, Bool.not_eq_false, Bool.not_eq_true', Bool.not_eq_false', Bool.and_eq_true, Bool.or_eq_true, Bool.and_eq_false_iff, Bool.or_eq_false_iff, Int.not_lt, Int.not_le, gt_iff_lt, ge_iff_le, ne_eq, Decidable.not_not, beq_iff_eq] at hc)
    have hc0 := hc; clear hc
    refine cw_skip ?_
    refine hK2 _ _ ?_
    refine cw_seq fun K5 hK5 => ?_
    refine cw_seq fun K6 hK6 => ?_
    have hl : a.length = b.length := by omega
    refine cw_region ?_
    refine wl_op rfl rfl (ow_vr (vr_assign (v := .int .i64 0) rfl) ?_)
    refine wl_nil ?_
    refine hK6 _ _ ?_
    refine cw_block ?_
    refine cw_loop (fun m f w => ∃ (k : Nat) (g : Nat → Value), f = (upd (upd (upd g 0 (v)) 1 (u)) 5 (.int .i64 (k : Int))) ∧ (k ≤ a.length ∧ a.take k = b.take k) ∧ m = a.length - k ∧ Sat E (F) w) ⟨0, _, (reb (reb (reb rfl rfl) rfl) rfl), ?_, rfl, hS⟩ ?_
    · exact ⟨by omega, by simp⟩
    clear hS; rintro m f w ⟨k, g, rfl, hI0, rfl, hS⟩
    refine cw_seq fun K7 hK7 => ?_
    refine cw_seq fun K8 hK8 => ?_
    refine cw_region ?_
    refine wl_op rfl rfl (ow_vr (vr_move (v := .int .i64 (k : Int)) rfl) ?_)
    refine wl_op rfl rfl (ow_vr (vr_move (v := v) rfl) ?_)
    first | (refine wl_op rfl rfl (ow_vr (vr_len_sl Tryz.underlying63 rfl) ?_)) | (refine wl_op rfl rfl (ow_vr (vr_len_v (v := v) Tryz.underlying63 rfl (by first | assumption | (refine Own.view ?_ (by assumption); exact fun _ => rfl) | exact OwnB.view (by assumption))) ?_))
    refine wl_op rfl rfl (ow_vr (vr_lss rfl rfl) ?_)
    refine wl_nil ?_
    refine hK8 _ _ ?_
    refine cw_cond rfl rfl (fun hc => ?_) (fun hc => ?_)
    · (try simp only [decide_eq_true_eq, decide_eq_false_iff_not, Bool.not_eq_true, Bool.not_eq_false, Bool.not_eq_true', Bool.not_eq_false', Bool.and_eq_true, Bool.or_eq_true, Bool.and_eq_false_iff, Bool.or_eq_false_iff, Int.not_lt, Int.not_le, gt_iff_lt, ge_iff_le, ne_eq, Decidable.not_not, beq_iff_eq] at hc)
      have hc1 := hc; clear hc
      refine cw_skip ?_
      refine hK7 _ _ ?_
      refine cw_seq fun K9 hK9 => ?_
      refine cw_block ?_
      refine cw_seq fun K10 hK10 => ?_
      obtain ⟨x, hx⟩ := get_lt (xs := a) (k := k) (by omega)
      obtain ⟨y, hy⟩ := get_lt (xs := b) (k := k) (by omega)
      refine cw_draw_sat hS [(0, 0), (1, 0), (2, 0), (3, 1), (4, 0), (5, 0), (6, 0), (7, 1), (8, 0), (9, 0)] mixed (planFast_ok (by kernel_rfl)) (by rintro _ _ _ ⟨⟩) ?_
      clear hS; intro w hS
      refine pl_take rfl (yes_none rfl) (vr_move (v := v) rfl) ?_
      refine pl_take rfl (yes_none rfl) (vr_move (v := .int .i64 (k : Int)) rfl) ?_
      first | (refine pl_take rfl (yes_none rfl) (vr_indexAddr Tryz.underlying63 sz_74 rfl rfl (by omega) (by omega)) ?_) | (refine pl_take rfl (yes_none rfl) (vr_indexV (v := v) Tryz.underlying63 sz_74 rfl (by first | assumption | (refine Own.view ?_ (by assumption); exact fun _ => rfl) | exact OwnB.view (by assumption)) rfl (by omega) (by first | omega | (simp <;> omega))) ?_)
      refine pl_load rfl (yes_none rfl) (lr_loadVA (cs := [.int .i64 _, .int .i64 _, .int .i64 _, .int .i64 _, .int .i64 _]) Tryz.underlying74 rfl sz_74 rfl hv (by repeat (first | exact List.mem_cons_self | assumption | refine List.mem_cons_of_mem _ ?_)) (hx) (by exact fun _ => rfl) (by rfl)) ?_
      refine pl_take rfl (yes_none rfl) (vr_move (v := u) rfl) ?_
      refine pl_take rfl (yes_none rfl) (vr_move (v := .int .i64 (k : Int)) rfl) ?_
      first | (refine pl_take rfl (yes_none rfl) (vr_indexAddr Tryz.underlying63 sz_74 rfl rfl (by omega) (by omega)) ?_) | (refine pl_take rfl (yes_none rfl) (vr_indexV (v := u) Tryz.underlying63 sz_74 rfl (by first | assumption | (refine Own.view ?_ (by assumption); exact fun _ => rfl) | exact OwnB.view (by assumption)) rfl (by omega) (by first | omega | (simp <;> omega))) ?_)
      refine pl_load rfl (yes_none rfl) (lr_loadVA (cs := [.int .i64 _, .int .i64 _, .int .i64 _, .int .i64 _, .int .i64 _]) Tryz.underlying74 rfl sz_74 rfl hu (by repeat (first | exact List.mem_cons_self | assumption | refine List.mem_cons_of_mem _ ?_)) (hy) (by exact fun _ => rfl) (by rfl)) ?_
      refine pl_take rfl (yes_none rfl) (vr_eql_st eg_74 rfl rfl (eq_74 _ _ _ _ _ _ _ _ _ _)) ?_
      refine pl_take rfl (yes_none rfl) (vr_not rfl) ?_
      refine pl_nil hS ?_
      clear hS; intro w hS
      refine hK10 _ _ ?_
      refine cw_cond rfl rfl (fun hc => ?_) (fun hc => ?_)
      · (try simp only [decide_eq_true_eq, decide_eq_false_iff_not, Bool.not_eq_true, Bool.not_eq_false, Bool.not_eq_true', Bool.not_eq_false', Bool.and_eq_true, Bool.or_eq_true, Bool.and_eq_false_iff, Bool.or_eq_false_iff, Int.not_lt, Int.not_le, gt_iff_lt, ge_iff_le, ne_eq, Decidable.not_not, beq_iff_eq] at hc)
        have hc2 := hc; clear hc
        refine cw_seq fun K11 hK11 => ?_
        refine cw_region ?_
        refine wl_op rfl rfl (ow_vr (vr_assign (v := .bool false) rfl) ?_)
        refine wl_nil ?_
        refine hK11 _ _ ?_
        refine cw_ret ?_
        refine inB_ret (thenF_ret (thenF_ret (inB_ret (thenF_ret (?_)))))
        refine ret_one (fn := Tryz.f72) (n := 27) (t := 4) (.inl rfl) rfl rfl ?_
        exact ⟨[], ⟨congrArg Value.bool (by first | (symm; rw [decide_eq_false_iff_not]; intro e; subst e; omega) | (have h1 := hI0.2; rw [show k = a.length by omega, List.take_length, hl, List.take_length] at h1; symm; exact decide_eq_true h1) | (symm; rw [decide_eq_false_iff_not]; intro e; subst e; rw [hx] at hy; cases hy; simp at hc2)), rfl⟩, hS⟩
      · (try simp only [decide_eq_true_eq, decide_eq_false_iff_not, Bool.not_eq_true, Bool.not_eq_false, Bool.not_eq_true', Bool.not_eq_false', Bool.and_eq_true, Bool.or_eq_true, Bool.and_eq_false_iff, Bool.or_eq_false_iff, Int.not_lt, Int.not_le, gt_iff_lt, ge_iff_le, ne_eq, Decidable.not_not, beq_iff_eq] at hc)
        have hc2 := hc; clear hc
        refine cw_skip ?_
        refine hK9 _ _ ?_
        refine cw_region ?_
        refine wl_op rfl rfl (ow_vr (vr_move (v := .int .i64 (k : Int)) rfl) ?_)
        first | (refine wl_op rfl rfl (ow_vr (vr_addi rfl rfl (by unfold inI64; omega)) ?_)) | (refine wl_op rfl rfl (ow_vr (vr_add rfl rfl) ?_))
        refine wl_op rfl rfl (ow_vr (vr_assign (v := .int .i64 _) rfl) ?_)
        refine wl_nil ?_
        refine thenF_normal ⟨_, ?_, k + 1, _, (reb (reb (reb rfl rfl) rfl) rfl), ?_, rfl, hS⟩
        · omega
        · refine ⟨by omega, ?_⟩; rw [take_snoc hx, take_snoc hy, hI0.2]; congr 2; cases x; cases y; simp at hc2; simp; exact hc2
    · (try simp only [decide_eq_true_eq, decide_eq_false_iff_not, Bool.not_eq_true, Bool.not_eq_false, Bool.not_eq_true', Bool.not_eq_false', Bool.and_eq_true, Bool.or_eq_true, Bool.and_eq_false_iff, Bool.or_eq_false_iff, Int.not_lt, Int.not_le, gt_iff_lt, ge_iff_le, ne_eq, Decidable.not_not, beq_iff_eq] at hc)
      have hc1 := hc; clear hc
      refine cw_exit ?_
      refine hK5 _ _ ?_
      refine cw_seq fun K12 hK12 => ?_
      refine cw_region ?_
      refine wl_op rfl rfl (ow_vr (vr_assign (v := .bool true) rfl) ?_)
      refine wl_nil ?_
      refine hK12 _ _ ?_
      refine cw_ret ?_
      refine ret_one (fn := Tryz.f72) (n := 27) (t := 4) (.inl rfl) rfl rfl ?_
      exact ⟨[], ⟨congrArg Value.bool (by first | (symm; rw [decide_eq_false_iff_not]; intro e; subst e; omega) | (have h1 := hI0.2; rw [show k = a.length by omega, List.take_length, hl, List.take_length] at h1; symm; exact decide_eq_true h1) | (symm; rw [decide_eq_false_iff_not]; intro e; subst e; rw [hx] at hy; cases hy; simp at hc2)), rfl⟩, hS⟩

end Go.Proofs.YtjcagoighpmdkaaGreatDoor
