/- SectorOrder, SectorArms, SectorLasts. -/
import Derived.Test.YtjhbmogpicddeaaLawSector
namespace Go.Proofs.Ytjhbmogpicddeaa
open Go Go.RowKit
set_option linter.unusedVariables false
set_option linter.unusedSimpArgs false
attribute [local irreducible] actF WL CW OW PL SW VR LR yes Returns Fn
/-! plain -/
theorem crashM_snoc (ks : List Int) (x : Wr) : ∀ (ws : List Wr) (i : Nat) (mp : Int → Option (List UInt8)), crashM ks i mp (ws ++ [x]) = if keptB ks (i + ws.length) then setM (crashM ks i mp ws) x.1 x.2 else crashM ks i mp ws
  | [], i, mp => by
    simp only [List.nil_append, crashM, List.length_nil, Nat.add_zero]
  | w :: ws, i, mp => by
    rw [List.cons_append, crashM, crashM_snoc ks x ws, crashM, List.length_cons, show i + (ws.length + 1) = i + 1 + ws.length by omega]
/-- Writes of one sector. -/
def onesW (l : List (List UInt8)) : List Wr := l.map fun s => (1, fullB s)
theorem onesW_length (l : List (List UInt8)) : (onesW l).length = l.length := by simp [onesW]
theorem onesW_snoc (l : List (List UInt8)) (s : List UInt8) : onesW (l ++ [s]) = onesW l ++ [(1, fullB s)] := by simp [onesW]
def orderD (l : List (List UInt8)) (n : Nat) : Dsk := { newD 2 with waits := onesW l, deeds := (n : Int) }
def wantO (ks : List Int) (l : List (List UInt8)) : List UInt8 := (crashM ks 0 (fun _ => none) (onesW l) 1).getD zeros32
theorem full_nil : fullB [] = zeros32 := rfl
theorem sector_order (l : List (List UInt8)) (vl : Value) (Δl : Chunk) (hvl : View 1 encS vl l Δl) (hl : ∀ x ∈ l, x.length ≤ 9223372036854775807) (hll : l.length ≤ maxLen) (ks : List Int) (vk : Value) (Δk : Chunk) (hvk : View 1 encI vk ks Δk) (hkl : ks.length ≤ maxLen) :
    FnG Try.prog 3 [vl, vk] [Δl, Δk] (fun u Δs => u = .bool true ∧ Δs = []) := by
  refine FnG.mk fun E F w hS hF => ?_
  have hFl : Δl ∈ F := hF _ (by simp)
  have hFk : Δk ∈ F := hF _ (by simp)
  refine returns_enter Try.func3 rfl Try.ntmps3 rfl ?_
  refine cw_seq fun K1 hK1 => ?_
  refine cw_region ?_
  refine wl_op rfl rfl (ow_vr (vr_assign (v := .bool false) rfl) ?_)
  refine wl_nil ?_
  refine hK1 _ _ ?_
  refine cw_seq fun K2 hK2 => ?_
  refine cw_seq fun K3 hK3 => ?_
  refine cw_region ?_
  refine wl_op rfl rfl (ow_vr (vr_move (v := vl) rfl) ?_)
  first | (refine wl_op rfl rfl (ow_vr (vr_len_sl Try.underlying22 rfl) ?_)) | (refine wl_op rfl rfl (ow_vr (vr_len_v (v := vl) Try.underlying22 rfl (by first | assumption | (refine Own.view ?_ (by assumption); exact fun _ => rfl) | exact OwnB.view (by assumption))) ?_))
  refine wl_op rfl rfl (ow_vr (vr_gtr rfl rfl) ?_)
  refine wl_op rfl rfl (ow_vr (vr_move (v := .bool _) rfl) ?_)
  refine wl_split 15 rfl (fun hc => ?_) (fun hc => ?_)
  · (try simp only [decide_eq_true_eq, decide_eq_false_iff_not, Bool.not_eq_true, Bool.not_eq_false, Bool.not_eq_true', Bool.not_eq_false', Bool.and_eq_true, Bool.or_eq_true, Bool.and_eq_false_iff, Bool.or_eq_false_iff, Int.not_lt, Int.not_le, gt_iff_lt, ge_iff_le, ne_eq, Decidable.not_not, beq_iff_eq] at hc)
    have hg15 := hc; clear hc
    refine wl_noD rfl rfl rfl rfl rfl rfl ?_
    refine wl_noD rfl rfl rfl rfl rfl rfl ?_
    refine wl_noD rfl rfl rfl rfl rfl rfl ?_
    refine wl_op rfl rfl (ow_vr (vr_pick (b := true) (v := .bool _) rfl rfl) ?_)
    refine wl_op rfl rfl (ow_vr (vr_move (v := .bool _) rfl) ?_)
    refine wl_noD rfl rfl rfl rfl rfl rfl ?_
    refine wl_noD rfl rfl rfl rfl rfl rfl ?_
    refine wl_op rfl rfl (ow_vr (vr_pick (b := true) (v := .bool _) rfl rfl) ?_)
    refine wl_nil ?_
    refine hK3 _ _ ?_
    refine cw_cond_t rfl rfl (rfl) ?_
    refine cw_seq fun K4 hK4 => ?_
    refine cw_region ?_
    refine wl_op rfl rfl (ow_fn (vs := []) en_12 rfl hS (alive2) ?_)
    clear hS; rintro _ _ w ⟨rfl, rfl⟩ hS; (try simp only [List.cons_append, List.nil_append] at hS)
    refine wl_op rfl rfl (ow_vr (vr_assign (v := .bool _) rfl) ?_)
    refine wl_nil ?_
    refine hK4 _ _ ?_
    refine cw_ret ?_
    refine thenF_ret (?_)
    refine ret_one (fn := Try.f3) (n := 93) (t := 4) (.inl rfl) rfl rfl ?_
    exact ⟨[], ⟨rfl, rfl⟩, hS⟩
  · (try simp only [decide_eq_true_eq, decide_eq_false_iff_not, Bool.not_eq_true, Bool.not_eq_false, Bool.not_eq_true', Bool.not_eq_false', Bool.and_eq_true, Bool.or_eq_true, Bool.and_eq_false_iff, Bool.or_eq_false_iff, Int.not_lt, Int.not_le, gt_iff_lt, ge_iff_le, ne_eq, Decidable.not_not, beq_iff_eq] at hc)
    have hg15 := hc; clear hc
    refine wl_yes rfl rfl rfl rfl rfl (ow_vr (vr_move (v := vk) rfl) ?_)
    first | (refine wl_yes rfl rfl rfl rfl rfl (ow_vr (vr_len_sl Try.underlying23 rfl) ?_)) | (refine wl_yes rfl rfl rfl rfl rfl (ow_vr (vr_len_v (v := vk) Try.underlying23 rfl (by first | assumption | (refine Own.view ?_ (by assumption); exact fun _ => rfl) | exact OwnB.view (by assumption))) ?_))
    refine wl_yes rfl rfl rfl rfl rfl (ow_vr (vr_gtr rfl rfl) ?_)
    refine wl_op rfl rfl (ow_vr (vr_pick (b := false) (v := .bool _) rfl rfl) ?_)
    refine wl_op rfl rfl (ow_vr (vr_move (v := .bool _) rfl) ?_)
    refine wl_split 20 rfl (fun hc => ?_) (fun hc => ?_)
    · (try simp only [decide_eq_true_eq, decide_eq_false_iff_not, Bool.not_eq_true, Bool.not_eq_false, Bool.not_eq_true', Bool.not_eq_false', Bool.and_eq_true, Bool.or_eq_true, Bool.and_eq_false_iff, Bool.or_eq_false_iff, Int.not_lt, Int.not_le, gt_iff_lt, ge_iff_le, ne_eq, Decidable.not_not, beq_iff_eq] at hc)
      have hg20 := hc; clear hc
      refine wl_noD rfl rfl rfl rfl rfl rfl ?_
      refine wl_noD rfl rfl rfl rfl rfl rfl ?_
      refine wl_op rfl rfl (ow_vr (vr_pick (b := true) (v := .bool _) rfl rfl) ?_)
      refine wl_nil ?_
      refine hK3 _ _ ?_
      refine cw_cond_t rfl rfl (rfl) ?_
      refine cw_seq fun K5 hK5 => ?_
      refine cw_region ?_
      refine wl_op rfl rfl (ow_fn (vs := []) en_12 rfl hS (alive2) ?_)
      clear hS; rintro _ _ w ⟨rfl, rfl⟩ hS; (try simp only [List.cons_append, List.nil_append] at hS)
      refine wl_op rfl rfl (ow_vr (vr_assign (v := .bool _) rfl) ?_)
      refine wl_nil ?_
      refine hK5 _ _ ?_
      refine cw_ret ?_
      refine thenF_ret (?_)
      refine ret_one (fn := Try.f3) (n := 93) (t := 4) (.inl rfl) rfl rfl ?_
      exact ⟨[], ⟨rfl, rfl⟩, hS⟩
    · (try simp only [decide_eq_true_eq, decide_eq_false_iff_not, Bool.not_eq_true, Bool.not_eq_false, Bool.not_eq_true', Bool.not_eq_false', Bool.and_eq_true, Bool.or_eq_true, Bool.and_eq_false_iff, Bool.or_eq_false_iff, Int.not_lt, Int.not_le, gt_iff_lt, ge_iff_le, ne_eq, Decidable.not_not, beq_iff_eq] at hc)
      have hg20 := hc; clear hc
      refine wl_yes rfl rfl rfl rfl rfl (ow_fn (vs := []) en_12 rfl hS (alive2) ?_)
      clear hS; rintro _ _ w ⟨rfl, rfl⟩ hS; (try simp only [List.cons_append, List.nil_append] at hS)
      refine wl_yes rfl rfl rfl rfl rfl (ow_vr (vr_not rfl) ?_)
      refine wl_op rfl rfl (ow_vr (vr_pick (b := false) (v := .bool _) rfl rfl) ?_)
      refine wl_nil ?_
      refine hK3 _ _ ?_
      refine cw_cond rfl rfl (fun hc => ?_) (fun hc => ?_)
      · (try simp only [decide_eq_true_eq, decide_eq_false_iff_not, Bool.not_eq_true, Bool.not_eq_false, Bool.not_eq_true', Bool.not_eq_false', Bool.and_eq_true, Bool.or_eq_true, Bool.and_eq_false_iff, Bool.or_eq_false_iff, Int.not_lt, Int.not_le, gt_iff_lt, ge_iff_le, ne_eq, Decidable.not_not, beq_iff_eq] at hc)
        have hc0 := hc; clear hc
        refine cw_seq fun K6 hK6 => ?_
        refine cw_region ?_
        refine wl_op rfl rfl (ow_fn (vs := []) en_12 rfl hS (alive2) ?_)
        clear hS; rintro _ _ w ⟨rfl, rfl⟩ hS; (try simp only [List.cons_append, List.nil_append] at hS)
        refine wl_op rfl rfl (ow_vr (vr_assign (v := .bool _) rfl) ?_)
        refine wl_nil ?_
        refine hK6 _ _ ?_
        refine cw_ret ?_
        refine thenF_ret (?_)
        refine ret_one (fn := Try.f3) (n := 93) (t := 4) (.inl rfl) rfl rfl ?_
        exact ⟨[], ⟨rfl, rfl⟩, hS⟩
      · (try simp only [decide_eq_true_eq, decide_eq_false_iff_not, Bool.not_eq_true, Bool.not_eq_false, Bool.not_eq_true', Bool.not_eq_false', Bool.and_eq_true, Bool.or_eq_true, Bool.and_eq_false_iff, Bool.or_eq_false_iff, Int.not_lt, Int.not_le, gt_iff_lt, ge_iff_le, ne_eq, Decidable.not_not, beq_iff_eq] at hc)
        have hc0 := hc; clear hc
        refine cw_skip ?_
        refine hK2 _ _ ?_
        refine cw_seq fun K7 hK7 => ?_
        refine cw_region ?_
        refine wl_op rfl rfl (ow_fn (vs := [.int .i64 _]) en_13 rfl hS (disk_New' (n := 2) (by omega) (by omega)) ?_)
        clear hS; rintro _ _ w ⟨p, Δ0, rfl, rfl, hd0⟩ hS; (try simp only [List.cons_append, List.nil_append] at hS)
        refine wl_op rfl rfl (ow_vr (vr_assign (v := .pointer _) rfl) ?_)
        refine wl_nil ?_
        refine hK7 _ _ ?_
        refine cw_seq fun K8 hK8 => ?_
        refine cw_seq fun K9 hK9 => ?_
        refine cw_region ?_
        refine wl_op rfl rfl (ow_vr (vr_move (v := .pointer _) rfl) ?_)
        refine wl_op rfl rfl (ow_vr (vr_eqnil Try.underlying25 rfl) ?_)
        refine wl_nil ?_
        refine hK9 _ _ ?_
        refine cw_cond_f rfl rfl (rfl) ?_
        refine cw_skip ?_
        refine hK8 _ _ ?_
        refine cw_seq fun K10 hK10 => ?_
        refine cw_region ?_
        refine wl_op rfl rfl (ow_fn (vs := [str _]) en_14 rfl hS (law_Full [] (by simp)) ?_)
        clear hS; rintro _ _ w ⟨rfl, rfl⟩ hS; (try simp only [List.cons_append, List.nil_append] at hS)
        refine wl_op rfl rfl (ow_vr (vr_assign (v := str _) rfl) ?_)
        refine wl_nil ?_
        refine hK10 _ _ ?_
        refine cw_seq fun K11 hK11 => ?_
        refine cw_seq fun K12 hK12 => ?_
        refine cw_region ?_
        refine wl_op rfl rfl (ow_vr (vr_assign (v := .int .i64 0) rfl) ?_)
        refine wl_nil ?_
        refine hK12 _ _ ?_
        refine cw_block ?_
        refine cw_loop (fun m f w => ∃ (k : Nat) (want : List UInt8) (Δd : Chunk) (g : Nat → Value), f = (upd (upd (upd (upd (upd g 0 (vl)) 1 (vk)) 5 (ptr p)) 6 (str want)) 7 (.int .i64 (k : Int))) ∧ (k ≤ l.length ∧ want = wantO ks (l.take k) ∧ DiskAt p (orderD (l.take k) k) Δd) ∧ m = l.length - k ∧ Sat E (Δd :: F) w) ⟨0, zeros32, Δ0, _, (reb (reb (reb (reb (reb rfl rfl) rfl) rfl) rfl) rfl), ?_, rfl, hS⟩ ?_
        · exact ⟨by omega, rfl, hd0⟩
        clear hS; rintro m f w ⟨k, want, Δd, g, rfl, hI0, rfl, hS⟩
        obtain ⟨hk, hw, hd⟩ := hI0
        refine cw_seq fun K13 hK13 => ?_
        refine cw_seq fun K14 hK14 => ?_
        refine cw_region ?_
        refine wl_op rfl rfl (ow_vr (vr_move (v := .int .i64 (k : Int)) rfl) ?_)
        refine wl_op rfl rfl (ow_vr (vr_move (v := vl) rfl) ?_)
        first | (refine wl_op rfl rfl (ow_vr (vr_len_sl Try.underlying22 rfl) ?_)) | (refine wl_op rfl rfl (ow_vr (vr_len_v (v := vl) Try.underlying22 rfl (by first | assumption | (refine Own.view ?_ (by assumption); exact fun _ => rfl) | exact OwnB.view (by assumption))) ?_))
        refine wl_op rfl rfl (ow_vr (vr_lss rfl rfl) ?_)
        refine wl_nil ?_
        refine hK14 _ _ ?_
        refine cw_cond rfl rfl (fun hc => ?_) (fun hc => ?_)
        · (try simp only [decide_eq_true_eq, decide_eq_false_iff_not, Bool.not_eq_true, Bool.not_eq_false, Bool.not_eq_true', Bool.not_eq_false', Bool.and_eq_true, Bool.or_eq_true, Bool.and_eq_false_iff, Bool.or_eq_false_iff, Int.not_lt, Int.not_le, gt_iff_lt, ge_iff_le, ne_eq, Decidable.not_not, beq_iff_eq] at hc)
          have hc2 := hc; clear hc
          refine cw_skip ?_
          refine hK13 _ _ ?_
          refine cw_seq fun K15 hK15 => ?_
          refine cw_block ?_
          refine cw_seq fun K16 hK16 => ?_
          refine cw_seq fun K17 hK17 => ?_
          obtain ⟨x, hx⟩ := get_lt (xs := l) (k := k) (by omega)
          have hxl := hl x (List.mem_of_getElem? hx)
          have htl : (l.take k).length = k := by rw [List.length_take]; omega
          refine cw_region ?_
          refine wl_op rfl rfl (ow_vr (vr_move (v := (ptr p)) rfl) ?_)
          refine wl_op rfl rfl (ow_vr (vr_move (v := vl) rfl) ?_)
          refine wl_op rfl rfl (ow_vr (vr_move (v := .int .i64 (k : Int)) rfl) ?_)
          first | (refine wl_op rfl rfl (ow_vr (vr_indexAddr Try.underlying22 sz_9 rfl rfl (by omega) (by omega)) ?_)) | (refine wl_op rfl rfl (ow_vr (vr_indexV (v := vl) Try.underlying22 sz_9 rfl (by first | assumption | (refine Own.view ?_ (by assumption); exact fun _ => rfl) | exact OwnB.view (by assumption)) rfl (by omega) (by first | omega | (simp <;> omega))) ?_))
          refine wl_op rfl rfl (ow_lr (S := Sat _ _) (lr_loadV1 (u := str _) Try.underlying9 rfl rfl (by first | assumption | (refine Own.view ?_ (by assumption); exact fun _ => rfl) | exact OwnB.view (by assumption)) (by first | exact List.Mem.head _ | exact List.Mem.tail _ (List.Mem.head _) | exact List.Mem.tail _ (List.Mem.tail _ (List.Mem.head _)) | exact List.Mem.tail _ (List.Mem.tail _ (List.Mem.tail _ (List.Mem.head _))) | exact List.Mem.tail _ (List.Mem.tail _ (List.Mem.tail _ (List.Mem.tail _ (List.Mem.head _)))) | exact List.Mem.tail _ (List.Mem.tail _ (List.Mem.tail _ (List.Mem.tail _ (List.Mem.tail _ (List.Mem.head _))))) | exact List.Mem.tail _ (List.Mem.tail _ (List.Mem.tail _ (List.Mem.tail _ (List.Mem.tail _ (List.Mem.tail _ (List.Mem.head _)))))) | exact List.Mem.tail _ (List.Mem.tail _ (List.Mem.tail _ (List.Mem.tail _ (List.Mem.tail _ (List.Mem.tail _ (List.Mem.tail _ (List.Mem.head _))))))) | exact List.Mem.tail _ (List.Mem.tail _ (List.Mem.tail _ (List.Mem.tail _ (List.Mem.tail _ (List.Mem.tail _ (List.Mem.tail _ (List.Mem.tail _ (List.Mem.head _)))))))) | exact (by assumption) | exact List.Mem.tail _ ((by assumption)) | exact List.Mem.tail _ (List.Mem.tail _ ((by assumption))) | exact List.Mem.tail _ (List.Mem.tail _ (List.Mem.tail _ ((by assumption)))) | exact List.Mem.tail _ (List.Mem.tail _ (List.Mem.tail _ (List.Mem.tail _ ((by assumption))))) | exact List.Mem.tail _ (List.Mem.tail _ (List.Mem.tail _ (List.Mem.tail _ (List.Mem.tail _ ((by assumption))))))) (hx) (by exact fun _ => rfl) (by rfl)) hS ?_)
          refine wl_op rfl rfl (ow_fn (vs := [str _]) en_14 rfl hS (law_Full x hxl) ?_)
          clear hS; rintro _ _ w ⟨rfl, rfl⟩ hS; (try simp only [List.cons_append, List.nil_append] at hS)
          refine wl_op rfl rfl (ow_fn (vs := [(ptr p), .int .i64 _, str _]) en_15 rfl hS (disk_WriteOk hd 1 (fullB x) (by simp [orderD, newD]) (by simp [orderD, newD, onesW_length]; omega) rfl rfl (by omega) (by simp [orderD, newD]) (fullB_length _) (by simp [orderD, newD, inI64]; omega)) ?_)
          clear hS; rintro _ _ w ⟨rfl, Δ1, rfl, hd1⟩ hS; (try simp only [List.cons_append, List.nil_append] at hS)
          refine wl_op rfl rfl (ow_vr (vr_neq rfl rfl) ?_)
          refine wl_nil ?_
          refine hK17 _ _ ?_
          refine cw_cond_f rfl rfl (by decide) ?_
          refine cw_skip ?_
          refine hK16 _ _ ?_
          refine cw_seq fun K18 hK18 => ?_
          have he : { (orderD (l.take k) k) with waits := (orderD (l.take k) k).waits ++ [(1, fullB x)], deeds := (orderD (l.take k) k).deeds + 1 } = orderD (l.take (k + 1)) (k + 1) := by rw [take_snoc hx, orderD, orderD, onesW_snoc]; rfl
          rw [he] at hd1
          have hrd : readD (orderD (l.take (k + 1)) (k + 1)) 1 = fullB x := by rw [take_snoc hx, readD, orderD, onesW_snoc, lastW_snoc, if_pos rfl]; rfl
          have htl1 : (l.take (k + 1)).length = k + 1 := by rw [List.length_take]; omega
          refine cw_region ?_
          refine wl_op rfl rfl (ow_vr (vr_move (v := (ptr p)) rfl) ?_)
          refine wl_op rfl rfl (ow_fn (vs := [(ptr p), .int .i64 _]) en_16 rfl hS (disk_ReadOk hd1 1 (by simp [orderD, newD, onesW_length]; omega) rfl (by omega) (by simp [orderD, newD])) ?_)
          clear hS; rintro _ _ w ⟨rfl, rfl⟩ hS; (try simp only [List.cons_append, List.nil_append] at hS)
          refine wl_op rfl rfl (ow_vr (vr_move (v := .tuple _) rfl) ?_)
          refine wl_op rfl rfl (ow_vr (vr_extract (v := str _) rfl rfl) ?_)
          refine wl_op rfl rfl (ow_vr (vr_extract (v := .int .i64 _) rfl rfl) ?_)
          refine wl_op rfl rfl (ow_vr (vr_assign (v := str _) rfl) ?_)
          refine wl_op rfl rfl (ow_vr (vr_assign (v := .int .i64 _) rfl) ?_)
          refine wl_nil ?_
          refine hK18 _ _ ?_
          refine cw_seq fun K19 hK19 => ?_
          refine cw_seq fun K20 hK20 => ?_
          refine cw_region ?_
          refine wl_op rfl rfl (ow_vr (vr_move (v := .int .i64 _) rfl) ?_)
          refine wl_op rfl rfl (ow_vr (vr_neq rfl rfl) ?_)
          refine wl_op rfl rfl (ow_vr (vr_move (v := .bool _) rfl) ?_)
          refine wl_known 50 rfl (c := false) (by decide) ?_
          refine wl_yes rfl rfl rfl rfl rfl (ow_vr (vr_move (v := str _) rfl) ?_)
          refine wl_yes rfl rfl rfl rfl rfl (ow_vr (vr_move (v := vl) rfl) ?_)
          refine wl_yes rfl rfl rfl rfl rfl (ow_vr (vr_move (v := .int .i64 (k : Int)) rfl) ?_)
          first | (refine wl_yes rfl rfl rfl rfl rfl (ow_vr (vr_indexAddr Try.underlying22 sz_9 rfl rfl (by omega) (by omega)) ?_)) | (refine wl_yes rfl rfl rfl rfl rfl (ow_vr (vr_indexV (v := vl) Try.underlying22 sz_9 rfl (by first | assumption | (refine Own.view ?_ (by assumption); exact fun _ => rfl) | exact OwnB.view (by assumption)) rfl (by omega) (by first | omega | (simp <;> omega))) ?_))
          refine wl_yes rfl rfl rfl rfl rfl (ow_lr (S := Sat _ _) (lr_loadV1 (u := str _) Try.underlying9 rfl rfl (by first | assumption | (refine Own.view ?_ (by assumption); exact fun _ => rfl) | exact OwnB.view (by assumption)) (by first | exact List.Mem.head _ | exact List.Mem.tail _ (List.Mem.head _) | exact List.Mem.tail _ (List.Mem.tail _ (List.Mem.head _)) | exact List.Mem.tail _ (List.Mem.tail _ (List.Mem.tail _ (List.Mem.head _))) | exact List.Mem.tail _ (List.Mem.tail _ (List.Mem.tail _ (List.Mem.tail _ (List.Mem.head _)))) | exact List.Mem.tail _ (List.Mem.tail _ (List.Mem.tail _ (List.Mem.tail _ (List.Mem.tail _ (List.Mem.head _))))) | exact List.Mem.tail _ (List.Mem.tail _ (List.Mem.tail _ (List.Mem.tail _ (List.Mem.tail _ (List.Mem.tail _ (List.Mem.head _)))))) | exact List.Mem.tail _ (List.Mem.tail _ (List.Mem.tail _ (List.Mem.tail _ (List.Mem.tail _ (List.Mem.tail _ (List.Mem.tail _ (List.Mem.head _))))))) | exact List.Mem.tail _ (List.Mem.tail _ (List.Mem.tail _ (List.Mem.tail _ (List.Mem.tail _ (List.Mem.tail _ (List.Mem.tail _ (List.Mem.tail _ (List.Mem.head _)))))))) | exact (by assumption) | exact List.Mem.tail _ ((by assumption)) | exact List.Mem.tail _ (List.Mem.tail _ ((by assumption))) | exact List.Mem.tail _ (List.Mem.tail _ (List.Mem.tail _ ((by assumption)))) | exact List.Mem.tail _ (List.Mem.tail _ (List.Mem.tail _ (List.Mem.tail _ ((by assumption))))) | exact List.Mem.tail _ (List.Mem.tail _ (List.Mem.tail _ (List.Mem.tail _ (List.Mem.tail _ ((by assumption))))))) (hx) (by exact fun _ => rfl) (by rfl)) hS ?_)
          refine wl_yes rfl rfl rfl rfl rfl (ow_fn (vs := [str _]) en_14 rfl hS (law_Full x hxl) ?_)
          clear hS; rintro _ _ w ⟨rfl, rfl⟩ hS; (try simp only [List.cons_append, List.nil_append] at hS)
          refine wl_yes rfl rfl rfl rfl rfl (ow_vr (vr_neq_s rfl rfl) ?_)
          refine wl_op rfl rfl (ow_vr (vr_pick (b := false) (v := .bool _) rfl rfl) ?_)
          refine wl_nil ?_
          refine hK20 _ _ ?_
          refine cw_cond_f rfl rfl (by simp [hrd]) ?_
          refine cw_skip ?_
          refine hK19 _ _ ?_
          refine cw_seq fun K21 hK21 => ?_
          refine cw_region ?_
          refine wl_op rfl rfl (ow_vr (vr_move (v := .int .i64 (k : Int)) rfl) ?_)
          refine wl_op rfl rfl (ow_vr (vr_move (v := vk) rfl) ?_)
          first | (refine wl_op rfl rfl (ow_vr (vr_len_sl Try.underlying23 rfl) ?_)) | (refine wl_op rfl rfl (ow_vr (vr_len_v (v := vk) Try.underlying23 rfl (by first | assumption | (refine Own.view ?_ (by assumption); exact fun _ => rfl) | exact OwnB.view (by assumption))) ?_))
          refine wl_op rfl rfl (ow_vr (vr_lss rfl rfl) ?_)
          refine wl_op rfl rfl (ow_vr (vr_move (v := .bool _) rfl) ?_)
          refine wl_split 63 rfl (fun hc => ?_) (fun hc => ?_)
          · (try simp only [decide_eq_true_eq, decide_eq_false_iff_not, Bool.not_eq_true, Bool.not_eq_false, Bool.not_eq_true', Bool.not_eq_false', Bool.and_eq_true, Bool.or_eq_true, Bool.and_eq_false_iff, Bool.or_eq_false_iff, Int.not_lt, Int.not_le, gt_iff_lt, ge_iff_le, ne_eq, Decidable.not_not, beq_iff_eq] at hc)
            have hg63 := hc; clear hc
            refine wl_yes rfl rfl rfl rfl rfl (ow_vr (vr_move (v := vk) rfl) ?_)
            refine wl_yes rfl rfl rfl rfl rfl (ow_vr (vr_move (v := .int .i64 (k : Int)) rfl) ?_)
            first | (refine wl_yes rfl rfl rfl rfl rfl (ow_vr (vr_indexAddr Try.underlying23 sz_3 rfl rfl (by omega) (by omega)) ?_)) | (refine wl_yes rfl rfl rfl rfl rfl (ow_vr (vr_indexV (v := vk) Try.underlying23 sz_3 rfl (by first | assumption | (refine Own.view ?_ (by assumption); exact fun _ => rfl) | exact OwnB.view (by assumption)) rfl (by omega) (by first | omega | (simp <;> omega))) ?_))
            refine wl_yes rfl rfl rfl rfl rfl (ow_lr (S := Sat _ _) (lr_loadV1 (u := .int .i64 _) Try.underlying3 rfl rfl (by first | assumption | (refine Own.view ?_ (by assumption); exact fun _ => rfl) | exact OwnB.view (by assumption)) (by first | exact List.Mem.head _ | exact List.Mem.tail _ (List.Mem.head _) | exact List.Mem.tail _ (List.Mem.tail _ (List.Mem.head _)) | exact List.Mem.tail _ (List.Mem.tail _ (List.Mem.tail _ (List.Mem.head _))) | exact List.Mem.tail _ (List.Mem.tail _ (List.Mem.tail _ (List.Mem.tail _ (List.Mem.head _)))) | exact List.Mem.tail _ (List.Mem.tail _ (List.Mem.tail _ (List.Mem.tail _ (List.Mem.tail _ (List.Mem.head _))))) | exact List.Mem.tail _ (List.Mem.tail _ (List.Mem.tail _ (List.Mem.tail _ (List.Mem.tail _ (List.Mem.tail _ (List.Mem.head _)))))) | exact List.Mem.tail _ (List.Mem.tail _ (List.Mem.tail _ (List.Mem.tail _ (List.Mem.tail _ (List.Mem.tail _ (List.Mem.tail _ (List.Mem.head _))))))) | exact List.Mem.tail _ (List.Mem.tail _ (List.Mem.tail _ (List.Mem.tail _ (List.Mem.tail _ (List.Mem.tail _ (List.Mem.tail _ (List.Mem.tail _ (List.Mem.head _)))))))) | exact (by assumption) | exact List.Mem.tail _ ((by assumption)) | exact List.Mem.tail _ (List.Mem.tail _ ((by assumption))) | exact List.Mem.tail _ (List.Mem.tail _ (List.Mem.tail _ ((by assumption)))) | exact List.Mem.tail _ (List.Mem.tail _ (List.Mem.tail _ (List.Mem.tail _ ((by assumption))))) | exact List.Mem.tail _ (List.Mem.tail _ (List.Mem.tail _ (List.Mem.tail _ (List.Mem.tail _ ((by assumption))))))) (List.getElem?_eq_getElem (show k < ks.length by omega)) (by exact fun _ => rfl) (by rfl)) hS ?_)
            refine wl_yes rfl rfl rfl rfl rfl (ow_vr (vr_and_any rfl rfl) ?_)
            refine wl_yes rfl rfl rfl rfl rfl (ow_vr (vr_eql rfl rfl) ?_)
            refine wl_op rfl rfl (ow_vr (vr_pick (b := true) (v := .bool _) rfl rfl) ?_)
            refine wl_nil ?_
            refine hK21 _ _ ?_
            refine cw_cond rfl rfl (fun hc => ?_) (fun hc => ?_)
            · (try simp only [decide_eq_true_eq, decide_eq_false_iff_not, Bool.not_eq_true, Bool.not_eq_false, Bool.not_eq_true', Bool.not_eq_false', Bool.and_eq_true, Bool.or_eq_true, Bool.and_eq_false_iff, Bool.or_eq_false_iff, Int.not_lt, Int.not_le, gt_iff_lt, ge_iff_le, ne_eq, Decidable.not_not, beq_iff_eq] at hc)
              have hkept := hc; clear hc
              have hkp : keptB ks k = true := by rw [kept_some (by omega)]; simpa using hkept
              have hwn : fullB x = wantO ks (l.take (k + 1)) := by rw [take_snoc hx, wantO, onesW_snoc, crashM_snoc, Nat.zero_add, onesW_length, htl, if_pos hkp]; rfl
              refine cw_region ?_
              refine wl_op rfl rfl (ow_vr (vr_move (v := vl) rfl) ?_)
              refine wl_op rfl rfl (ow_vr (vr_move (v := .int .i64 (k : Int)) rfl) ?_)
              first | (refine wl_op rfl rfl (ow_vr (vr_indexAddr Try.underlying22 sz_9 rfl rfl (by omega) (by omega)) ?_)) | (refine wl_op rfl rfl (ow_vr (vr_indexV (v := vl) Try.underlying22 sz_9 rfl (by first | assumption | (refine Own.view ?_ (by assumption); exact fun _ => rfl) | exact OwnB.view (by assumption)) rfl (by omega) (by first | omega | (simp <;> omega))) ?_))
              refine wl_op rfl rfl (ow_lr (S := Sat _ _) (lr_loadV1 (u := str _) Try.underlying9 rfl rfl (by first | assumption | (refine Own.view ?_ (by assumption); exact fun _ => rfl) | exact OwnB.view (by assumption)) (by first | exact List.Mem.head _ | exact List.Mem.tail _ (List.Mem.head _) | exact List.Mem.tail _ (List.Mem.tail _ (List.Mem.head _)) | exact List.Mem.tail _ (List.Mem.tail _ (List.Mem.tail _ (List.Mem.head _))) | exact List.Mem.tail _ (List.Mem.tail _ (List.Mem.tail _ (List.Mem.tail _ (List.Mem.head _)))) | exact List.Mem.tail _ (List.Mem.tail _ (List.Mem.tail _ (List.Mem.tail _ (List.Mem.tail _ (List.Mem.head _))))) | exact List.Mem.tail _ (List.Mem.tail _ (List.Mem.tail _ (List.Mem.tail _ (List.Mem.tail _ (List.Mem.tail _ (List.Mem.head _)))))) | exact List.Mem.tail _ (List.Mem.tail _ (List.Mem.tail _ (List.Mem.tail _ (List.Mem.tail _ (List.Mem.tail _ (List.Mem.tail _ (List.Mem.head _))))))) | exact List.Mem.tail _ (List.Mem.tail _ (List.Mem.tail _ (List.Mem.tail _ (List.Mem.tail _ (List.Mem.tail _ (List.Mem.tail _ (List.Mem.tail _ (List.Mem.head _)))))))) | exact (by assumption) | exact List.Mem.tail _ ((by assumption)) | exact List.Mem.tail _ (List.Mem.tail _ ((by assumption))) | exact List.Mem.tail _ (List.Mem.tail _ (List.Mem.tail _ ((by assumption)))) | exact List.Mem.tail _ (List.Mem.tail _ (List.Mem.tail _ (List.Mem.tail _ ((by assumption))))) | exact List.Mem.tail _ (List.Mem.tail _ (List.Mem.tail _ (List.Mem.tail _ (List.Mem.tail _ ((by assumption))))))) (hx) (by exact fun _ => rfl) (by rfl)) hS ?_)
              refine wl_op rfl rfl (ow_fn (vs := [str _]) en_14 rfl hS (law_Full x hxl) ?_)
              clear hS; rintro _ _ w ⟨rfl, rfl⟩ hS; (try simp only [List.cons_append, List.nil_append] at hS)
              refine wl_op rfl rfl (ow_vr (vr_assign (v := str _) rfl) ?_)
              refine wl_nil ?_
              refine hK15 _ _ ?_
              refine cw_region ?_
              refine wl_op rfl rfl (ow_vr (vr_move (v := .int .i64 (k : Int)) rfl) ?_)
              first | (refine wl_op rfl rfl (ow_vr (vr_addi rfl rfl (by unfold inI64; omega)) ?_)) | (refine wl_op rfl rfl (ow_vr (vr_add rfl rfl) ?_))
              refine wl_op rfl rfl (ow_vr (vr_assign (v := .int .i64 _) rfl) ?_)
              refine wl_nil ?_
              refine thenF_normal ⟨_, ?_, k + 1, fullB x, Δ1, _, (reb (reb (reb (reb (reb rfl rfl) rfl) rfl) rfl) rfl), ?_, rfl, hS⟩
              · omega
              · exact ⟨by omega, hwn, hd1⟩
            · (try simp only [decide_eq_true_eq, decide_eq_false_iff_not, Bool.not_eq_true, Bool.not_eq_false, Bool.not_eq_true', Bool.not_eq_false', Bool.and_eq_true, Bool.or_eq_true, Bool.and_eq_false_iff, Bool.or_eq_false_iff, Int.not_lt, Int.not_le, gt_iff_lt, ge_iff_le, ne_eq, Decidable.not_not, beq_iff_eq] at hc)
              have hkept := hc; clear hc
              refine cw_skip ?_
              refine hK15 _ _ ?_
              refine cw_region ?_
              refine wl_op rfl rfl (ow_vr (vr_move (v := .int .i64 (k : Int)) rfl) ?_)
              first | (refine wl_op rfl rfl (ow_vr (vr_addi rfl rfl (by unfold inI64; omega)) ?_)) | (refine wl_op rfl rfl (ow_vr (vr_add rfl rfl) ?_))
              refine wl_op rfl rfl (ow_vr (vr_assign (v := .int .i64 _) rfl) ?_)
              refine wl_nil ?_
              refine thenF_normal ⟨_, ?_, k + 1, want, Δ1, _, (reb (reb (reb (reb (reb rfl rfl) rfl) rfl) rfl) rfl), ?_, rfl, hS⟩
              · omega
              · exact ⟨by omega, (by have hkp : keptB ks k = false := (by first | (rw [kept_some (by omega)]; simpa using hkept) | exact kept_none (by omega)); rw [hw, take_snoc hx, wantO, wantO, onesW_snoc, crashM_snoc, Nat.zero_add, onesW_length, htl, if_neg (by simp [hkp])]), hd1⟩
          · (try simp only [decide_eq_true_eq, decide_eq_false_iff_not, Bool.not_eq_true, Bool.not_eq_false, Bool.not_eq_true', Bool.not_eq_false', Bool.and_eq_true, Bool.or_eq_true, Bool.and_eq_false_iff, Bool.or_eq_false_iff, Int.not_lt, Int.not_le, gt_iff_lt, ge_iff_le, ne_eq, Decidable.not_not, beq_iff_eq] at hc)
            have hg63 := hc; clear hc
            refine wl_noD rfl rfl rfl rfl rfl rfl ?_
            refine wl_noD rfl rfl rfl rfl rfl rfl ?_
            refine wl_noD rfl rfl rfl rfl rfl rfl ?_
            refine wl_noD rfl rfl rfl rfl rfl rfl ?_
            refine wl_noD rfl rfl rfl rfl rfl rfl ?_
            refine wl_noD rfl rfl rfl rfl rfl rfl ?_
            refine wl_op rfl rfl (ow_vr (vr_pick (b := false) (v := .bool _) rfl rfl) ?_)
            refine wl_nil ?_
            refine hK21 _ _ ?_
            refine cw_cond_f rfl rfl (rfl) ?_
            refine cw_skip ?_
            refine hK15 _ _ ?_
            refine cw_region ?_
            refine wl_op rfl rfl (ow_vr (vr_move (v := .int .i64 (k : Int)) rfl) ?_)
            first | (refine wl_op rfl rfl (ow_vr (vr_addi rfl rfl (by unfold inI64; omega)) ?_)) | (refine wl_op rfl rfl (ow_vr (vr_add rfl rfl) ?_))
            refine wl_op rfl rfl (ow_vr (vr_assign (v := .int .i64 _) rfl) ?_)
            refine wl_nil ?_
            refine thenF_normal ⟨_, ?_, k + 1, want, Δ1, _, (reb (reb (reb (reb (reb rfl rfl) rfl) rfl) rfl) rfl), ?_, rfl, hS⟩
            · omega
            · exact ⟨by omega, (by have hkp : keptB ks k = false := (by first | (rw [kept_some (by omega)]; simpa using hkept) | exact kept_none (by omega)); rw [hw, take_snoc hx, wantO, wantO, onesW_snoc, crashM_snoc, Nat.zero_add, onesW_length, htl, if_neg (by simp [hkp])]), hd1⟩
        · (try simp only [decide_eq_true_eq, decide_eq_false_iff_not, Bool.not_eq_true, Bool.not_eq_false, Bool.not_eq_true', Bool.not_eq_false', Bool.and_eq_true, Bool.or_eq_true, Bool.and_eq_false_iff, Bool.or_eq_false_iff, Int.not_lt, Int.not_le, gt_iff_lt, ge_iff_le, ne_eq, Decidable.not_not, beq_iff_eq] at hc)
          have hc2 := hc; clear hc
          refine cw_exit ?_
          refine hK11 _ _ ?_
          refine cw_seq fun K22 hK22 => ?_
          rw [show k = l.length by omega, List.take_length] at hw hd
          refine cw_region ?_
          refine wl_op rfl rfl (ow_vr (vr_move (v := (ptr p)) rfl) ?_)
          refine wl_op rfl rfl (ow_vr (vr_move (v := vk) rfl) ?_)
          refine wl_op rfl rfl (ow_fnm (vs := [(ptr p), vk]) en_17 rfl hS (disk_CrashM hd _ ks _ hvk (by omega) (by simp [orderD, onesW_length]; omega)) (by first | exact needs1 (by first | exact List.Mem.head _ | exact List.Mem.tail _ (List.Mem.head _) | exact List.Mem.tail _ (List.Mem.tail _ (List.Mem.head _)) | exact List.Mem.tail _ (List.Mem.tail _ (List.Mem.tail _ (List.Mem.head _))) | exact List.Mem.tail _ (List.Mem.tail _ (List.Mem.tail _ (List.Mem.tail _ (List.Mem.head _)))) | exact List.Mem.tail _ (List.Mem.tail _ (List.Mem.tail _ (List.Mem.tail _ (List.Mem.tail _ (List.Mem.head _))))) | exact List.Mem.tail _ (List.Mem.tail _ (List.Mem.tail _ (List.Mem.tail _ (List.Mem.tail _ (List.Mem.tail _ (List.Mem.head _)))))) | exact List.Mem.tail _ (List.Mem.tail _ (List.Mem.tail _ (List.Mem.tail _ (List.Mem.tail _ (List.Mem.tail _ (List.Mem.tail _ (List.Mem.head _))))))) | exact List.Mem.tail _ (List.Mem.tail _ (List.Mem.tail _ (List.Mem.tail _ (List.Mem.tail _ (List.Mem.tail _ (List.Mem.tail _ (List.Mem.tail _ (List.Mem.head _)))))))) | exact (by assumption) | exact List.Mem.tail _ ((by assumption)) | exact List.Mem.tail _ (List.Mem.tail _ ((by assumption))) | exact List.Mem.tail _ (List.Mem.tail _ (List.Mem.tail _ ((by assumption)))) | exact List.Mem.tail _ (List.Mem.tail _ (List.Mem.tail _ (List.Mem.tail _ ((by assumption))))) | exact List.Mem.tail _ (List.Mem.tail _ (List.Mem.tail _ (List.Mem.tail _ (List.Mem.tail _ ((by assumption))))))) | exact needs0 | exact needs2 (by first | exact List.Mem.head _ | exact List.Mem.tail _ (List.Mem.head _) | exact List.Mem.tail _ (List.Mem.tail _ (List.Mem.head _)) | exact List.Mem.tail _ (List.Mem.tail _ (List.Mem.tail _ (List.Mem.head _))) | exact List.Mem.tail _ (List.Mem.tail _ (List.Mem.tail _ (List.Mem.tail _ (List.Mem.head _)))) | exact List.Mem.tail _ (List.Mem.tail _ (List.Mem.tail _ (List.Mem.tail _ (List.Mem.tail _ (List.Mem.head _))))) | exact List.Mem.tail _ (List.Mem.tail _ (List.Mem.tail _ (List.Mem.tail _ (List.Mem.tail _ (List.Mem.tail _ (List.Mem.head _)))))) | exact List.Mem.tail _ (List.Mem.tail _ (List.Mem.tail _ (List.Mem.tail _ (List.Mem.tail _ (List.Mem.tail _ (List.Mem.tail _ (List.Mem.head _))))))) | exact List.Mem.tail _ (List.Mem.tail _ (List.Mem.tail _ (List.Mem.tail _ (List.Mem.tail _ (List.Mem.tail _ (List.Mem.tail _ (List.Mem.tail _ (List.Mem.head _)))))))) | exact (by assumption) | exact List.Mem.tail _ ((by assumption)) | exact List.Mem.tail _ (List.Mem.tail _ ((by assumption))) | exact List.Mem.tail _ (List.Mem.tail _ (List.Mem.tail _ ((by assumption)))) | exact List.Mem.tail _ (List.Mem.tail _ (List.Mem.tail _ (List.Mem.tail _ ((by assumption))))) | exact List.Mem.tail _ (List.Mem.tail _ (List.Mem.tail _ (List.Mem.tail _ (List.Mem.tail _ ((by assumption))))))) (by first | exact List.Mem.head _ | exact List.Mem.tail _ (List.Mem.head _) | exact List.Mem.tail _ (List.Mem.tail _ (List.Mem.head _)) | exact List.Mem.tail _ (List.Mem.tail _ (List.Mem.tail _ (List.Mem.head _))) | exact List.Mem.tail _ (List.Mem.tail _ (List.Mem.tail _ (List.Mem.tail _ (List.Mem.head _)))) | exact List.Mem.tail _ (List.Mem.tail _ (List.Mem.tail _ (List.Mem.tail _ (List.Mem.tail _ (List.Mem.head _))))) | exact List.Mem.tail _ (List.Mem.tail _ (List.Mem.tail _ (List.Mem.tail _ (List.Mem.tail _ (List.Mem.tail _ (List.Mem.head _)))))) | exact List.Mem.tail _ (List.Mem.tail _ (List.Mem.tail _ (List.Mem.tail _ (List.Mem.tail _ (List.Mem.tail _ (List.Mem.tail _ (List.Mem.head _))))))) | exact List.Mem.tail _ (List.Mem.tail _ (List.Mem.tail _ (List.Mem.tail _ (List.Mem.tail _ (List.Mem.tail _ (List.Mem.tail _ (List.Mem.tail _ (List.Mem.head _)))))))) | exact (by assumption) | exact List.Mem.tail _ ((by assumption)) | exact List.Mem.tail _ (List.Mem.tail _ ((by assumption))) | exact List.Mem.tail _ (List.Mem.tail _ (List.Mem.tail _ ((by assumption)))) | exact List.Mem.tail _ (List.Mem.tail _ (List.Mem.tail _ (List.Mem.tail _ ((by assumption))))) | exact List.Mem.tail _ (List.Mem.tail _ (List.Mem.tail _ (List.Mem.tail _ (List.Mem.tail _ ((by assumption)))))))) ?_)
          clear hS; rintro v78 _ w ⟨rfl, Δ3, rfl, hd3⟩ hS; (try simp only [List.cons_append, List.nil_append] at hS)
          refine wl_nil ?_
          refine hK22 _ _ ?_
          refine cw_seq fun K23 hK23 => ?_
          refine cw_region ?_
          refine wl_op rfl rfl (ow_vr (vr_move (v := (ptr p)) rfl) ?_)
          refine wl_op rfl rfl (ow_fn (vs := [(ptr p)]) en_18 rfl hS (disk_Power hd3) ?_)
          clear hS; rintro _ _ w ⟨rfl, Δ4, rfl, hd4⟩ hS; (try simp only [List.cons_append, List.nil_append] at hS)
          refine wl_nil ?_
          refine hK23 _ _ ?_
          refine cw_seq fun K24 hK24 => ?_
          refine cw_region ?_
          refine wl_op rfl rfl (ow_vr (vr_move (v := (ptr p)) rfl) ?_)
          refine wl_op rfl rfl (ow_fn (vs := [(ptr p), .int .i64 _]) en_16 rfl hS (disk_ReadOk hd4 1 (by simp [crashD]) rfl (by omega) (by simp [crashD, orderD, newD])) ?_)
          clear hS; rintro _ _ w ⟨rfl, rfl⟩ hS; (try simp only [List.cons_append, List.nil_append] at hS)
          refine wl_op rfl rfl (ow_vr (vr_move (v := .tuple _) rfl) ?_)
          refine wl_op rfl rfl (ow_vr (vr_extract (v := str _) rfl rfl) ?_)
          refine wl_op rfl rfl (ow_vr (vr_extract (v := .int .i64 _) rfl rfl) ?_)
          refine wl_op rfl rfl (ow_vr (vr_assign (v := str _) rfl) ?_)
          refine wl_op rfl rfl (ow_vr (vr_assign (v := .int .i64 _) rfl) ?_)
          refine wl_nil ?_
          refine hK24 _ _ ?_
          refine cw_seq fun K25 hK25 => ?_
          refine cw_region ?_
          refine wl_op rfl rfl (ow_vr (vr_move (v := .int .i64 _) rfl) ?_)
          refine wl_op rfl rfl (ow_vr (vr_eql rfl rfl) ?_)
          refine wl_op rfl rfl (ow_vr (vr_move (v := .bool _) rfl) ?_)
          refine wl_known 88 rfl (c := true) (by decide) ?_
          refine wl_yes rfl rfl rfl rfl rfl (ow_vr (vr_move (v := str _) rfl) ?_)
          refine wl_yes rfl rfl rfl rfl rfl (ow_vr (vr_move (v := (str want)) rfl) ?_)
          refine wl_yes rfl rfl rfl rfl rfl (ow_vr (vr_eql_s rfl rfl) ?_)
          refine wl_op rfl rfl (ow_vr (vr_pick (b := true) (v := .bool _) rfl rfl) ?_)
          refine wl_op rfl rfl (ow_vr (vr_assign (v := .bool _) rfl) ?_)
          refine wl_nil ?_
          refine hK25 _ _ ?_
          refine cw_ret ?_
          refine ret_one (fn := Try.f3) (n := 93) (t := 4) (.inl rfl) rfl rfl ?_
          exact ⟨[], ⟨congrArg Value.bool (by rw [hw]; simp [wantO, readD, crashD, lastW, orderD, newD]), rfl⟩, hS.tail1⟩
/-! the power goes at the deed that is meant -/
def armP (n : Int) (ks : List Int) (k : Nat) (d : Dsk) : Prop :=
  d.n = 4 ∧ d.keep.length ≤ 60 ∧ d.waits.length ≤ k ∧ ((k : Int) ≤ n → d.off = false ∧ d.armed = true ∧ d.left = n - (k : Int) ∧ d.deeds = (k : Int)) ∧ (n < (k : Int) → d.off = true ∧ d.deeds = n)
theorem arm_step {n : Int} {ks : List Int} {k : Nat} {d : Dsk} (hn : 0 ≤ n) (hn2 : n ≤ 30) (hk : k < 40) (h : armP n ks k d) :
    (writeD d ((k : Int) % 4) (fullB [119])).1 = (if (k : Int) < n then 0 else 3) ∧ (writeD d ((k : Int) % 4) (fullB [119])).2.off = !decide ((k : Int) < n) ∧ armP n ks (k + 1) (writeD d ((k : Int) % 4) (fullB [119])).2 := by
  obtain ⟨h1, h2, h3, h4, h5⟩ := h
  obtain ⟨l, ws, nn, off, de, ar, le, ke⟩ := d
  simp only at h1 h2 h3 h4 h5
  rcases Int.lt_or_le n (k : Int) with hlt | hle
  · obtain ⟨rfl, rfl⟩ := h5 hlt
    have hm : mayE ⟨l, ws, nn, true, de, ar, le, ke⟩ ((k : Int) % 4) = 3 := by rw [mayE, if_pos rfl]
    have e : writeD ⟨l, ws, nn, true, de, ar, le, ke⟩ ((k : Int) % 4) (fullB [119]) = (3, ⟨l, ws, nn, true, de, ar, le, ke⟩) := by rw [writeD, hm, if_pos (by simp)]
    rw [e]
    refine ⟨by rw [if_neg (by omega)], by simp; omega, h1, h2, by simp only; omega, fun hc => by omega, fun _ => ⟨rfl, rfl⟩⟩
  · obtain ⟨rfl, rfl, rfl, rfl⟩ := h4 hle
    have hm : mayE ⟨l, ws, nn, false, (k : Int), true, n - (k : Int), ke⟩ ((k : Int) % 4) = 0 := by rw [mayE, if_neg (by simp), if_neg (by simp only; omega)]
    have hw : wrap64I (n - (k : Int) - 1) = n - (k : Int) - 1 := wrap64_in (by unfold inI64; omega)
    have hw2 : wrap64I ((k : Int) + 1) = (k : Int) + 1 := wrap64_in (by unfold inI64; omega)
    have e : writeD ⟨l, ws, nn, false, (k : Int), true, n - (k : Int), ke⟩ ((k : Int) % 4) (fullB [119]) = doneD ⟨l, ws ++ [((k : Int) % 4, fullB [119])], nn, false, (k : Int), true, n - (k : Int), ke⟩ := by
      rw [writeD, hm, if_neg (by simp), if_neg (by rw [fullB_length]; simp)]
    rw [e]
    have hf : fallsD ⟨l, ws ++ [((k : Int) % 4, fullB [119])], nn, false, (k : Int), true, n - (k : Int), ke⟩ = (decide (n - (k : Int) - 1 < 0), ⟨l, ws ++ [((k : Int) % 4, fullB [119])], nn, false, (k : Int), true, n - (k : Int) - 1, ke⟩) := by
      rw [fallsD, if_pos rfl]; simp only [hw]
    rcases Int.lt_or_le (k : Int) n with hkn | hkn
    · have ed : doneD ⟨l, ws ++ [((k : Int) % 4, fullB [119])], nn, false, (k : Int), true, n - (k : Int), ke⟩ = (0, ⟨l, ws ++ [((k : Int) % 4, fullB [119])], nn, false, (k : Int) + 1, true, n - (k : Int) - 1, ke⟩) := by
        rw [doneD, hf, if_neg (by simp only [decide_eq_true_eq]; omega)]; simp only [hw2]
      rw [ed]
      exact ⟨by rw [if_pos hkn], by simp; omega, h1, h2, by simp; omega, fun _ => ⟨rfl, rfl, by simp only; omega, by simp only; omega⟩, fun hc => by omega⟩
    · have ed : doneD ⟨l, ws ++ [((k : Int) % 4, fullB [119])], nn, false, (k : Int), true, n - (k : Int), ke⟩ = (3, (crashD ⟨l, ws ++ [((k : Int) % 4, fullB [119])], nn, false, (k : Int), true, n - (k : Int) - 1, ke⟩ ke).2) := by
        rw [doneD, hf, if_pos (by simp only [decide_eq_true_eq]; omega)]
      rw [ed]
      exact ⟨by rw [if_neg (by omega)], by simp [crashD]; omega, h1, by simp [crashD], by simp [crashD], fun hc => by omega, fun _ => ⟨rfl, by simp only [crashD]; omega⟩⟩
theorem arm_deeds {n wr : Int} {ks : List Int} {k : Nat} {d : Dsk} (h : armP n ks k d) (e : (k : Int) = wr) : d.deeds = if wr < n then wr else n := by
  obtain ⟨_, _, _, h4, h5⟩ := h
  split
  · rw [(h4 (by omega)).2.2.2]; exact e
  · rcases Int.lt_or_le n (k : Int) with h | h
    · exact (h5 h).2
    · rw [(h4 h).2.2.2]; omega
theorem sector_arms (n wr : Int) (ks : List Int) (vk : Value) (Δk : Chunk) (hvk : View 1 encI vk ks Δk) (hkl : ks.length ≤ maxLen) :
    FnG Try.prog 4 [.int .i64 n, .int .i64 wr, vk] [Δk] (fun u Δs => u = .bool true ∧ Δs = []) := by
  refine FnG.mk fun E F w hS hF => ?_
  have hFk : Δk ∈ F := hF _ (by simp)
  refine returns_enter Try.func4 rfl Try.ntmps4 rfl ?_
  refine cw_seq fun K1 hK1 => ?_
  refine cw_region ?_
  refine wl_op rfl rfl (ow_vr (vr_assign (v := .bool false) rfl) ?_)
  refine wl_nil ?_
  refine hK1 _ _ ?_
  refine cw_seq fun K2 hK2 => ?_
  refine cw_seq fun K3 hK3 => ?_
  refine cw_region ?_
  refine wl_op rfl rfl (ow_vr (vr_move (v := .int .i64 _) rfl) ?_)
  refine wl_op rfl rfl (ow_vr (vr_lss rfl rfl) ?_)
  refine wl_op rfl rfl (ow_vr (vr_move (v := .bool _) rfl) ?_)
  refine wl_split 12 rfl (fun hc => ?_) (fun hc => ?_)
  · (try simp only [decide_eq_true_eq, decide_eq_false_iff_not, Bool.not_eq_true, Bool.not_eq_false, Bool.not_eq_true', Bool.not_eq_false', Bool.and_eq_true, Bool.or_eq_true, Bool.and_eq_false_iff, Bool.or_eq_false_iff, Int.not_lt, Int.not_le, gt_iff_lt, ge_iff_le, ne_eq, Decidable.not_not, beq_iff_eq] at hc)
    have hg12 := hc; clear hc
    refine wl_noD rfl rfl rfl rfl rfl rfl ?_
    refine wl_noD rfl rfl rfl rfl rfl rfl ?_
    refine wl_op rfl rfl (ow_vr (vr_pick (b := true) (v := .bool _) rfl rfl) ?_)
    refine wl_op rfl rfl (ow_vr (vr_move (v := .bool _) rfl) ?_)
    refine wl_noD rfl rfl rfl rfl rfl rfl ?_
    refine wl_noD rfl rfl rfl rfl rfl rfl ?_
    refine wl_op rfl rfl (ow_vr (vr_pick (b := true) (v := .bool _) rfl rfl) ?_)
    refine wl_op rfl rfl (ow_vr (vr_move (v := .bool _) rfl) ?_)
    refine wl_noD rfl rfl rfl rfl rfl rfl ?_
    refine wl_noD rfl rfl rfl rfl rfl rfl ?_
    refine wl_op rfl rfl (ow_vr (vr_pick (b := true) (v := .bool _) rfl rfl) ?_)
    refine wl_op rfl rfl (ow_vr (vr_move (v := .bool _) rfl) ?_)
    refine wl_noD rfl rfl rfl rfl rfl rfl ?_
    refine wl_noD rfl rfl rfl rfl rfl rfl ?_
    refine wl_noD rfl rfl rfl rfl rfl rfl ?_
    refine wl_op rfl rfl (ow_vr (vr_pick (b := true) (v := .bool _) rfl rfl) ?_)
    refine wl_op rfl rfl (ow_vr (vr_move (v := .bool _) rfl) ?_)
    refine wl_noD rfl rfl rfl rfl rfl rfl ?_
    refine wl_noD rfl rfl rfl rfl rfl rfl ?_
    refine wl_op rfl rfl (ow_vr (vr_pick (b := true) (v := .bool _) rfl rfl) ?_)
    refine wl_nil ?_
    refine hK3 _ _ ?_
    refine cw_cond_t rfl rfl (rfl) ?_
    refine cw_seq fun K4 hK4 => ?_
    refine cw_region ?_
    refine wl_op rfl rfl (ow_fn (vs := []) en_12 rfl hS (alive2) ?_)
    clear hS; rintro _ _ w ⟨rfl, rfl⟩ hS; (try simp only [List.cons_append, List.nil_append] at hS)
    refine wl_op rfl rfl (ow_vr (vr_assign (v := .bool _) rfl) ?_)
    refine wl_nil ?_
    refine hK4 _ _ ?_
    refine cw_ret ?_
    refine thenF_ret (?_)
    refine ret_one (fn := Try.f4) (n := 79) (t := 6) (.inl rfl) rfl rfl ?_
    exact ⟨[], ⟨rfl, rfl⟩, hS⟩
  · (try simp only [decide_eq_true_eq, decide_eq_false_iff_not, Bool.not_eq_true, Bool.not_eq_false, Bool.not_eq_true', Bool.not_eq_false', Bool.and_eq_true, Bool.or_eq_true, Bool.and_eq_false_iff, Bool.or_eq_false_iff, Int.not_lt, Int.not_le, gt_iff_lt, ge_iff_le, ne_eq, Decidable.not_not, beq_iff_eq] at hc)
    have hg12 := hc; clear hc
    refine wl_yes rfl rfl rfl rfl rfl (ow_vr (vr_move (v := .int .i64 _) rfl) ?_)
    refine wl_yes rfl rfl rfl rfl rfl (ow_vr (vr_gtr rfl rfl) ?_)
    refine wl_op rfl rfl (ow_vr (vr_pick (b := false) (v := .bool _) rfl rfl) ?_)
    refine wl_op rfl rfl (ow_vr (vr_move (v := .bool _) rfl) ?_)
    refine wl_split 16 rfl (fun hc => ?_) (fun hc => ?_)
    · (try simp only [decide_eq_true_eq, decide_eq_false_iff_not, Bool.not_eq_true, Bool.not_eq_false, Bool.not_eq_true', Bool.not_eq_false', Bool.and_eq_true, Bool.or_eq_true, Bool.and_eq_false_iff, Bool.or_eq_false_iff, Int.not_lt, Int.not_le, gt_iff_lt, ge_iff_le, ne_eq, Decidable.not_not, beq_iff_eq] at hc)
      have hg16 := hc; clear hc
      refine wl_noD rfl rfl rfl rfl rfl rfl ?_
      refine wl_noD rfl rfl rfl rfl rfl rfl ?_
      refine wl_op rfl rfl (ow_vr (vr_pick (b := true) (v := .bool _) rfl rfl) ?_)
      refine wl_op rfl rfl (ow_vr (vr_move (v := .bool _) rfl) ?_)
      refine wl_noD rfl rfl rfl rfl rfl rfl ?_
      refine wl_noD rfl rfl rfl rfl rfl rfl ?_
      refine wl_op rfl rfl (ow_vr (vr_pick (b := true) (v := .bool _) rfl rfl) ?_)
      refine wl_op rfl rfl (ow_vr (vr_move (v := .bool _) rfl) ?_)
      refine wl_noD rfl rfl rfl rfl rfl rfl ?_
      refine wl_noD rfl rfl rfl rfl rfl rfl ?_
      refine wl_noD rfl rfl rfl rfl rfl rfl ?_
      refine wl_op rfl rfl (ow_vr (vr_pick (b := true) (v := .bool _) rfl rfl) ?_)
      refine wl_op rfl rfl (ow_vr (vr_move (v := .bool _) rfl) ?_)
      refine wl_noD rfl rfl rfl rfl rfl rfl ?_
      refine wl_noD rfl rfl rfl rfl rfl rfl ?_
      refine wl_op rfl rfl (ow_vr (vr_pick (b := true) (v := .bool _) rfl rfl) ?_)
      refine wl_nil ?_
      refine hK3 _ _ ?_
      refine cw_cond_t rfl rfl (rfl) ?_
      refine cw_seq fun K5 hK5 => ?_
      refine cw_region ?_
      refine wl_op rfl rfl (ow_fn (vs := []) en_12 rfl hS (alive2) ?_)
      clear hS; rintro _ _ w ⟨rfl, rfl⟩ hS; (try simp only [List.cons_append, List.nil_append] at hS)
      refine wl_op rfl rfl (ow_vr (vr_assign (v := .bool _) rfl) ?_)
      refine wl_nil ?_
      refine hK5 _ _ ?_
      refine cw_ret ?_
      refine thenF_ret (?_)
      refine ret_one (fn := Try.f4) (n := 79) (t := 6) (.inl rfl) rfl rfl ?_
      exact ⟨[], ⟨rfl, rfl⟩, hS⟩
    · (try simp only [decide_eq_true_eq, decide_eq_false_iff_not, Bool.not_eq_true, Bool.not_eq_false, Bool.not_eq_true', Bool.not_eq_false', Bool.and_eq_true, Bool.or_eq_true, Bool.and_eq_false_iff, Bool.or_eq_false_iff, Int.not_lt, Int.not_le, gt_iff_lt, ge_iff_le, ne_eq, Decidable.not_not, beq_iff_eq] at hc)
      have hg16 := hc; clear hc
      refine wl_yes rfl rfl rfl rfl rfl (ow_vr (vr_move (v := .int .i64 _) rfl) ?_)
      refine wl_yes rfl rfl rfl rfl rfl (ow_vr (vr_lss rfl rfl) ?_)
      refine wl_op rfl rfl (ow_vr (vr_pick (b := false) (v := .bool _) rfl rfl) ?_)
      refine wl_op rfl rfl (ow_vr (vr_move (v := .bool _) rfl) ?_)
      refine wl_split 20 rfl (fun hc => ?_) (fun hc => ?_)
      · (try simp only [decide_eq_true_eq, decide_eq_false_iff_not, Bool.not_eq_true, Bool.not_eq_false, Bool.not_eq_true', Bool.not_eq_false', Bool.and_eq_true, Bool.or_eq_true, Bool.and_eq_false_iff, Bool.or_eq_false_iff, Int.not_lt, Int.not_le, gt_iff_lt, ge_iff_le, ne_eq, Decidable.not_not, beq_iff_eq] at hc)
        have hg20 := hc; clear hc
        refine wl_noD rfl rfl rfl rfl rfl rfl ?_
        refine wl_noD rfl rfl rfl rfl rfl rfl ?_
        refine wl_op rfl rfl (ow_vr (vr_pick (b := true) (v := .bool _) rfl rfl) ?_)
        refine wl_op rfl rfl (ow_vr (vr_move (v := .bool _) rfl) ?_)
        refine wl_noD rfl rfl rfl rfl rfl rfl ?_
        refine wl_noD rfl rfl rfl rfl rfl rfl ?_
        refine wl_noD rfl rfl rfl rfl rfl rfl ?_
        refine wl_op rfl rfl (ow_vr (vr_pick (b := true) (v := .bool _) rfl rfl) ?_)
        refine wl_op rfl rfl (ow_vr (vr_move (v := .bool _) rfl) ?_)
        refine wl_noD rfl rfl rfl rfl rfl rfl ?_
        refine wl_noD rfl rfl rfl rfl rfl rfl ?_
        refine wl_op rfl rfl (ow_vr (vr_pick (b := true) (v := .bool _) rfl rfl) ?_)
        refine wl_nil ?_
        refine hK3 _ _ ?_
        refine cw_cond_t rfl rfl (rfl) ?_
        refine cw_seq fun K6 hK6 => ?_
        refine cw_region ?_
        refine wl_op rfl rfl (ow_fn (vs := []) en_12 rfl hS (alive2) ?_)
        clear hS; rintro _ _ w ⟨rfl, rfl⟩ hS; (try simp only [List.cons_append, List.nil_append] at hS)
        refine wl_op rfl rfl (ow_vr (vr_assign (v := .bool _) rfl) ?_)
        refine wl_nil ?_
        refine hK6 _ _ ?_
        refine cw_ret ?_
        refine thenF_ret (?_)
        refine ret_one (fn := Try.f4) (n := 79) (t := 6) (.inl rfl) rfl rfl ?_
        exact ⟨[], ⟨rfl, rfl⟩, hS⟩
      · (try simp only [decide_eq_true_eq, decide_eq_false_iff_not, Bool.not_eq_true, Bool.not_eq_false, Bool.not_eq_true', Bool.not_eq_false', Bool.and_eq_true, Bool.or_eq_true, Bool.and_eq_false_iff, Bool.or_eq_false_iff, Int.not_lt, Int.not_le, gt_iff_lt, ge_iff_le, ne_eq, Decidable.not_not, beq_iff_eq] at hc)
        have hg20 := hc; clear hc
        refine wl_yes rfl rfl rfl rfl rfl (ow_vr (vr_move (v := .int .i64 _) rfl) ?_)
        refine wl_yes rfl rfl rfl rfl rfl (ow_vr (vr_gtr rfl rfl) ?_)
        refine wl_op rfl rfl (ow_vr (vr_pick (b := false) (v := .bool _) rfl rfl) ?_)
        refine wl_op rfl rfl (ow_vr (vr_move (v := .bool _) rfl) ?_)
        refine wl_split 24 rfl (fun hc => ?_) (fun hc => ?_)
        · (try simp only [decide_eq_true_eq, decide_eq_false_iff_not, Bool.not_eq_true, Bool.not_eq_false, Bool.not_eq_true', Bool.not_eq_false', Bool.and_eq_true, Bool.or_eq_true, Bool.and_eq_false_iff, Bool.or_eq_false_iff, Int.not_lt, Int.not_le, gt_iff_lt, ge_iff_le, ne_eq, Decidable.not_not, beq_iff_eq] at hc)
          have hg24 := hc; clear hc
          refine wl_noD rfl rfl rfl rfl rfl rfl ?_
          refine wl_noD rfl rfl rfl rfl rfl rfl ?_
          refine wl_noD rfl rfl rfl rfl rfl rfl ?_
          refine wl_op rfl rfl (ow_vr (vr_pick (b := true) (v := .bool _) rfl rfl) ?_)
          refine wl_op rfl rfl (ow_vr (vr_move (v := .bool _) rfl) ?_)
          refine wl_noD rfl rfl rfl rfl rfl rfl ?_
          refine wl_noD rfl rfl rfl rfl rfl rfl ?_
          refine wl_op rfl rfl (ow_vr (vr_pick (b := true) (v := .bool _) rfl rfl) ?_)
          refine wl_nil ?_
          refine hK3 _ _ ?_
          refine cw_cond_t rfl rfl (rfl) ?_
          refine cw_seq fun K7 hK7 => ?_
          refine cw_region ?_
          refine wl_op rfl rfl (ow_fn (vs := []) en_12 rfl hS (alive2) ?_)
          clear hS; rintro _ _ w ⟨rfl, rfl⟩ hS; (try simp only [List.cons_append, List.nil_append] at hS)
          refine wl_op rfl rfl (ow_vr (vr_assign (v := .bool _) rfl) ?_)
          refine wl_nil ?_
          refine hK7 _ _ ?_
          refine cw_ret ?_
          refine thenF_ret (?_)
          refine ret_one (fn := Try.f4) (n := 79) (t := 6) (.inl rfl) rfl rfl ?_
          exact ⟨[], ⟨rfl, rfl⟩, hS⟩
        · (try simp only [decide_eq_true_eq, decide_eq_false_iff_not, Bool.not_eq_true, Bool.not_eq_false, Bool.not_eq_true', Bool.not_eq_false', Bool.and_eq_true, Bool.or_eq_true, Bool.and_eq_false_iff, Bool.or_eq_false_iff, Int.not_lt, Int.not_le, gt_iff_lt, ge_iff_le, ne_eq, Decidable.not_not, beq_iff_eq] at hc)
          have hg24 := hc; clear hc
          refine wl_yes rfl rfl rfl rfl rfl (ow_vr (vr_move (v := vk) rfl) ?_)
          first | (refine wl_yes rfl rfl rfl rfl rfl (ow_vr (vr_len_sl Try.underlying23 rfl) ?_)) | (refine wl_yes rfl rfl rfl rfl rfl (ow_vr (vr_len_v (v := vk) Try.underlying23 rfl (by first | assumption | (refine Own.view ?_ (by assumption); exact fun _ => rfl) | exact OwnB.view (by assumption))) ?_))
          refine wl_yes rfl rfl rfl rfl rfl (ow_vr (vr_gtr rfl rfl) ?_)
          refine wl_op rfl rfl (ow_vr (vr_pick (b := false) (v := .bool _) rfl rfl) ?_)
          refine wl_op rfl rfl (ow_vr (vr_move (v := .bool _) rfl) ?_)
          refine wl_split 29 rfl (fun hc => ?_) (fun hc => ?_)
          · (try simp only [decide_eq_true_eq, decide_eq_false_iff_not, Bool.not_eq_true, Bool.not_eq_false, Bool.not_eq_true', Bool.not_eq_false', Bool.and_eq_true, Bool.or_eq_true, Bool.and_eq_false_iff, Bool.or_eq_false_iff, Int.not_lt, Int.not_le, gt_iff_lt, ge_iff_le, ne_eq, Decidable.not_not, beq_iff_eq] at hc)
            have hg29 := hc; clear hc
            refine wl_noD rfl rfl rfl rfl rfl rfl ?_
            refine wl_noD rfl rfl rfl rfl rfl rfl ?_
            refine wl_op rfl rfl (ow_vr (vr_pick (b := true) (v := .bool _) rfl rfl) ?_)
            refine wl_nil ?_
            refine hK3 _ _ ?_
            refine cw_cond_t rfl rfl (rfl) ?_
            refine cw_seq fun K8 hK8 => ?_
            refine cw_region ?_
            refine wl_op rfl rfl (ow_fn (vs := []) en_12 rfl hS (alive2) ?_)
            clear hS; rintro _ _ w ⟨rfl, rfl⟩ hS; (try simp only [List.cons_append, List.nil_append] at hS)
            refine wl_op rfl rfl (ow_vr (vr_assign (v := .bool _) rfl) ?_)
            refine wl_nil ?_
            refine hK8 _ _ ?_
            refine cw_ret ?_
            refine thenF_ret (?_)
            refine ret_one (fn := Try.f4) (n := 79) (t := 6) (.inl rfl) rfl rfl ?_
            exact ⟨[], ⟨rfl, rfl⟩, hS⟩
          · (try simp only [decide_eq_true_eq, decide_eq_false_iff_not, Bool.not_eq_true, Bool.not_eq_false, Bool.not_eq_true', Bool.not_eq_false', Bool.and_eq_true, Bool.or_eq_true, Bool.and_eq_false_iff, Bool.or_eq_false_iff, Int.not_lt, Int.not_le, gt_iff_lt, ge_iff_le, ne_eq, Decidable.not_not, beq_iff_eq] at hc)
            have hg29 := hc; clear hc
            refine wl_yes rfl rfl rfl rfl rfl (ow_fn (vs := []) en_12 rfl hS (alive2) ?_)
            clear hS; rintro _ _ w ⟨rfl, rfl⟩ hS; (try simp only [List.cons_append, List.nil_append] at hS)
            refine wl_yes rfl rfl rfl rfl rfl (ow_vr (vr_not rfl) ?_)
            refine wl_op rfl rfl (ow_vr (vr_pick (b := false) (v := .bool _) rfl rfl) ?_)
            refine wl_nil ?_
            refine hK3 _ _ ?_
            refine cw_cond rfl rfl (fun hc => ?_) (fun hc => ?_)
            · (try simp only [decide_eq_true_eq, decide_eq_false_iff_not, Bool.not_eq_true, Bool.not_eq_false, Bool.not_eq_true', Bool.not_eq_false', Bool.and_eq_true, Bool.or_eq_true, Bool.and_eq_false_iff, Bool.or_eq_false_iff, Int.not_lt, Int.not_le, gt_iff_lt, ge_iff_le, ne_eq, Decidable.not_not, beq_iff_eq] at hc)
              have hc0 := hc; clear hc
              refine cw_seq fun K9 hK9 => ?_
              refine cw_region ?_
              refine wl_op rfl rfl (ow_fn (vs := []) en_12 rfl hS (alive2) ?_)
              clear hS; rintro _ _ w ⟨rfl, rfl⟩ hS; (try simp only [List.cons_append, List.nil_append] at hS)
              refine wl_op rfl rfl (ow_vr (vr_assign (v := .bool _) rfl) ?_)
              refine wl_nil ?_
              refine hK9 _ _ ?_
              refine cw_ret ?_
              refine thenF_ret (?_)
              refine ret_one (fn := Try.f4) (n := 79) (t := 6) (.inl rfl) rfl rfl ?_
              exact ⟨[], ⟨rfl, rfl⟩, hS⟩
            · (try simp only [decide_eq_true_eq, decide_eq_false_iff_not, Bool.not_eq_true, Bool.not_eq_false, Bool.not_eq_true', Bool.not_eq_false', Bool.and_eq_true, Bool.or_eq_true, Bool.and_eq_false_iff, Bool.or_eq_false_iff, Int.not_lt, Int.not_le, gt_iff_lt, ge_iff_le, ne_eq, Decidable.not_not, beq_iff_eq] at hc)
              have hc0 := hc; clear hc
              refine cw_skip ?_
              refine hK2 _ _ ?_
              refine cw_seq fun K10 hK10 => ?_
              refine cw_region ?_
              refine wl_op rfl rfl (ow_fn (vs := [.int .i64 _]) en_13 rfl hS (disk_New' (n := 4) (by omega) (by omega)) ?_)
              clear hS; rintro _ _ w ⟨p, Δ0, rfl, rfl, hd0⟩ hS; (try simp only [List.cons_append, List.nil_append] at hS)
              refine wl_op rfl rfl (ow_vr (vr_assign (v := .pointer _) rfl) ?_)
              refine wl_nil ?_
              refine hK10 _ _ ?_
              refine cw_seq fun K11 hK11 => ?_
              refine cw_seq fun K12 hK12 => ?_
              refine cw_region ?_
              refine wl_op rfl rfl (ow_vr (vr_move (v := .pointer _) rfl) ?_)
              refine wl_op rfl rfl (ow_vr (vr_eqnil Try.underlying25 rfl) ?_)
              refine wl_nil ?_
              refine hK12 _ _ ?_
              refine cw_cond_f rfl rfl (rfl) ?_
              refine cw_skip ?_
              refine hK11 _ _ ?_
              refine cw_seq fun K13 hK13 => ?_
              have hn : 0 ≤ n ∧ n ≤ 30 := by omega
              have hwr : 0 ≤ wr ∧ wr ≤ 40 := by omega
              refine cw_region ?_
              refine wl_op rfl rfl (ow_vr (vr_move (v := .pointer _) rfl) ?_)
              refine wl_op rfl rfl (ow_vr (vr_move (v := .int .i64 _) rfl) ?_)
              refine wl_op rfl rfl (ow_vr (vr_move (v := vk) rfl) ?_)
              refine wl_op rfl rfl (ow_fnm (vs := [.pointer _, .int .i64 _, vk]) en_19 rfl hS (disk_Arm hd0 n _ ks _ hvk (by omega)) (by first | exact needs1 (by first | exact List.Mem.head _ | exact List.Mem.tail _ (List.Mem.head _) | exact List.Mem.tail _ (List.Mem.tail _ (List.Mem.head _)) | exact List.Mem.tail _ (List.Mem.tail _ (List.Mem.tail _ (List.Mem.head _))) | exact List.Mem.tail _ (List.Mem.tail _ (List.Mem.tail _ (List.Mem.tail _ (List.Mem.head _)))) | exact List.Mem.tail _ (List.Mem.tail _ (List.Mem.tail _ (List.Mem.tail _ (List.Mem.tail _ (List.Mem.head _))))) | exact List.Mem.tail _ (List.Mem.tail _ (List.Mem.tail _ (List.Mem.tail _ (List.Mem.tail _ (List.Mem.tail _ (List.Mem.head _)))))) | exact List.Mem.tail _ (List.Mem.tail _ (List.Mem.tail _ (List.Mem.tail _ (List.Mem.tail _ (List.Mem.tail _ (List.Mem.tail _ (List.Mem.head _))))))) | exact List.Mem.tail _ (List.Mem.tail _ (List.Mem.tail _ (List.Mem.tail _ (List.Mem.tail _ (List.Mem.tail _ (List.Mem.tail _ (List.Mem.tail _ (List.Mem.head _)))))))) | exact (by assumption) | exact List.Mem.tail _ ((by assumption)) | exact List.Mem.tail _ (List.Mem.tail _ ((by assumption))) | exact List.Mem.tail _ (List.Mem.tail _ (List.Mem.tail _ ((by assumption)))) | exact List.Mem.tail _ (List.Mem.tail _ (List.Mem.tail _ (List.Mem.tail _ ((by assumption))))) | exact List.Mem.tail _ (List.Mem.tail _ (List.Mem.tail _ (List.Mem.tail _ (List.Mem.tail _ ((by assumption))))))) | exact needs0 | exact needs2 (by first | exact List.Mem.head _ | exact List.Mem.tail _ (List.Mem.head _) | exact List.Mem.tail _ (List.Mem.tail _ (List.Mem.head _)) | exact List.Mem.tail _ (List.Mem.tail _ (List.Mem.tail _ (List.Mem.head _))) | exact List.Mem.tail _ (List.Mem.tail _ (List.Mem.tail _ (List.Mem.tail _ (List.Mem.head _)))) | exact List.Mem.tail _ (List.Mem.tail _ (List.Mem.tail _ (List.Mem.tail _ (List.Mem.tail _ (List.Mem.head _))))) | exact List.Mem.tail _ (List.Mem.tail _ (List.Mem.tail _ (List.Mem.tail _ (List.Mem.tail _ (List.Mem.tail _ (List.Mem.head _)))))) | exact List.Mem.tail _ (List.Mem.tail _ (List.Mem.tail _ (List.Mem.tail _ (List.Mem.tail _ (List.Mem.tail _ (List.Mem.tail _ (List.Mem.head _))))))) | exact List.Mem.tail _ (List.Mem.tail _ (List.Mem.tail _ (List.Mem.tail _ (List.Mem.tail _ (List.Mem.tail _ (List.Mem.tail _ (List.Mem.tail _ (List.Mem.head _)))))))) | exact (by assumption) | exact List.Mem.tail _ ((by assumption)) | exact List.Mem.tail _ (List.Mem.tail _ ((by assumption))) | exact List.Mem.tail _ (List.Mem.tail _ (List.Mem.tail _ ((by assumption)))) | exact List.Mem.tail _ (List.Mem.tail _ (List.Mem.tail _ (List.Mem.tail _ ((by assumption))))) | exact List.Mem.tail _ (List.Mem.tail _ (List.Mem.tail _ (List.Mem.tail _ (List.Mem.tail _ ((by assumption))))))) (by first | exact List.Mem.head _ | exact List.Mem.tail _ (List.Mem.head _) | exact List.Mem.tail _ (List.Mem.tail _ (List.Mem.head _)) | exact List.Mem.tail _ (List.Mem.tail _ (List.Mem.tail _ (List.Mem.head _))) | exact List.Mem.tail _ (List.Mem.tail _ (List.Mem.tail _ (List.Mem.tail _ (List.Mem.head _)))) | exact List.Mem.tail _ (List.Mem.tail _ (List.Mem.tail _ (List.Mem.tail _ (List.Mem.tail _ (List.Mem.head _))))) | exact List.Mem.tail _ (List.Mem.tail _ (List.Mem.tail _ (List.Mem.tail _ (List.Mem.tail _ (List.Mem.tail _ (List.Mem.head _)))))) | exact List.Mem.tail _ (List.Mem.tail _ (List.Mem.tail _ (List.Mem.tail _ (List.Mem.tail _ (List.Mem.tail _ (List.Mem.tail _ (List.Mem.head _))))))) | exact List.Mem.tail _ (List.Mem.tail _ (List.Mem.tail _ (List.Mem.tail _ (List.Mem.tail _ (List.Mem.tail _ (List.Mem.tail _ (List.Mem.tail _ (List.Mem.head _)))))))) | exact (by assumption) | exact List.Mem.tail _ ((by assumption)) | exact List.Mem.tail _ (List.Mem.tail _ ((by assumption))) | exact List.Mem.tail _ (List.Mem.tail _ (List.Mem.tail _ ((by assumption)))) | exact List.Mem.tail _ (List.Mem.tail _ (List.Mem.tail _ (List.Mem.tail _ ((by assumption))))) | exact List.Mem.tail _ (List.Mem.tail _ (List.Mem.tail _ (List.Mem.tail _ (List.Mem.tail _ ((by assumption)))))))) ?_)
              clear hS; rintro v40 _ w ⟨Δ1, rfl, hd1⟩ hS; (try simp only [List.cons_append, List.nil_append] at hS)
              refine wl_nil ?_
              refine hK13 _ _ ?_
              refine cw_seq fun K14 hK14 => ?_
              refine cw_seq fun K15 hK15 => ?_
              refine cw_region ?_
              refine wl_op rfl rfl (ow_vr (vr_assign (v := .int .i64 0) rfl) ?_)
              refine wl_nil ?_
              refine hK15 _ _ ?_
              refine cw_block ?_
              refine cw_loop (fun m f w => ∃ (k : Nat) (d : Dsk) (Δd : Chunk) (g : Nat → Value), f = (upd (upd (upd (upd g 0 (.int .i64 n)) 1 (.int .i64 wr)) 7 (ptr p)) 8 (.int .i64 (k : Int))) ∧ ((k : Int) ≤ wr ∧ armP n ks k d ∧ DiskAt p d Δd) ∧ m = wr.toNat - k ∧ Sat E (Δd :: F) w) ⟨0, armD (newD 4) n ks, Δ1, _, (reb (reb (reb (reb rfl rfl) rfl) rfl) rfl), ?_, rfl, hS⟩ ?_
              · exact ⟨by omega, ⟨rfl, by simp only [armD]; omega, by simp [armD, newD], fun _ => ⟨rfl, by simp [armD]; omega, by simp [armD], rfl⟩, fun hc => by omega⟩, hd1⟩
              clear hS; rintro m f w ⟨k, d, Δd, g, rfl, hI0, rfl, hS⟩
              obtain ⟨hk, hP, hd⟩ := hI0
              refine cw_seq fun K16 hK16 => ?_
              refine cw_seq fun K17 hK17 => ?_
              refine cw_region ?_
              refine wl_op rfl rfl (ow_vr (vr_move (v := .int .i64 (k : Int)) rfl) ?_)
              refine wl_op rfl rfl (ow_vr (vr_move (v := .int .i64 wr) rfl) ?_)
              refine wl_op rfl rfl (ow_vr (vr_lss rfl rfl) ?_)
              refine wl_nil ?_
              refine hK17 _ _ ?_
              refine cw_cond rfl rfl (fun hc => ?_) (fun hc => ?_)
              · (try simp only [decide_eq_true_eq, decide_eq_false_iff_not, Bool.not_eq_true, Bool.not_eq_false, Bool.not_eq_true', Bool.not_eq_false', Bool.and_eq_true, Bool.or_eq_true, Bool.and_eq_false_iff, Bool.or_eq_false_iff, Int.not_lt, Int.not_le, gt_iff_lt, ge_iff_le, ne_eq, Decidable.not_not, beq_iff_eq] at hc)
                have hc2 := hc; clear hc
                refine cw_skip ?_
                refine hK16 _ _ ?_
                refine cw_seq fun K18 hK18 => ?_
                refine cw_block ?_
                refine cw_seq fun K19 hK19 => ?_
                obtain ⟨he, ho, hP2⟩ := arm_step hn.1 hn.2 (by omega) hP
                have hW := disk_Write hd ((k : Int) % 4) (fullB [119]) (by have := hP.2.1; omega) (by have := hP.2.2.1; omega) (by rw [fullB_length]; omega)
                rw [he] at hW
                refine cw_region ?_
                refine wl_op rfl rfl (ow_vr (vr_move (v := (ptr p)) rfl) ?_)
                refine wl_op rfl rfl (ow_vr (vr_move (v := .int .i64 (k : Int)) rfl) ?_)
                refine wl_op rfl rfl (ow_vr (vr_rem rfl rfl (by omega) (by omega)) ?_)
                refine wl_op rfl rfl (ow_fn (vs := [str _]) en_14 rfl hS (law_Full [119] (by simp)) ?_)
                clear hS; rintro _ _ w ⟨rfl, rfl⟩ hS; (try simp only [List.cons_append, List.nil_append] at hS)
                refine wl_op rfl rfl (ow_fn (vs := [(ptr p), .int .i64 _, str _]) en_15 rfl hS (hW) ?_)
                clear hS; rintro _ _ w ⟨rfl, Δ2, rfl, hd2⟩ hS; (try simp only [List.cons_append, List.nil_append] at hS)
                refine wl_op rfl rfl (ow_vr (vr_assign (v := .int .i64 _) rfl) ?_)
                refine wl_nil ?_
                refine hK19 _ _ ?_
                refine cw_seq fun K20 hK20 => ?_
                refine cw_region ?_
                refine wl_op rfl rfl (ow_vr (vr_move (v := .int .i64 _) rfl) ?_)
                refine wl_op rfl rfl (ow_vr (vr_eql rfl rfl) ?_)
                refine wl_op rfl rfl (ow_vr (vr_move (v := .int .i64 (k : Int)) rfl) ?_)
                refine wl_op rfl rfl (ow_vr (vr_move (v := .int .i64 n) rfl) ?_)
                refine wl_op rfl rfl (ow_vr (vr_lss rfl rfl) ?_)
                refine wl_op rfl rfl (ow_vr (vr_neqb Try.underlying4 rfl rfl) ?_)
                refine wl_op rfl rfl (ow_vr (vr_move (v := .bool _) rfl) ?_)
                refine wl_known 57 rfl (c := false) (by by_cases h : (k : Int) < n <;> simp [h]) ?_
                refine wl_yes rfl rfl rfl rfl rfl (ow_vr (vr_move (v := .int .i64 _) rfl) ?_)
                refine wl_yes rfl rfl rfl rfl rfl (ow_vr (vr_neq rfl rfl) ?_)
                refine wl_yes rfl rfl rfl rfl rfl (ow_vr (vr_move (v := .bool _) rfl) ?_)
                refine wl_split 60 rfl (fun hc => ?_) (fun hc => ?_)
                · (try simp only [decide_eq_true_eq, decide_eq_false_iff_not, Bool.not_eq_true, Bool.not_eq_false, Bool.not_eq_true', Bool.not_eq_false', Bool.and_eq_true, Bool.or_eq_true, Bool.and_eq_false_iff, Bool.or_eq_false_iff, Int.not_lt, Int.not_le, gt_iff_lt, ge_iff_le, ne_eq, Decidable.not_not, beq_iff_eq] at hc)
                  have h60 := hc; clear hc
                  refine wl_yes rfl rfl rfl rfl rfl (ow_vr (vr_move (v := .int .i64 _) rfl) ?_)
                  refine wl_yes rfl rfl rfl rfl rfl (ow_vr (vr_neq rfl rfl) ?_)
                  refine wl_yes rfl rfl rfl rfl rfl (ow_vr (vr_pick (b := true) (v := .bool _) rfl rfl) ?_)
                  refine wl_op rfl rfl (ow_vr (vr_pick (b := false) (v := .bool _) rfl rfl) ?_)
                  refine wl_op rfl rfl (ow_vr (vr_move (v := .bool _) rfl) ?_)
                  refine wl_known 65 rfl (c := false) (by by_cases h : (k : Int) < n <;> simp_all) ?_
                  refine wl_yes rfl rfl rfl rfl rfl (ow_vr (vr_move (v := (ptr p)) rfl) ?_)
                  refine wl_yes rfl rfl rfl rfl rfl (ow_fn (vs := [(ptr p)]) en_20 rfl hS (disk_On hd2) ?_)
                  clear hS; rintro _ _ w ⟨rfl, rfl⟩ hS; (try simp only [List.cons_append, List.nil_append] at hS)
                  refine wl_yes rfl rfl rfl rfl rfl (ow_vr (vr_move (v := .int .i64 (k : Int)) rfl) ?_)
                  refine wl_yes rfl rfl rfl rfl rfl (ow_vr (vr_move (v := .int .i64 n) rfl) ?_)
                  refine wl_yes rfl rfl rfl rfl rfl (ow_vr (vr_lss rfl rfl) ?_)
                  refine wl_yes rfl rfl rfl rfl rfl (ow_vr (vr_neqb Try.underlying4 rfl rfl) ?_)
                  refine wl_op rfl rfl (ow_vr (vr_pick (b := false) (v := .bool _) rfl rfl) ?_)
                  refine wl_nil ?_
                  refine hK20 _ _ ?_
                  refine cw_cond_f rfl rfl (by rw [ho]; by_cases h : (k : Int) < n <;> simp [h]) ?_
                  refine cw_skip ?_
                  refine hK18 _ _ ?_
                  refine cw_region ?_
                  refine wl_op rfl rfl (ow_vr (vr_move (v := .int .i64 (k : Int)) rfl) ?_)
                  first | (refine wl_op rfl rfl (ow_vr (vr_addi rfl rfl (by unfold inI64; omega)) ?_)) | (refine wl_op rfl rfl (ow_vr (vr_add rfl rfl) ?_))
                  refine wl_op rfl rfl (ow_vr (vr_assign (v := .int .i64 _) rfl) ?_)
                  refine wl_nil ?_
                  refine thenF_normal ⟨_, ?_, k + 1, (writeD d ((k : Int) % 4) (fullB [119])).2, Δ2, _, (reb (reb (reb (reb rfl rfl) rfl) rfl) rfl), ?_, rfl, hS⟩
                  · omega
                  · exact ⟨by omega, hP2, hd2⟩
                · (try simp only [decide_eq_true_eq, decide_eq_false_iff_not, Bool.not_eq_true, Bool.not_eq_false, Bool.not_eq_true', Bool.not_eq_false', Bool.and_eq_true, Bool.or_eq_true, Bool.and_eq_false_iff, Bool.or_eq_false_iff, Int.not_lt, Int.not_le, gt_iff_lt, ge_iff_le, ne_eq, Decidable.not_not, beq_iff_eq] at hc)
                  have h60 := hc; clear hc
                  refine wl_noD rfl rfl rfl rfl rfl rfl ?_
                  refine wl_noD rfl rfl rfl rfl rfl rfl ?_
                  refine wl_yes rfl rfl rfl rfl rfl (ow_vr (vr_pick (b := false) (v := .bool _) rfl rfl) ?_)
                  refine wl_op rfl rfl (ow_vr (vr_pick (b := false) (v := .bool _) rfl rfl) ?_)
                  refine wl_op rfl rfl (ow_vr (vr_move (v := .bool _) rfl) ?_)
                  refine wl_yes rfl rfl rfl rfl rfl (ow_vr (vr_move (v := (ptr p)) rfl) ?_)
                  refine wl_yes rfl rfl rfl rfl rfl (ow_fn (vs := [(ptr p)]) en_20 rfl hS (disk_On hd2) ?_)
                  clear hS; rintro _ _ w ⟨rfl, rfl⟩ hS; (try simp only [List.cons_append, List.nil_append] at hS)
                  refine wl_yes rfl rfl rfl rfl rfl (ow_vr (vr_move (v := .int .i64 (k : Int)) rfl) ?_)
                  refine wl_yes rfl rfl rfl rfl rfl (ow_vr (vr_move (v := .int .i64 n) rfl) ?_)
                  refine wl_yes rfl rfl rfl rfl rfl (ow_vr (vr_lss rfl rfl) ?_)
                  refine wl_yes rfl rfl rfl rfl rfl (ow_vr (vr_neqb Try.underlying4 rfl rfl) ?_)
                  refine wl_op rfl rfl (ow_vr (vr_pick (b := false) (v := .bool _) rfl rfl) ?_)
                  refine wl_nil ?_
                  refine hK20 _ _ ?_
                  refine cw_cond_f rfl rfl (by rw [ho]; by_cases h : (k : Int) < n <;> simp [h]) ?_
                  refine cw_skip ?_
                  refine hK18 _ _ ?_
                  refine cw_region ?_
                  refine wl_op rfl rfl (ow_vr (vr_move (v := .int .i64 (k : Int)) rfl) ?_)
                  first | (refine wl_op rfl rfl (ow_vr (vr_addi rfl rfl (by unfold inI64; omega)) ?_)) | (refine wl_op rfl rfl (ow_vr (vr_add rfl rfl) ?_))
                  refine wl_op rfl rfl (ow_vr (vr_assign (v := .int .i64 _) rfl) ?_)
                  refine wl_nil ?_
                  refine thenF_normal ⟨_, ?_, k + 1, (writeD d ((k : Int) % 4) (fullB [119])).2, Δ2, _, (reb (reb (reb (reb rfl rfl) rfl) rfl) rfl), ?_, rfl, hS⟩
                  · omega
                  · exact ⟨by omega, hP2, hd2⟩
              · (try simp only [decide_eq_true_eq, decide_eq_false_iff_not, Bool.not_eq_true, Bool.not_eq_false, Bool.not_eq_true', Bool.not_eq_false', Bool.and_eq_true, Bool.or_eq_true, Bool.and_eq_false_iff, Bool.or_eq_false_iff, Int.not_lt, Int.not_le, gt_iff_lt, ge_iff_le, ne_eq, Decidable.not_not, beq_iff_eq] at hc)
                have hc2 := hc; clear hc
                refine cw_exit ?_
                refine hK14 _ _ ?_
                refine cw_seq fun K21 hK21 => ?_
                refine cw_region ?_
                refine wl_op rfl rfl (ow_vr (vr_move (v := (ptr p)) rfl) ?_)
                refine wl_op rfl rfl (ow_fn (vs := [(ptr p)]) en_21 rfl hS (disk_Deeds hd) ?_)
                clear hS; rintro _ _ w ⟨rfl, rfl⟩ hS; (try simp only [List.cons_append, List.nil_append] at hS)
                refine wl_op rfl rfl (ow_vr (vr_move (v := .int .i64 n) rfl) ?_)
                refine wl_op rfl rfl (ow_vr (vr_move (v := .int .i64 wr) rfl) ?_)
                refine wl_op rfl rfl (ow_vr (vr_min2 rfl rfl) ?_)
                refine wl_op rfl rfl (ow_vr (vr_eql rfl rfl) ?_)
                refine wl_op rfl rfl (ow_vr (vr_assign (v := .bool _) rfl) ?_)
                refine wl_nil ?_
                refine hK21 _ _ ?_
                refine cw_ret ?_
                refine ret_one (fn := Try.f4) (n := 79) (t := 6) (.inl rfl) rfl rfl ?_
                exact ⟨[], ⟨congrArg Value.bool (by rw [arm_deeds hP (show (k : Int) = wr by omega)]; simp), rfl⟩, hS.tail1⟩
/-! what had a barrier behind it lasts -/
def idxW : Nat → List (List UInt8) → List Wr
  | _, [] => []
  | i, s :: l => ((i : Int), fullB s) :: idxW (i + 1) l
theorem idxW_length : ∀ (l : List (List UInt8)) (i : Nat), (idxW i l).length = l.length
  | [], _ => rfl
  | s :: l, i => by rw [idxW, List.length_cons, idxW_length l, List.length_cons]
theorem idxW_snoc (s : List UInt8) : ∀ (l : List (List UInt8)) (i : Nat), idxW i (l ++ [s]) = idxW i l ++ [(((i + l.length : Nat) : Int), fullB s)]
  | [], i => by simp [idxW]
  | t :: l, i => by
    rw [List.cons_append, idxW, idxW_snoc s l, idxW, List.cons_append, List.length_cons, show i + 1 + l.length = i + (l.length + 1) by omega]
theorem barM_idx : ∀ (l : List (List UInt8)) (i : Nat) (mp : Int → Option (List UInt8)) (k : Nat), barM mp (idxW i l) (k : Int) = if i ≤ k ∧ k < i + l.length then (l[k - i]?).map fullB else mp k
  | [], i, mp, k => by rw [idxW, barM, if_neg (by simp only [List.length_nil]; omega)]
  | s :: l, i, mp, k => by
    rw [idxW, barM, barM_idx l (i + 1)]
    rcases Nat.lt_trichotomy k i with h | h | h
    · rw [if_neg (by omega), if_neg (by omega), setM, if_neg (by omega)]
    · subst h
      rw [if_neg (by omega), if_pos (by simp), setM, if_pos rfl, Nat.sub_self]; rfl
    · by_cases h2 : k < i + 1 + l.length
      · rw [if_pos ⟨h, h2⟩, if_pos (by simp; omega), show k - i = (k - (i + 1)) + 1 by omega, List.getElem?_cons_succ]
      · rw [if_neg (by omega), if_neg (by simp; omega), setM, if_neg (by omega)]
theorem crashM_idx (ks : List Int) : ∀ (l : List (List UInt8)) (i : Nat) (mp : Int → Option (List UInt8)) (k : Nat), crashM ks i mp (idxW i l) (k : Int) = if (i ≤ k ∧ k < i + l.length) ∧ keptB ks k = true then (l[k - i]?).map fullB else mp k
  | [], i, mp, k => by rw [idxW, crashM, if_neg (by simp only [List.length_nil]; omega)]
  | s :: l, i, mp, k => by
    have hin : (if keptB ks i = true then setM mp (i : Int) (fullB s) else mp) (k : Int) = if k = i ∧ keptB ks i = true then some (fullB s) else mp k := by
      by_cases h1 : keptB ks i = true
      · rw [if_pos h1]
        by_cases h2 : k = i
        · rw [if_pos ⟨h2, h1⟩]; simp only [setM]; rw [if_pos (by omega)]
        · rw [if_neg (fun h => h2 h.1)]; simp only [setM]; rw [if_neg (by omega)]
      · rw [if_neg h1, if_neg (fun h => h1 h.2)]
    rw [idxW, crashM, crashM_idx ks l (i + 1), hin, List.length_cons]
    by_cases hk : keptB ks k = true
    · rcases Nat.lt_trichotomy k i with h | h | h
      · rw [if_neg (fun h3 => by have := h3.1.1; omega), if_neg (fun h3 => by have := h3.1; omega), if_neg (fun h3 => by have := h3.1.1; omega)]
      · subst h
        rw [if_neg (fun h3 => by have := h3.1.1; omega), if_pos ⟨rfl, hk⟩, if_pos ⟨⟨by omega, by omega⟩, hk⟩, Nat.sub_self]; rfl
      · by_cases h2 : k < i + 1 + l.length
        · rw [if_pos ⟨⟨by omega, h2⟩, hk⟩, if_pos ⟨⟨by omega, by omega⟩, hk⟩, show k - i = (k - (i + 1)) + 1 by omega, List.getElem?_cons_succ]
        · rw [if_neg (fun h3 => h2 h3.1.2), if_neg (fun h3 => by have := h3.1; omega), if_neg (fun h3 => by have := h3.1.2; omega)]
    · rw [if_neg (fun h3 => hk h3.2), if_neg (fun h3 => by rw [h3.1] at hk; exact hk h3.2), if_neg (fun h3 => hk h3.2)]
end Go.Proofs.Ytjhbmogpicddeaa
