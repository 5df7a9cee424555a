/- EntryTells. -/
import Derived.Test.YtjcagoighpmdkaaRefEntry
import Derived.Test.YtjcagoighpmdkaaApart
import Derived.Test.YtjcagoighpmdkaaLent
import Derived.Test.YtjcagoighpmdkaaAlive6
namespace Go.Proofs.Ytjcagoighpmdkaa
open Go Go.RowKit
set_option linter.unusedVariables false
set_option linter.unusedSimpArgs false
theorem Sat.dropL {E w : World} {Δ L : List Chunk} (h : Sat E (Δ ++ L) w) : Sat E L w := h.sub (by rw [List.flatten_append]; exact List.sublist_append_right _ _)
theorem Sat.push {E w : World} {k a b : Chunk} {L : List Chunk} (h : Sat E (k :: a :: b :: L) w) : Sat E (k :: [] :: b :: a :: L) w := h.perm (by simpa using flat_cons (flat_swap (L := L)))
theorem Sat.rot2 {E w : World} {r k a : Chunk} {L : List Chunk} (h : Sat E (r :: k :: a :: L) w) : Sat E (k :: a :: r :: L) w := h.perm (flat_swap.trans (flat_cons flat_swap))
theorem Sat.nil2 {E w : World} {k : Chunk} {L : List Chunk} (h : Sat E (k :: L) w) : Sat E (k :: [] :: [] :: L) w := h.perm (by simp)
theorem Sat.kept0 {E w : World} {a b c d e f' g : Chunk} {L : List Chunk} (h : Sat E (a :: b :: c :: d :: e :: f' :: g :: L) w) : Sat E (e :: [] :: d :: b :: a :: c :: f' :: g :: L) w :=
  h.perm (by classical exact List.perm_iff_count.2 fun x => by simp only [List.flatten_cons, List.flatten_nil, List.count_append, List.count_nil]; omega)
attribute [local irreducible] actF WL CW OW PL SW VR LR yes Returns Fn
theorem getput_of {e : Entr} {b : List UInt8} (hb : (if rightE e then laidB e else []) = b) : b.length ≤ 32 ∧ getOkE b = rightE e ∧ (rightE e = true → getE b = e ∧ laidB e = b) ∧ (rightE e = false → b = []) := by
  cases h : rightE e with
  | true => rw [h, if_pos rfl] at hb; subst hb; exact ⟨by rw [laid_length h]; omega, getOk_laid h, fun _ => ⟨get_laid h, rfl⟩, fun h => by simp at h⟩
  | false =>
    rw [h, if_neg (by simp)] at hb; subst hb
    refine ⟨by simp, ?_, fun h => by simp at h, fun _ => rfl⟩
    cases h2 : getOkE [] with
    | false => rfl
    | true => have := (laid_open h2).2; simp at this
theorem changesGo_len : ∀ (es : List Entr) (k : Nat) (out grp : List (Int × Int)) (n : Int), (changesGo es k out grp n).1.length ≤ es.length + out.length + grp.length
  | [], k, out, grp, n => by simp [changesGo]
  | e :: es, k, out, grp, n => by
    rw [changesGo]
    split
    · have := changesGo_len es (k + 1) out (grp ++ [(e.cell, e.value)]) n; simp at this ⊢; omega
    · split
      · have := changesGo_len es (k + 1) (out ++ grp) [] ((k : Int) + 1); simp at this ⊢; omega
      · simp; omega
set_option maxHeartbeats 2000000 in
theorem entry_tells (e : Entr) (raw : List UInt8) (lsn ep : Int) (l : List (Int × Int)) (es : List Entr) (vl vm : Value) (Δl Δm : Chunk) (hvl : View 2 encC vl l Δl) (hvm : View 5 encE vm es Δm) (hi : inI64 lsn) (hraw : raw.length ≤ 9223372036854775807) (hnl : l.length ≤ 9223372036854775807) (hnm : es.length ≤ 9223372036854775807) :
    FnG Try.prog 3 [entV e, str raw, .int .i64 lsn, .int .i64 ep, vl, vm] [Δl, Δm] (fun u Δs => u = .bool true ∧ Δs = []) := by
  refine FnG.mk fun E F w hS hF => ?_
  have hFl : Δl ∈ F := hF _ (by simp)
  have hFm : Δm ∈ F := hF _ (by simp)
  have hput := entry_Put e
  obtain ⟨b, hb⟩ : ∃ b, (if rightE e then laidB e else []) = b := ⟨_, rfl⟩
  rw [hb] at hput
  obtain ⟨hbl, hgb, hge, hbe⟩ := getput_of hb
  refine returns_enter Try.func3 rfl Try.ntmps3 rfl ?_
  refine cw_seq fun K1 hK1 => ?_
  refine cw_region ?_
  refine wl_op rfl rfl (ow_box (cs := [_, _, _, _, _]) hS rfl rfl ?_)
  clear hS; intro b6 w hS
  refine wl_op rfl rfl (ow_vr (vr_assign (v := .bool false) rfl) ?_)
  refine wl_nil ?_
  refine hK1 _ _ ?_
  refine cw_seq fun K2 hK2 => ?_
  refine cw_seq fun K3 hK3 => ?_
  refine cw_region ?_
  refine wl_op rfl rfl (ow_vr (vr_move (v := str _) rfl) ?_)
  refine wl_op rfl rfl (ow_vr (vr_len_s Try.underlying9 rfl) ?_)
  refine wl_op rfl rfl (ow_vr (vr_gtr rfl rfl) ?_)
  refine wl_op rfl rfl (ow_vr (vr_move (v := .bool _) rfl) ?_)
  refine wl_split 37 rfl (fun hc => ?_) (fun hc => ?_)
  · (try simp only [decide_eq_true_eq, decide_eq_false_iff_not, Bool.not_eq_true, Bool.not_eq_false, Bool.not_eq_true', Bool.not_eq_false', Bool.and_eq_true, Bool.or_eq_true, Bool.and_eq_false_iff, Bool.or_eq_false_iff, Int.not_lt, Int.not_le, gt_iff_lt, ge_iff_le, ne_eq, Decidable.not_not, beq_iff_eq] at hc)
    have hg37 := hc; clear hc
    refine wl_noD rfl rfl rfl rfl rfl rfl ?_
    refine wl_noD rfl rfl rfl rfl rfl rfl ?_
    refine wl_noD rfl rfl rfl rfl rfl rfl ?_
    refine wl_op rfl rfl (ow_vr (vr_pick (b := true) (v := .bool _) rfl rfl) ?_)
    refine wl_op rfl rfl (ow_vr (vr_move (v := .bool _) rfl) ?_)
    refine wl_noD rfl rfl rfl rfl rfl rfl ?_
    refine wl_noD rfl rfl rfl rfl rfl rfl ?_
    refine wl_noD rfl rfl rfl rfl rfl rfl ?_
    refine wl_op rfl rfl (ow_vr (vr_pick (b := true) (v := .bool _) rfl rfl) ?_)
    refine wl_op rfl rfl (ow_vr (vr_move (v := .bool _) rfl) ?_)
    refine wl_noD rfl rfl rfl rfl rfl rfl ?_
    refine wl_noD rfl rfl rfl rfl rfl rfl ?_
    refine wl_op rfl rfl (ow_vr (vr_pick (b := true) (v := .bool _) rfl rfl) ?_)
    refine wl_nil ?_
    refine hK3 _ _ ?_
    refine cw_cond_t rfl rfl (rfl) ?_
    refine cw_seq fun K4 hK4 => ?_
    refine cw_region ?_
    refine wl_op rfl rfl (ow_fn (vs := []) en_5 rfl hS (alive6) ?_)
    clear hS; rintro _ _ w ⟨rfl, rfl⟩ hS; (try simp only [List.cons_append, List.nil_append] at hS)
    refine wl_op rfl rfl (ow_vr (vr_assign (v := .bool _) rfl) ?_)
    refine wl_nil ?_
    refine hK4 _ _ ?_
    refine cw_ret ?_
    refine thenF_ret (?_)
    refine ret_one (fn := Try.f3) (n := 196) (t := 12) (.inl rfl) rfl rfl ?_
    exact ⟨[], ⟨rfl, rfl⟩, hS.tail1⟩
  · (try simp only [decide_eq_true_eq, decide_eq_false_iff_not, Bool.not_eq_true, Bool.not_eq_false, Bool.not_eq_true', Bool.not_eq_false', Bool.and_eq_true, Bool.or_eq_true, Bool.and_eq_false_iff, Bool.or_eq_false_iff, Int.not_lt, Int.not_le, gt_iff_lt, ge_iff_le, ne_eq, Decidable.not_not, beq_iff_eq] at hc)
    have hg37 := hc; clear hc
    refine wl_yes rfl rfl rfl rfl rfl (ow_vr (vr_move (v := vl) rfl) ?_)
    refine wl_yes rfl rfl rfl rfl rfl (ow_vr (vr_len_v (v := vl) Try.underlying24 rfl hvl) ?_)
    refine wl_yes rfl rfl rfl rfl rfl (ow_vr (vr_gtr rfl rfl) ?_)
    refine wl_op rfl rfl (ow_vr (vr_pick (b := false) (v := .bool _) rfl rfl) ?_)
    refine wl_op rfl rfl (ow_vr (vr_move (v := .bool _) rfl) ?_)
    refine wl_split 42 rfl (fun hc => ?_) (fun hc => ?_)
    · (try simp only [decide_eq_true_eq, decide_eq_false_iff_not, Bool.not_eq_true, Bool.not_eq_false, Bool.not_eq_true', Bool.not_eq_false', Bool.and_eq_true, Bool.or_eq_true, Bool.and_eq_false_iff, Bool.or_eq_false_iff, Int.not_lt, Int.not_le, gt_iff_lt, ge_iff_le, ne_eq, Decidable.not_not, beq_iff_eq] at hc)
      have hg42 := hc; clear hc
      refine wl_noD rfl rfl rfl rfl rfl rfl ?_
      refine wl_noD rfl rfl rfl rfl rfl rfl ?_
      refine wl_noD rfl rfl rfl rfl rfl rfl ?_
      refine wl_op rfl rfl (ow_vr (vr_pick (b := true) (v := .bool _) rfl rfl) ?_)
      refine wl_op rfl rfl (ow_vr (vr_move (v := .bool _) rfl) ?_)
      refine wl_noD rfl rfl rfl rfl rfl rfl ?_
      refine wl_noD rfl rfl rfl rfl rfl rfl ?_
      refine wl_op rfl rfl (ow_vr (vr_pick (b := true) (v := .bool _) rfl rfl) ?_)
      refine wl_nil ?_
      refine hK3 _ _ ?_
      refine cw_cond_t rfl rfl (rfl) ?_
      refine cw_seq fun K5 hK5 => ?_
      refine cw_region ?_
      refine wl_op rfl rfl (ow_fn (vs := []) en_5 rfl hS (alive6) ?_)
      clear hS; rintro _ _ w ⟨rfl, rfl⟩ hS; (try simp only [List.cons_append, List.nil_append] at hS)
      refine wl_op rfl rfl (ow_vr (vr_assign (v := .bool _) rfl) ?_)
      refine wl_nil ?_
      refine hK5 _ _ ?_
      refine cw_ret ?_
      refine thenF_ret (?_)
      refine ret_one (fn := Try.f3) (n := 196) (t := 12) (.inl rfl) rfl rfl ?_
      exact ⟨[], ⟨rfl, rfl⟩, hS.tail1⟩
    · (try simp only [decide_eq_true_eq, decide_eq_false_iff_not, Bool.not_eq_true, Bool.not_eq_false, Bool.not_eq_true', Bool.not_eq_false', Bool.and_eq_true, Bool.or_eq_true, Bool.and_eq_false_iff, Bool.or_eq_false_iff, Int.not_lt, Int.not_le, gt_iff_lt, ge_iff_le, ne_eq, Decidable.not_not, beq_iff_eq] at hc)
      have hg42 := hc; clear hc
      refine wl_yes rfl rfl rfl rfl rfl (ow_vr (vr_move (v := vm) rfl) ?_)
      refine wl_yes rfl rfl rfl rfl rfl (ow_vr (vr_len_v (v := vm) Try.underlying25 rfl hvm) ?_)
      refine wl_yes rfl rfl rfl rfl rfl (ow_vr (vr_gtr rfl rfl) ?_)
      refine wl_op rfl rfl (ow_vr (vr_pick (b := false) (v := .bool _) rfl rfl) ?_)
      refine wl_op rfl rfl (ow_vr (vr_move (v := .bool _) rfl) ?_)
      refine wl_split 47 rfl (fun hc => ?_) (fun hc => ?_)
      · (try simp only [decide_eq_true_eq, decide_eq_false_iff_not, Bool.not_eq_true, Bool.not_eq_false, Bool.not_eq_true', Bool.not_eq_false', Bool.and_eq_true, Bool.or_eq_true, Bool.and_eq_false_iff, Bool.or_eq_false_iff, Int.not_lt, Int.not_le, gt_iff_lt, ge_iff_le, ne_eq, Decidable.not_not, beq_iff_eq] at hc)
        have hg47 := hc; clear hc
        refine wl_noD rfl rfl rfl rfl rfl rfl ?_
        refine wl_noD rfl rfl rfl rfl rfl rfl ?_
        refine wl_op rfl rfl (ow_vr (vr_pick (b := true) (v := .bool _) rfl rfl) ?_)
        refine wl_nil ?_
        refine hK3 _ _ ?_
        refine cw_cond_t rfl rfl (rfl) ?_
        refine cw_seq fun K6 hK6 => ?_
        refine cw_region ?_
        refine wl_op rfl rfl (ow_fn (vs := []) en_5 rfl hS (alive6) ?_)
        clear hS; rintro _ _ w ⟨rfl, rfl⟩ hS; (try simp only [List.cons_append, List.nil_append] at hS)
        refine wl_op rfl rfl (ow_vr (vr_assign (v := .bool _) rfl) ?_)
        refine wl_nil ?_
        refine hK6 _ _ ?_
        refine cw_ret ?_
        refine thenF_ret (?_)
        refine ret_one (fn := Try.f3) (n := 196) (t := 12) (.inl rfl) rfl rfl ?_
        exact ⟨[], ⟨rfl, rfl⟩, hS.tail1⟩
      · (try simp only [decide_eq_true_eq, decide_eq_false_iff_not, Bool.not_eq_true, Bool.not_eq_false, Bool.not_eq_true', Bool.not_eq_false', Bool.and_eq_true, Bool.or_eq_true, Bool.and_eq_false_iff, Bool.or_eq_false_iff, Int.not_lt, Int.not_le, gt_iff_lt, ge_iff_le, ne_eq, Decidable.not_not, beq_iff_eq] at hc)
        have hg47 := hc; clear hc
        refine wl_yes rfl rfl rfl rfl rfl (ow_fn (vs := []) en_5 rfl hS (alive6) ?_)
        clear hS; rintro _ _ w ⟨rfl, rfl⟩ hS; (try simp only [List.cons_append, List.nil_append] at hS)
        refine wl_yes rfl rfl rfl rfl rfl (ow_vr (vr_not rfl) ?_)
        refine wl_op rfl rfl (ow_vr (vr_pick (b := false) (v := .bool _) rfl rfl) ?_)
        refine wl_nil ?_
        refine hK3 _ _ ?_
        refine cw_cond rfl rfl (fun hc => ?_) (fun hc => ?_)
        · (try simp only [decide_eq_true_eq, decide_eq_false_iff_not, Bool.not_eq_true, Bool.not_eq_false, Bool.not_eq_true', Bool.not_eq_false', Bool.and_eq_true, Bool.or_eq_true, Bool.and_eq_false_iff, Bool.or_eq_false_iff, Int.not_lt, Int.not_le, gt_iff_lt, ge_iff_le, ne_eq, Decidable.not_not, beq_iff_eq] at hc)
          have hc0 := hc; clear hc
          refine cw_seq fun K7 hK7 => ?_
          refine cw_region ?_
          refine wl_op rfl rfl (ow_fn (vs := []) en_5 rfl hS (alive6) ?_)
          clear hS; rintro _ _ w ⟨rfl, rfl⟩ hS; (try simp only [List.cons_append, List.nil_append] at hS)
          refine wl_op rfl rfl (ow_vr (vr_assign (v := .bool _) rfl) ?_)
          refine wl_nil ?_
          refine hK7 _ _ ?_
          refine cw_ret ?_
          refine thenF_ret (?_)
          refine ret_one (fn := Try.f3) (n := 196) (t := 12) (.inl rfl) rfl rfl ?_
          exact ⟨[], ⟨rfl, rfl⟩, hS.tail1⟩
        · (try simp only [decide_eq_true_eq, decide_eq_false_iff_not, Bool.not_eq_true, Bool.not_eq_false, Bool.not_eq_true', Bool.not_eq_false', Bool.and_eq_true, Bool.or_eq_true, Bool.and_eq_false_iff, Bool.or_eq_false_iff, Int.not_lt, Int.not_le, gt_iff_lt, ge_iff_le, ne_eq, Decidable.not_not, beq_iff_eq] at hc)
          have hc0 := hc; clear hc
          refine cw_skip ?_
          refine hK2 _ _ ?_
          refine cw_seq fun K8 hK8 => ?_
          refine cw_region ?_
          first | (refine wl_op rfl rfl (ow_lr (S := Sat _ _) (lr_loadA (vs := [.int .i64 _, .int .i64 _, .int .i64 _, .int .i64 _, .int .i64 _]) Try.underlying23 rfl sz_23 rfl (by first | exact Has.here | exact Has.there (Has.here) | exact Has.there (Has.there (Has.here)) | exact Has.there (Has.there (Has.there (Has.here))) | exact Has.there (Has.there (Has.there (Has.there (Has.here)))) | exact Has.there (Has.there (Has.there (Has.there (Has.there (Has.here))))) | exact Has.there (Has.there (Has.there (Has.there (Has.there (Has.there (Has.here)))))) | exact Has.there (Has.there (Has.there (Has.there (Has.there (Has.there (Has.there (Has.here)))))))) rfl rfl) hS ?_)) | (refine wl_op rfl rfl (ow_lr (S := Sat _ _) (lr_loadA (vs := [_, _, _, _, _]) Try.underlying23 rfl sz_23 rfl (by first | exact Has.here | exact Has.there (Has.here) | exact Has.there (Has.there (Has.here)) | exact Has.there (Has.there (Has.there (Has.here))) | exact Has.there (Has.there (Has.there (Has.there (Has.here)))) | exact Has.there (Has.there (Has.there (Has.there (Has.there (Has.here))))) | exact Has.there (Has.there (Has.there (Has.there (Has.there (Has.there (Has.here)))))) | exact Has.there (Has.there (Has.there (Has.there (Has.there (Has.there (Has.there (Has.here)))))))) rfl rfl) hS ?_))
          refine wl_op rfl rfl (ow_fn (vs := [.agg _]) en_6 rfl hS (hput) ?_)
          clear hS; rintro _ _ w ⟨rfl, rfl⟩ hS; (try simp only [List.cons_append, List.nil_append] at hS)
          refine wl_op rfl rfl (ow_vr (vr_move (v := .tuple _) rfl) ?_)
          refine wl_op rfl rfl (ow_vr (vr_extract (v := str _) rfl rfl) ?_)
          refine wl_op rfl rfl (ow_vr (vr_extract (v := .bool _) rfl rfl) ?_)
          refine wl_op rfl rfl (ow_vr (vr_assign (v := str _) rfl) ?_)
          refine wl_op rfl rfl (ow_vr (vr_assign (v := .bool _) rfl) ?_)
          refine wl_nil ?_
          refine hK8 _ _ ?_
          refine cw_seq fun K9 hK9 => ?_
          have hJK9 : ∀ f w, (∃ (g : Nat → Value), f = (upd (upd (upd (upd (upd (upd (upd (upd g 1 (str raw)) 2 (.int .i64 lsn)) 3 (.int .i64 ep)) 4 (vl)) 5 (vm)) 6 (.pointer (some ⟨b6, 0, none⟩))) 13 (str b)) 14 (.bool (rightE e))) ∧ (l.length ≤ 40 ∧ es.length ≤ 60 ∧ raw.length ≤ 100) ∧ Sat E ([(b6, .cells [.int .i64 e.kind, .int .i64 e.lsn, .int .i64 e.epoch, .int .i64 e.cell, .int .i64 e.value].toArray 23 (0, 0))] :: F) w) → K9 f w := by
            clear hS; rintro f w ⟨g, rfl, hj6, hS⟩
            refine hK9 _ _ ?_
            refine cw_seq fun K10 hK10 => ?_
            obtain ⟨hl40, hm60, hr100⟩ := hj6
            have hcl := changesGo_len es 0 [] [] 0
            have hgl := groupL_length lsn ep l
            refine cw_region ?_
            refine wl_op rfl rfl (ow_vr (vr_move (v := (str b)) rfl) ?_)
            refine wl_op rfl rfl (ow_fn (vs := [(str b)]) en_10 rfl hS (entry_Get b (by omega)) ?_)
            clear hS; rintro _ _ w ⟨rfl, rfl⟩ hS; (try simp only [List.cons_append, List.nil_append] at hS)
            refine wl_op rfl rfl (ow_vr (vr_move (v := .tuple _) rfl) ?_)
            refine wl_op rfl rfl (ow_vr (vr_extract (v := .agg _) rfl rfl) ?_)
            refine wl_op rfl rfl (ow_vr (vr_extract (v := .bool _) rfl rfl) ?_)
            refine wl_op rfl rfl (ow_alloc (cs := [_, _, _, _, _]) hS zr_23 rfl ?_)
            clear hS; intro b15 w hS
            refine wl_op rfl rfl (ow_storeA (vs := [.int .i64 _, .int .i64 _, .int .i64 _, .int .i64 _, .int .i64 _]) hS sz_23 rfl rfl rfl (by first | rfl | (simp only [List.all_cons, List.all_nil, Bool.and_true, Bool.and_eq_true]; repeat (first | refine ⟨by first | rfl | assumption, ?_⟩ | rfl | assumption))) (by first | exact Has.here | exact Has.there (Has.here) | exact Has.there (Has.there (Has.here)) | exact Has.there (Has.there (Has.there (Has.here))) | exact Has.there (Has.there (Has.there (Has.there (Has.here)))) | exact Has.there (Has.there (Has.there (Has.there (Has.there (Has.here))))) | exact Has.there (Has.there (Has.there (Has.there (Has.there (Has.there (Has.here)))))) | exact Has.there (Has.there (Has.there (Has.there (Has.there (Has.there (Has.there (Has.here)))))))) (by simp) ?_)
            clear hS; intro w hS; try simp only [putAt, List.set_cons_zero, List.set_cons_succ] at hS
            refine wl_op rfl rfl (ow_vr (vr_assign (v := .bool _) rfl) ?_)
            refine wl_nil ?_
            refine hK10 _ _ ?_
            refine cw_seq fun K11 hK11 => ?_
            refine cw_region ?_
            refine wl_op rfl rfl (ow_vr (vr_move (v := (str raw)) rfl) ?_)
            refine wl_op rfl rfl (ow_fn (vs := [(str raw)]) en_10 rfl hS (entry_Get raw (by omega)) ?_)
            clear hS; rintro _ _ w ⟨rfl, rfl⟩ hS; (try simp only [List.cons_append, List.nil_append] at hS)
            refine wl_op rfl rfl (ow_vr (vr_move (v := .tuple _) rfl) ?_)
            refine wl_op rfl rfl (ow_vr (vr_extract (v := .agg _) rfl rfl) ?_)
            refine wl_op rfl rfl (ow_vr (vr_extract (v := .bool _) rfl rfl) ?_)
            refine wl_op rfl rfl (ow_alloc (cs := [_, _, _, _, _]) hS zr_23 rfl ?_)
            clear hS; intro b17 w hS
            refine wl_op rfl rfl (ow_storeA (vs := [.int .i64 _, .int .i64 _, .int .i64 _, .int .i64 _, .int .i64 _]) hS sz_23 rfl rfl rfl (by first | rfl | (simp only [List.all_cons, List.all_nil, Bool.and_true, Bool.and_eq_true]; repeat (first | refine ⟨by first | rfl | assumption, ?_⟩ | rfl | assumption))) (by first | exact Has.here | exact Has.there (Has.here) | exact Has.there (Has.there (Has.here)) | exact Has.there (Has.there (Has.there (Has.here))) | exact Has.there (Has.there (Has.there (Has.there (Has.here)))) | exact Has.there (Has.there (Has.there (Has.there (Has.there (Has.here))))) | exact Has.there (Has.there (Has.there (Has.there (Has.there (Has.there (Has.here)))))) | exact Has.there (Has.there (Has.there (Has.there (Has.there (Has.there (Has.there (Has.here)))))))) (by simp) ?_)
            clear hS; intro w hS; try simp only [putAt, List.set_cons_zero, List.set_cons_succ] at hS
            refine wl_op rfl rfl (ow_vr (vr_assign (v := .bool _) rfl) ?_)
            refine wl_nil ?_
            refine hK11 _ _ ?_
            refine cw_seq fun K12 hK12 => ?_
            refine cw_region ?_
            refine wl_op rfl rfl (ow_vr (vr_move (v := (str raw)) rfl) ?_)
            refine wl_op rfl rfl (ow_fn (vs := [(str raw)]) en_11 rfl hS (ref_Read raw (by omega)) ?_)
            clear hS; rintro _ _ w ⟨rfl, rfl⟩ hS; (try simp only [List.cons_append, List.nil_append] at hS)
            refine wl_op rfl rfl (ow_vr (vr_move (v := .tuple _) rfl) ?_)
            refine wl_op rfl rfl (ow_vr (vr_extract (v := .agg _) rfl rfl) ?_)
            refine wl_op rfl rfl (ow_vr (vr_extract (v := .bool _) rfl rfl) ?_)
            refine wl_op rfl rfl (ow_alloc (cs := [_, _, _, _, _]) hS zr_23 rfl ?_)
            clear hS; intro b19 w hS
            refine wl_op rfl rfl (ow_storeA (vs := [.int .i64 _, .int .i64 _, .int .i64 _, .int .i64 _, .int .i64 _]) hS sz_23 rfl rfl rfl (by first | rfl | (simp only [List.all_cons, List.all_nil, Bool.and_true, Bool.and_eq_true]; repeat (first | refine ⟨by first | rfl | assumption, ?_⟩ | rfl | assumption))) (by first | exact Has.here | exact Has.there (Has.here) | exact Has.there (Has.there (Has.here)) | exact Has.there (Has.there (Has.there (Has.here))) | exact Has.there (Has.there (Has.there (Has.there (Has.here)))) | exact Has.there (Has.there (Has.there (Has.there (Has.there (Has.here))))) | exact Has.there (Has.there (Has.there (Has.there (Has.there (Has.there (Has.here)))))) | exact Has.there (Has.there (Has.there (Has.there (Has.there (Has.there (Has.there (Has.here)))))))) (by simp) ?_)
            clear hS; intro w hS; try simp only [putAt, List.set_cons_zero, List.set_cons_succ] at hS
            refine wl_op rfl rfl (ow_vr (vr_assign (v := .bool _) rfl) ?_)
            refine wl_nil ?_
            refine hK12 _ _ ?_
            refine cw_seq fun K13 hK13 => ?_
            have hJK13 : ∀ f w, (∃ (g : Nat → Value), f = (upd (upd (upd (upd g 2 (.int .i64 lsn)) 3 (.int .i64 ep)) 4 (vl)) 5 (vm)) ∧ (True) ∧ Sat E ([(b19, .cells [.int .i64 (getE raw).kind, .int .i64 (getE raw).lsn, .int .i64 (getE raw).epoch, .int .i64 (getE raw).cell, .int .i64 (getE raw).value].toArray 23 (0, 0))] :: [(b17, .cells [.int .i64 (getE raw).kind, .int .i64 (getE raw).lsn, .int .i64 (getE raw).epoch, .int .i64 (getE raw).cell, .int .i64 (getE raw).value].toArray 23 (0, 0))] :: [(b15, .cells [.int .i64 (getE b).kind, .int .i64 (getE b).lsn, .int .i64 (getE b).epoch, .int .i64 (getE b).cell, .int .i64 (getE b).value].toArray 23 (0, 0))] :: [(b6, .cells [.int .i64 e.kind, .int .i64 e.lsn, .int .i64 e.epoch, .int .i64 e.cell, .int .i64 e.value].toArray 23 (0, 0))] :: F) w) → K13 f w := by
              clear hS; rintro f w ⟨g, rfl, hj11, hS⟩
              refine hK13 _ _ ?_
              refine cw_seq fun K14 hK14 => ?_
              replace hS := hS.tail1.tail1.tail1.tail1
              refine cw_region ?_
              refine wl_op rfl rfl (ow_vr (vr_move (v := vl) rfl) ?_)
              refine wl_op rfl rfl (ow_fng (vs := [vl]) en_12 rfl hS (book_LentChanges l vl Δl hvl (by omega)) (by repeat (first | exact needs0 | (refine needsC ?_ ?_; · (repeat (first | exact List.mem_cons_self | assumption | refine List.mem_cons_of_mem _ ?_))))) ?_)
              clear hS; rintro v121 _ w ⟨D121, rfl, hlc⟩ hS; (try simp only [List.cons_append, List.nil_append] at hS)
              refine wl_op rfl rfl (ow_vr (vr_move (v := vm) rfl) ?_)
              refine wl_op rfl rfl (ow_fng (vs := [vm]) en_13 rfl hS (book_LentEntries es vm Δm hvm (by omega)) (by repeat (first | exact needs0 | (refine needsC ?_ ?_; · (repeat (first | exact List.mem_cons_self | assumption | refine List.mem_cons_of_mem _ ?_))))) ?_)
              clear hS; rintro v123 _ w ⟨D123, rfl, hle⟩ hS; (try simp only [List.cons_append, List.nil_append] at hS)
              refine wl_op rfl rfl (ow_vr (vr_assign (v := v121) rfl) ?_)
              refine wl_op rfl rfl (ow_vr (vr_assign (v := v123) rfl) ?_)
              refine wl_nil ?_
              refine hK14 _ _ ?_
              refine cw_seq fun K15 hK15 => ?_
              refine cw_region ?_
              refine wl_op rfl rfl (ow_vr (vr_build (vs := []) (cs := [.slice _ _ _, .slice _ _ _, .slice _ _ _, .slice _ _ _, .slice _ _ _, .slice _ _ _, .slice _ _ _, .slice _ _ _, .slice _ _ _, .slice _ _ _, .slice _ _ _, .slice _ _ _]) zr_43 pl_43 rfl rfl) ?_)
              refine wl_op rfl rfl (ow_box (cs := [_, _, _, _, _, _, _, _, _, _, _, _]) hS rfl rfl ?_)
              clear hS; intro b125 w hS
              refine wl_op rfl rfl (ow_vr (vr_assign (v := .pointer (some ⟨b125, 0, none⟩)) rfl) ?_)
              refine wl_nil ?_
              refine hK15 _ _ ?_
              refine cw_seq fun K16 hK16 => ?_
              have hvc := hlc.view (by exact fun _ => rfl)
              have hve := hle.view (by exact fun _ => rfl)
              refine cw_forget (F := fun g => (upd (upd (upd (upd (upd (upd (upd g 2 (.int .i64 lsn)) 3 (.int .i64 ep)) 4 (vl)) 5 (vm)) 21 (v121)) 22 (v123)) 23 (.pointer (some ⟨b125, 0, none⟩)))) (reb (reb (reb (reb (reb (reb (reb rfl rfl) rfl) rfl) rfl) rfl) rfl) rfl) ?_
              intro g
              refine cw_region ?_
              refine wl_op rfl rfl (ow_vr (vr_move (v := .int .i64 lsn) rfl) ?_)
              refine wl_op rfl rfl (ow_vr (vr_move (v := .int .i64 ep) rfl) ?_)
              refine wl_op rfl rfl (ow_vr (vr_move (v := v121) rfl) ?_)
              refine wl_op rfl rfl (ow_fng (vs := [.int .i64 lsn, .int .i64 ep, v121]) en_14 rfl hS (entry_GroupA lsn ep l v121 D121 hvc (by omega) hi) (by repeat (first | exact needs0 | (refine needsC ?_ ?_; · (repeat (first | exact List.mem_cons_self | assumption | refine List.mem_cons_of_mem _ ?_))))) ?_)
              clear hS; rintro v130 _ w ⟨vG, DG, rfl, rfl, hoG⟩ hS; (try simp only [List.cons_append, List.nil_append] at hS)
              refine wl_op rfl rfl (ow_vr (vr_move (v := .tuple _) rfl) ?_)
              refine wl_op rfl rfl (ow_vr (vr_extract (v := vG) rfl rfl) ?_)
              refine wl_op rfl rfl (ow_vr (vr_extract (v := .bool _) rfl rfl) ?_)
              refine wl_op rfl rfl (ow_vr (vr_assign (v := vG) rfl) ?_)
              refine wl_op rfl rfl (ow_vr (vr_assign (v := .bool _) rfl) ?_)
              refine wl_nil ?_
              refine hK16 _ _ ?_
              refine cw_seq fun K17 hK17 => ?_
              refine cw_region ?_
              refine wl_op rfl rfl (ow_vr (vr_move (v := .int .i64 lsn) rfl) ?_)
              refine wl_op rfl rfl (ow_vr (vr_move (v := .int .i64 ep) rfl) ?_)
              refine wl_op rfl rfl (ow_vr (vr_move (v := vl) rfl) ?_)
              refine wl_op rfl rfl (ow_fng (vs := [.int .i64 lsn, .int .i64 ep, vl]) en_15 rfl hS (ref_Group lsn ep l vl Δl hvl (by omega)) (by repeat (first | exact needs0 | (refine needsC ?_ ?_; · (repeat (first | exact List.mem_cons_self | assumption | refine List.mem_cons_of_mem _ ?_))))) ?_)
              clear hS; rintro v137 _ w ⟨vH, DH, rfl, rfl, hoH⟩ hS; (try simp only [List.cons_append, List.nil_append] at hS)
              refine wl_op rfl rfl (ow_vr (vr_move (v := .tuple _) rfl) ?_)
              refine wl_op rfl rfl (ow_vr (vr_extract (v := vH) rfl rfl) ?_)
              refine wl_op rfl rfl (ow_vr (vr_extract (v := .bool _) rfl rfl) ?_)
              refine wl_op rfl rfl (ow_vr (vr_assign (v := vH) rfl) ?_)
              refine wl_op rfl rfl (ow_vr (vr_assign (v := .bool _) rfl) ?_)
              refine wl_nil ?_
              refine hK17 _ _ ?_
              refine cw_seq fun K18 hK18 => ?_
              refine cw_forget (F := fun g => (upd (upd (upd (upd (upd (upd (upd (upd (upd (upd (upd g 2 (.int .i64 lsn)) 3 (.int .i64 ep)) 4 (vl)) 5 (vm)) 21 (v121)) 22 (v123)) 23 (.pointer (some ⟨b125, 0, none⟩))) 24 (vG)) 25 (.bool ((groupL lsn ep l).all rightE))) 26 (vH)) 27 (.bool ((groupL lsn ep l).all rightE)))) (reb (reb (reb (reb (reb (reb (reb (reb (reb (reb (reb rfl rfl) rfl) rfl) rfl) rfl) rfl) rfl) rfl) rfl) rfl) rfl) ?_
              intro g
              refine cw_region ?_
              refine wl_op rfl rfl (ow_vr (vr_move (v := v123) rfl) ?_)
              refine wl_op rfl rfl (ow_fng (vs := [v123]) en_16 rfl hS (entry_Changes es v123 D123 hve (by omega)) (by repeat (first | exact needs0 | (refine needsC ?_ ?_; · (repeat (first | exact List.mem_cons_self | assumption | refine List.mem_cons_of_mem _ ?_))))) ?_)
              clear hS; rintro v142 _ w ⟨vP, DP, rfl, rfl, hoP⟩ hS; (try simp only [List.cons_append, List.nil_append] at hS)
              refine wl_op rfl rfl (ow_vr (vr_move (v := .tuple _) rfl) ?_)
              refine wl_op rfl rfl (ow_vr (vr_extract (v := vP) rfl rfl) ?_)
              refine wl_op rfl rfl (ow_vr (vr_extract (v := .int .i64 _) rfl rfl) ?_)
              refine wl_op rfl rfl (ow_vr (vr_assign (v := vP) rfl) ?_)
              refine wl_op rfl rfl (ow_vr (vr_assign (v := .int .i64 _) rfl) ?_)
              refine wl_nil ?_
              refine hK18 _ _ ?_
              refine cw_seq fun K19 hK19 => ?_
              refine cw_region ?_
              refine wl_op rfl rfl (ow_vr (vr_move (v := vm) rfl) ?_)
              refine wl_op rfl rfl (ow_fng (vs := [vm]) en_17 rfl hS (ref_Changes es vm Δm hvm (by omega)) (by repeat (first | exact needs0 | (refine needsC ?_ ?_; · (repeat (first | exact List.mem_cons_self | assumption | refine List.mem_cons_of_mem _ ?_))))) ?_)
              clear hS; rintro v147 _ w ⟨vQ, DQ, rfl, rfl, hoQ⟩ hS; (try simp only [List.cons_append, List.nil_append] at hS)
              refine wl_op rfl rfl (ow_vr (vr_move (v := .tuple _) rfl) ?_)
              refine wl_op rfl rfl (ow_vr (vr_extract (v := vQ) rfl rfl) ?_)
              refine wl_op rfl rfl (ow_vr (vr_extract (v := .int .i64 _) rfl rfl) ?_)
              refine wl_op rfl rfl (ow_vr (vr_assign (v := vQ) rfl) ?_)
              refine wl_op rfl rfl (ow_vr (vr_assign (v := .int .i64 _) rfl) ?_)
              refine wl_nil ?_
              refine hK19 _ _ ?_
              refine cw_seq fun K20 hK20 => ?_
              obtain ⟨G, hG⟩ : ∃ G, (if (groupL lsn ep l).all rightE then groupL lsn ep l else []) = G := ⟨_, rfl⟩
              rw [hG] at hoG hoH
              have hGl : G.length ≤ 41 := by rw [← hG]; split; omega; simp
              obtain ⟨C, hC⟩ : ∃ C, (changesE es).1 = C := ⟨_, rfl⟩
              rw [hC] at hoP hoQ
              have hCl : C.length ≤ 60 := by rw [← hC, changesE]; simp at hcl; omega
              replace hS := hS.kept0
              refine cw_forget (F := fun g => (upd (upd (upd (upd (upd (upd (upd (upd (upd (upd (upd (upd (upd g 4 (vl)) 5 (vm)) 21 (v121)) 22 (v123)) 23 (.pointer (some ⟨b125, 0, none⟩))) 24 (vG)) 25 (.bool ((groupL lsn ep l).all rightE))) 26 (vH)) 27 (.bool ((groupL lsn ep l).all rightE))) 28 (vP)) 29 (.int .i64 (changesE es).2)) 30 (vQ)) 31 (.int .i64 (changesE es).2))) (reb (reb (reb (reb (reb (reb (reb (reb (reb (reb (reb (reb (reb rfl rfl) rfl) rfl) rfl) rfl) rfl) rfl) rfl) rfl) rfl) rfl) rfl) rfl) ?_
              intro g
              refine cw_region ?_
              refine wl_op rfl rfl (ow_vr (vr_move (v := .pointer (some ⟨b125, 0, none⟩)) rfl) ?_)
              refine wl_op rfl rfl (ow_vr (vr_move (v := vG) rfl) ?_)
              refine wl_op rfl rfl (ow_fn (vs := [.pointer (some ⟨b125, 0, none⟩), vG]) en_18 rfl hS (book_addEntries Kept.none G vG DG hoG (by omega)) ?_)
              clear hS; rintro _ _ w ⟨vb1, vw1, I1, K1, rfl, hk1, hvg, _, hI1⟩ hS; (try simp only [List.cons_append, List.nil_append] at hS)
              refine wl_nil ?_
              refine hK20 _ _ ?_
              refine cw_seq fun K21 hK21 => ?_
              replace hS := hS.push
              refine cw_region ?_
              refine wl_op rfl rfl (ow_vr (vr_move (v := .pointer (some ⟨b125, 0, none⟩)) rfl) ?_)
              refine wl_op rfl rfl (ow_vr (vr_move (v := vP) rfl) ?_)
              refine wl_op rfl rfl (ow_fn (vs := [.pointer (some ⟨b125, 0, none⟩), vP]) en_19 rfl hS (book_addChanges Kept.none C vP DP hoP (by omega)) ?_)
              clear hS; rintro _ _ w ⟨vb2, vw2, I2, K2, rfl, hk2, hvp, _, hI2⟩ hS; (try simp only [List.cons_append, List.nil_append] at hS)
              refine wl_nil ?_
              refine hK21 _ _ ?_
              refine cw_seq fun K22 hK22 => ?_
              refine cw_forget (F := fun g => (upd (upd (upd (upd (upd (upd (upd (upd (upd (upd (upd (upd (upd g 4 (vl)) 5 (vm)) 21 (v121)) 22 (v123)) 23 (.pointer (some ⟨b125, 0, none⟩))) 24 (vG)) 25 (.bool ((groupL lsn ep l).all rightE))) 26 (vH)) 27 (.bool ((groupL lsn ep l).all rightE))) 28 (vP)) 29 (.int .i64 (changesE es).2)) 30 (vQ)) 31 (.int .i64 (changesE es).2))) (reb (reb (reb (reb (reb (reb (reb (reb (reb (reb (reb (reb (reb rfl rfl) rfl) rfl) rfl) rfl) rfl) rfl) rfl) rfl) rfl) rfl) rfl) rfl) ?_
              intro g
              refine cw_region ?_
              refine wl_op rfl rfl (ow_vr (vr_move (v := v123) rfl) ?_)
              refine wl_op rfl rfl (ow_fng (vs := [v123]) en_16 rfl hS (entry_Changes es v123 D123 hve (by omega)) (by repeat (first | exact needs0 | (refine needsC ?_ ?_; · (repeat (first | exact List.mem_cons_self | assumption | refine List.mem_cons_of_mem _ ?_))))) ?_)
              clear hS; rintro v158 _ w ⟨vR, DR, rfl, rfl, hoR⟩ hS; (try simp only [List.cons_append, List.nil_append] at hS)
              refine wl_op rfl rfl (ow_vr (vr_move (v := .tuple _) rfl) ?_)
              refine wl_op rfl rfl (ow_vr (vr_extract (v := vR) rfl rfl) ?_)
              refine wl_op rfl rfl (ow_vr (vr_extract (v := .int .i64 _) rfl rfl) ?_)
              refine wl_op rfl rfl (ow_vr (vr_assign (v := vR) rfl) ?_)
              refine wl_op rfl rfl (ow_vr (vr_assign (v := .int .i64 _) rfl) ?_)
              refine wl_nil ?_
              refine hK22 _ _ ?_
              refine cw_seq fun K23 hK23 => ?_
              rw [hC] at hoR
              replace hS := hS.rot2
              refine cw_region ?_
              refine wl_op rfl rfl (ow_vr (vr_move (v := .pointer (some ⟨b125, 0, none⟩)) rfl) ?_)
              refine wl_op rfl rfl (ow_vr (vr_move (v := vR) rfl) ?_)
              refine wl_op rfl rfl (ow_fn (vs := [.pointer (some ⟨b125, 0, none⟩), vR]) en_19 rfl hS (book_addChanges hk2 C vR DR hoR (by omega)) ?_)
              clear hS; rintro _ _ w ⟨vb3, vw3, I3, K3, rfl, hk3, _, hsub, hI3⟩ hS; (try simp only [List.cons_append, List.nil_append] at hS)
              refine wl_nil ?_
              refine hK23 _ _ ?_
              refine cw_seq fun K24 hK24 => ?_
              replace hS := hS.nil2
              have hvG := hvg.mono hI1
              have hvP := hvp.mono fun u hu => hI3 u (hsub u hu)
              refine cw_forget (F := fun g => (upd (upd (upd (upd (upd (upd (upd (upd (upd (upd (upd (upd (upd g 4 (vl)) 5 (vm)) 21 (v121)) 22 (v123)) 23 (.pointer (some ⟨b125, 0, none⟩))) 24 (vG)) 25 (.bool ((groupL lsn ep l).all rightE))) 26 (vH)) 27 (.bool ((groupL lsn ep l).all rightE))) 28 (vP)) 29 (.int .i64 (changesE es).2)) 30 (vQ)) 31 (.int .i64 (changesE es).2))) (reb (reb (reb (reb (reb (reb (reb (reb (reb (reb (reb (reb (reb rfl rfl) rfl) rfl) rfl) rfl) rfl) rfl) rfl) rfl) rfl) rfl) rfl) rfl) ?_
              intro g
              refine cw_region ?_
              refine wl_op rfl rfl (ow_vr (vr_move (v := .bool ((groupL lsn ep l).all rightE)) rfl) ?_)
              refine wl_op rfl rfl (ow_vr (vr_move (v := .bool ((groupL lsn ep l).all rightE)) rfl) ?_)
              refine wl_op rfl rfl (ow_vr (vr_eqlb Try.underlying4 rfl rfl) ?_)
              refine wl_op rfl rfl (ow_vr (vr_move (v := .bool _) rfl) ?_)
              refine wl_known 167 rfl (c := true) (by simp) ?_
              refine wl_yes rfl rfl rfl rfl rfl (ow_vr (vr_move (v := vG) rfl) ?_)
              refine wl_yes rfl rfl rfl rfl rfl (ow_vr (vr_move (v := vH) rfl) ?_)
              refine wl_yes rfl rfl rfl rfl rfl (ow_fng (vs := [vG, vH]) en_20 rfl hS (book_SameEntries G G vG vH K1 DH hvG (hoH.view (by exact fun _ => rfl)) (by omega) (by omega)) (by repeat (first | exact needs0 | (refine needsC ?_ ?_; · (repeat (first | exact List.mem_cons_self | assumption | refine List.mem_cons_of_mem _ ?_))))) ?_)
              clear hS; rintro v170 _ w ⟨rfl, rfl⟩ hS; (try simp only [List.cons_append, List.nil_append] at hS)
              refine wl_op rfl rfl (ow_vr (vr_pick (b := true) (v := .bool _) rfl rfl) ?_)
              refine wl_op rfl rfl (ow_vr (vr_move (v := .bool _) rfl) ?_)
              refine wl_known 172 rfl (c := true) (by simp) ?_
              refine wl_yes rfl rfl rfl rfl rfl (ow_vr (vr_move (v := vP) rfl) ?_)
              refine wl_yes rfl rfl rfl rfl rfl (ow_vr (vr_move (v := vQ) rfl) ?_)
              refine wl_yes rfl rfl rfl rfl rfl (ow_fng (vs := [vP, vQ]) en_21 rfl hS (book_SameChanges C C vP vQ K3 DQ hvP (hoQ.view (by exact fun _ => rfl)) (by omega) (by omega)) (by repeat (first | exact needs0 | (refine needsC ?_ ?_; · (repeat (first | exact List.mem_cons_self | assumption | refine List.mem_cons_of_mem _ ?_))))) ?_)
              clear hS; rintro v175 _ w ⟨rfl, rfl⟩ hS; (try simp only [List.cons_append, List.nil_append] at hS)
              refine wl_op rfl rfl (ow_vr (vr_pick (b := true) (v := .bool _) rfl rfl) ?_)
              refine wl_op rfl rfl (ow_vr (vr_move (v := .bool _) rfl) ?_)
              refine wl_known 177 rfl (c := true) (by simp) ?_
              refine wl_yes rfl rfl rfl rfl rfl (ow_vr (vr_move (v := .int .i64 (changesE es).2) rfl) ?_)
              refine wl_yes rfl rfl rfl rfl rfl (ow_vr (vr_move (v := .int .i64 (changesE es).2) rfl) ?_)
              refine wl_yes rfl rfl rfl rfl rfl (ow_vr (vr_eql rfl rfl) ?_)
              refine wl_op rfl rfl (ow_vr (vr_pick (b := true) (v := .bool _) rfl rfl) ?_)
              refine wl_op rfl rfl (ow_vr (vr_move (v := .bool _) rfl) ?_)
              refine wl_known 182 rfl (c := true) (by simp) ?_
              refine wl_yes rfl rfl rfl rfl rfl (ow_vr (vr_move (v := v121) rfl) ?_)
              refine wl_yes rfl rfl rfl rfl rfl (ow_vr (vr_move (v := vl) rfl) ?_)
              refine wl_yes rfl rfl rfl rfl rfl (ow_fng (vs := [v121, vl]) en_22 rfl hS (book_StaysChanges l l v121 vl D121 Δl hlc hvl (by omega) (by omega)) (by repeat (first | exact needs0 | (refine needsC ?_ ?_; · (repeat (first | exact List.mem_cons_self | assumption | refine List.mem_cons_of_mem _ ?_))))) ?_)
              clear hS; rintro v185 _ w ⟨rfl, rfl⟩ hS; (try simp only [List.cons_append, List.nil_append] at hS)
              refine wl_op rfl rfl (ow_vr (vr_pick (b := true) (v := .bool _) rfl rfl) ?_)
              refine wl_op rfl rfl (ow_vr (vr_move (v := .bool _) rfl) ?_)
              refine wl_known 187 rfl (c := true) (by simp) ?_
              refine wl_yes rfl rfl rfl rfl rfl (ow_vr (vr_move (v := v123) rfl) ?_)
              refine wl_yes rfl rfl rfl rfl rfl (ow_vr (vr_move (v := vm) rfl) ?_)
              refine wl_yes rfl rfl rfl rfl rfl (ow_fng (vs := [v123, vm]) en_23 rfl hS (book_StaysEntries es es v123 vm D123 Δm hle hvm (by omega) (by omega)) (by repeat (first | exact needs0 | (refine needsC ?_ ?_; · (repeat (first | exact List.mem_cons_self | assumption | refine List.mem_cons_of_mem _ ?_))))) ?_)
              clear hS; rintro v190 _ w ⟨rfl, rfl⟩ hS; (try simp only [List.cons_append, List.nil_append] at hS)
              refine wl_op rfl rfl (ow_vr (vr_pick (b := true) (v := .bool _) rfl rfl) ?_)
              refine wl_op rfl rfl (ow_vr (vr_move (v := .bool _) rfl) ?_)
              refine wl_known 192 rfl (c := true) (by simp) ?_
              refine wl_yes rfl rfl rfl rfl rfl (ow_vr (vr_move (v := .pointer (some ⟨b125, 0, none⟩)) rfl) ?_)
              refine wl_yes rfl rfl rfl rfl rfl (ow_fn (vs := [.pointer (some ⟨b125, 0, none⟩)]) en_24 rfl hS (book_Apart Kept.none Kept.none hk3 hk1) ?_)
              clear hS; rintro _ _ w rfl hS; (try simp only [List.cons_append, List.nil_append] at hS)
              refine wl_op rfl rfl (ow_vr (vr_pick (b := true) (v := .bool _) rfl rfl) ?_)
              refine wl_op rfl rfl (ow_vr (vr_assign (v := .bool _) rfl) ?_)
              refine wl_nil ?_
              refine hK24 _ _ ?_
              refine cw_ret ?_
              refine ret_one (fn := Try.f3) (n := 196) (t := 12) (.inl rfl) rfl rfl ?_
              exact ⟨[], ⟨rfl, rfl⟩, hS.dropL.tail1.tail1.tail1.tail1⟩
            refine cw_seq fun K25 hK25 => ?_
            refine cw_forget (F := fun g => (upd (upd (upd (upd (upd (upd (upd (upd (upd (upd (upd (upd g 2 (.int .i64 lsn)) 3 (.int .i64 ep)) 4 (vl)) 5 (vm)) 6 (.pointer (some ⟨b6, 0, none⟩))) 14 (.bool (rightE e))) 15 (.pointer (some ⟨b15, 0, none⟩))) 16 (.bool (getOkE b))) 17 (.pointer (some ⟨b17, 0, none⟩))) 18 (.bool (getOkE raw))) 19 (.pointer (some ⟨b19, 0, none⟩))) 20 (.bool (getOkE raw)))) (reb (reb (reb (reb (reb (reb (reb (reb (reb (reb (reb (reb rfl rfl) rfl) rfl) rfl) rfl) rfl) rfl) rfl) rfl) rfl) rfl) rfl) ?_
            intro g
            refine cw_region ?_
            refine wl_op rfl rfl (ow_vr (vr_move (v := .bool (getOkE b)) rfl) ?_)
            refine wl_op rfl rfl (ow_vr (vr_move (v := .bool (rightE e)) rfl) ?_)
            refine wl_op rfl rfl (ow_vr (vr_neqb Try.underlying4 rfl rfl) ?_)
            refine wl_op rfl rfl (ow_vr (vr_move (v := .bool _) rfl) ?_)
            refine wl_known 102 rfl (c := false) (by rw [hgb]; simp) ?_
            refine wl_yes rfl rfl rfl rfl rfl (ow_vr (vr_move (v := .bool (getOkE b)) rfl) ?_)
            refine wl_yes rfl rfl rfl rfl rfl (ow_vr (vr_move (v := .bool (getOkE b)) rfl) ?_)
            refine wl_split 104 rfl (fun hc => ?_) (fun hc => ?_)
            · (try simp only [decide_eq_true_eq, decide_eq_false_iff_not, Bool.not_eq_true, Bool.not_eq_false, Bool.not_eq_true', Bool.not_eq_false', Bool.and_eq_true, Bool.or_eq_true, Bool.and_eq_false_iff, Bool.or_eq_false_iff, Int.not_lt, Int.not_le, gt_iff_lt, ge_iff_le, ne_eq, Decidable.not_not, beq_iff_eq] at hc)
              have hr3 := hc; clear hc
              first | (refine wl_yes rfl rfl rfl rfl rfl (ow_lr (S := Sat _ _) (lr_loadA (vs := [.int .i64 _, .int .i64 _, .int .i64 _, .int .i64 _, .int .i64 _]) Try.underlying23 rfl sz_23 rfl (by first | exact Has.here | exact Has.there (Has.here) | exact Has.there (Has.there (Has.here)) | exact Has.there (Has.there (Has.there (Has.here))) | exact Has.there (Has.there (Has.there (Has.there (Has.here)))) | exact Has.there (Has.there (Has.there (Has.there (Has.there (Has.here))))) | exact Has.there (Has.there (Has.there (Has.there (Has.there (Has.there (Has.here)))))) | exact Has.there (Has.there (Has.there (Has.there (Has.there (Has.there (Has.there (Has.here)))))))) rfl rfl) hS ?_)) | (refine wl_yes rfl rfl rfl rfl rfl (ow_lr (S := Sat _ _) (lr_loadA (vs := [_, _, _, _, _]) Try.underlying23 rfl sz_23 rfl (by first | exact Has.here | exact Has.there (Has.here) | exact Has.there (Has.there (Has.here)) | exact Has.there (Has.there (Has.there (Has.here))) | exact Has.there (Has.there (Has.there (Has.there (Has.here)))) | exact Has.there (Has.there (Has.there (Has.there (Has.there (Has.here))))) | exact Has.there (Has.there (Has.there (Has.there (Has.there (Has.there (Has.here)))))) | exact Has.there (Has.there (Has.there (Has.there (Has.there (Has.there (Has.there (Has.here)))))))) rfl rfl) hS ?_))
              first | (refine wl_yes rfl rfl rfl rfl rfl (ow_lr (S := Sat _ _) (lr_loadA (vs := [.int .i64 _, .int .i64 _, .int .i64 _, .int .i64 _, .int .i64 _]) Try.underlying23 rfl sz_23 rfl (by first | exact Has.here | exact Has.there (Has.here) | exact Has.there (Has.there (Has.here)) | exact Has.there (Has.there (Has.there (Has.here))) | exact Has.there (Has.there (Has.there (Has.there (Has.here)))) | exact Has.there (Has.there (Has.there (Has.there (Has.there (Has.here))))) | exact Has.there (Has.there (Has.there (Has.there (Has.there (Has.there (Has.here)))))) | exact Has.there (Has.there (Has.there (Has.there (Has.there (Has.there (Has.there (Has.here)))))))) rfl rfl) hS ?_)) | (refine wl_yes rfl rfl rfl rfl rfl (ow_lr (S := Sat _ _) (lr_loadA (vs := [_, _, _, _, _]) Try.underlying23 rfl sz_23 rfl (by first | exact Has.here | exact Has.there (Has.here) | exact Has.there (Has.there (Has.here)) | exact Has.there (Has.there (Has.there (Has.here))) | exact Has.there (Has.there (Has.there (Has.there (Has.here)))) | exact Has.there (Has.there (Has.there (Has.there (Has.there (Has.here))))) | exact Has.there (Has.there (Has.there (Has.there (Has.there (Has.there (Has.here)))))) | exact Has.there (Has.there (Has.there (Has.there (Has.there (Has.there (Has.there (Has.here)))))))) rfl rfl) hS ?_))
              refine wl_yes rfl rfl rfl rfl rfl (ow_vr (vr_neq_st eg_23 rfl rfl (eq_23 _ _ _ _ _ _ _ _ _ _)) ?_)
              refine wl_yes rfl rfl rfl rfl rfl (ow_vr (vr_pick (b := true) (v := .bool _) rfl rfl) ?_)
              refine wl_op rfl rfl (ow_vr (vr_pick (b := false) (v := .bool _) rfl rfl) ?_)
              refine wl_op rfl rfl (ow_vr (vr_move (v := .bool _) rfl) ?_)
              refine wl_known 110 rfl (c := false) (by first | rfl | (rw [(hge (by rw [← hgb]; exact hr3)).1]; simp)) ?_
              first | (refine wl_yes rfl rfl rfl rfl rfl (ow_lr (S := Sat _ _) (lr_loadA (vs := [.int .i64 _, .int .i64 _, .int .i64 _, .int .i64 _, .int .i64 _]) Try.underlying23 rfl sz_23 rfl (by first | exact Has.here | exact Has.there (Has.here) | exact Has.there (Has.there (Has.here)) | exact Has.there (Has.there (Has.there (Has.here))) | exact Has.there (Has.there (Has.there (Has.there (Has.here)))) | exact Has.there (Has.there (Has.there (Has.there (Has.there (Has.here))))) | exact Has.there (Has.there (Has.there (Has.there (Has.there (Has.there (Has.here)))))) | exact Has.there (Has.there (Has.there (Has.there (Has.there (Has.there (Has.there (Has.here)))))))) rfl rfl) hS ?_)) | (refine wl_yes rfl rfl rfl rfl rfl (ow_lr (S := Sat _ _) (lr_loadA (vs := [_, _, _, _, _]) Try.underlying23 rfl sz_23 rfl (by first | exact Has.here | exact Has.there (Has.here) | exact Has.there (Has.there (Has.here)) | exact Has.there (Has.there (Has.there (Has.here))) | exact Has.there (Has.there (Has.there (Has.there (Has.here)))) | exact Has.there (Has.there (Has.there (Has.there (Has.there (Has.here))))) | exact Has.there (Has.there (Has.there (Has.there (Has.there (Has.there (Has.here)))))) | exact Has.there (Has.there (Has.there (Has.there (Has.there (Has.there (Has.there (Has.here)))))))) rfl rfl) hS ?_))
              first | (refine wl_yes rfl rfl rfl rfl rfl (ow_lr (S := Sat _ _) (lr_loadA (vs := [.int .i64 _, .int .i64 _, .int .i64 _, .int .i64 _, .int .i64 _]) Try.underlying23 rfl sz_23 rfl (by first | exact Has.here | exact Has.there (Has.here) | exact Has.there (Has.there (Has.here)) | exact Has.there (Has.there (Has.there (Has.here))) | exact Has.there (Has.there (Has.there (Has.there (Has.here)))) | exact Has.there (Has.there (Has.there (Has.there (Has.there (Has.here))))) | exact Has.there (Has.there (Has.there (Has.there (Has.there (Has.there (Has.here)))))) | exact Has.there (Has.there (Has.there (Has.there (Has.there (Has.there (Has.there (Has.here)))))))) rfl rfl) hS ?_)) | (refine wl_yes rfl rfl rfl rfl rfl (ow_lr (S := Sat _ _) (lr_loadA (vs := [_, _, _, _, _]) Try.underlying23 rfl sz_23 rfl (by first | exact Has.here | exact Has.there (Has.here) | exact Has.there (Has.there (Has.here)) | exact Has.there (Has.there (Has.there (Has.here))) | exact Has.there (Has.there (Has.there (Has.there (Has.here)))) | exact Has.there (Has.there (Has.there (Has.there (Has.there (Has.here))))) | exact Has.there (Has.there (Has.there (Has.there (Has.there (Has.there (Has.here)))))) | exact Has.there (Has.there (Has.there (Has.there (Has.there (Has.there (Has.there (Has.here)))))))) rfl rfl) hS ?_))
              refine wl_yes rfl rfl rfl rfl rfl (ow_vr (vr_neq_st eg_23 rfl rfl (eq_23 _ _ _ _ _ _ _ _ _ _)) ?_)
              refine wl_op rfl rfl (ow_vr (vr_pick (b := false) (v := .bool _) rfl rfl) ?_)
              refine wl_op rfl rfl (ow_vr (vr_move (v := .bool _) rfl) ?_)
              refine wl_known 115 rfl (c := false) (by simp) ?_
              refine wl_yes rfl rfl rfl rfl rfl (ow_vr (vr_move (v := .bool (getOkE raw)) rfl) ?_)
              refine wl_yes rfl rfl rfl rfl rfl (ow_vr (vr_move (v := .bool (getOkE raw)) rfl) ?_)
              refine wl_yes rfl rfl rfl rfl rfl (ow_vr (vr_neqb Try.underlying4 rfl rfl) ?_)
              refine wl_op rfl rfl (ow_vr (vr_pick (b := false) (v := .bool _) rfl rfl) ?_)
              refine wl_nil ?_
              refine hK25 _ _ ?_
              refine cw_cond_f rfl rfl (by simp) ?_
              refine cw_skip ?_
              refine hJK13 _ _ ⟨_, (reb (reb (reb (reb rfl rfl) rfl) rfl) rfl), ?_, hS⟩
              trivial
            · (try simp only [decide_eq_true_eq, decide_eq_false_iff_not, Bool.not_eq_true, Bool.not_eq_false, Bool.not_eq_true', Bool.not_eq_false', Bool.and_eq_true, Bool.or_eq_true, Bool.and_eq_false_iff, Bool.or_eq_false_iff, Int.not_lt, Int.not_le, gt_iff_lt, ge_iff_le, ne_eq, Decidable.not_not, beq_iff_eq] at hc)
              have hr3 := hc; clear hc
              refine wl_noD rfl rfl rfl rfl rfl rfl ?_
              refine wl_noD rfl rfl rfl rfl rfl rfl ?_
              refine wl_noD rfl rfl rfl rfl rfl rfl ?_
              refine wl_yes rfl rfl rfl rfl rfl (ow_vr (vr_pick (b := false) (v := .bool _) rfl rfl) ?_)
              refine wl_op rfl rfl (ow_vr (vr_pick (b := false) (v := .bool _) rfl rfl) ?_)
              refine wl_op rfl rfl (ow_vr (vr_move (v := .bool _) rfl) ?_)
              first | (refine wl_yes rfl rfl rfl rfl rfl (ow_lr (S := Sat _ _) (lr_loadA (vs := [.int .i64 _, .int .i64 _, .int .i64 _, .int .i64 _, .int .i64 _]) Try.underlying23 rfl sz_23 rfl (by first | exact Has.here | exact Has.there (Has.here) | exact Has.there (Has.there (Has.here)) | exact Has.there (Has.there (Has.there (Has.here))) | exact Has.there (Has.there (Has.there (Has.there (Has.here)))) | exact Has.there (Has.there (Has.there (Has.there (Has.there (Has.here))))) | exact Has.there (Has.there (Has.there (Has.there (Has.there (Has.there (Has.here)))))) | exact Has.there (Has.there (Has.there (Has.there (Has.there (Has.there (Has.there (Has.here)))))))) rfl rfl) hS ?_)) | (refine wl_yes rfl rfl rfl rfl rfl (ow_lr (S := Sat _ _) (lr_loadA (vs := [_, _, _, _, _]) Try.underlying23 rfl sz_23 rfl (by first | exact Has.here | exact Has.there (Has.here) | exact Has.there (Has.there (Has.here)) | exact Has.there (Has.there (Has.there (Has.here))) | exact Has.there (Has.there (Has.there (Has.there (Has.here)))) | exact Has.there (Has.there (Has.there (Has.there (Has.there (Has.here))))) | exact Has.there (Has.there (Has.there (Has.there (Has.there (Has.there (Has.here)))))) | exact Has.there (Has.there (Has.there (Has.there (Has.there (Has.there (Has.there (Has.here)))))))) rfl rfl) hS ?_))
              first | (refine wl_yes rfl rfl rfl rfl rfl (ow_lr (S := Sat _ _) (lr_loadA (vs := [.int .i64 _, .int .i64 _, .int .i64 _, .int .i64 _, .int .i64 _]) Try.underlying23 rfl sz_23 rfl (by first | exact Has.here | exact Has.there (Has.here) | exact Has.there (Has.there (Has.here)) | exact Has.there (Has.there (Has.there (Has.here))) | exact Has.there (Has.there (Has.there (Has.there (Has.here)))) | exact Has.there (Has.there (Has.there (Has.there (Has.there (Has.here))))) | exact Has.there (Has.there (Has.there (Has.there (Has.there (Has.there (Has.here)))))) | exact Has.there (Has.there (Has.there (Has.there (Has.there (Has.there (Has.there (Has.here)))))))) rfl rfl) hS ?_)) | (refine wl_yes rfl rfl rfl rfl rfl (ow_lr (S := Sat _ _) (lr_loadA (vs := [_, _, _, _, _]) Try.underlying23 rfl sz_23 rfl (by first | exact Has.here | exact Has.there (Has.here) | exact Has.there (Has.there (Has.here)) | exact Has.there (Has.there (Has.there (Has.here))) | exact Has.there (Has.there (Has.there (Has.there (Has.here)))) | exact Has.there (Has.there (Has.there (Has.there (Has.there (Has.here))))) | exact Has.there (Has.there (Has.there (Has.there (Has.there (Has.there (Has.here)))))) | exact Has.there (Has.there (Has.there (Has.there (Has.there (Has.there (Has.there (Has.here)))))))) rfl rfl) hS ?_))
              refine wl_yes rfl rfl rfl rfl rfl (ow_vr (vr_neq_st eg_23 rfl rfl (eq_23 _ _ _ _ _ _ _ _ _ _)) ?_)
              refine wl_op rfl rfl (ow_vr (vr_pick (b := false) (v := .bool _) rfl rfl) ?_)
              refine wl_op rfl rfl (ow_vr (vr_move (v := .bool _) rfl) ?_)
              refine wl_known 115 rfl (c := false) (by simp) ?_
              refine wl_yes rfl rfl rfl rfl rfl (ow_vr (vr_move (v := .bool (getOkE raw)) rfl) ?_)
              refine wl_yes rfl rfl rfl rfl rfl (ow_vr (vr_move (v := .bool (getOkE raw)) rfl) ?_)
              refine wl_yes rfl rfl rfl rfl rfl (ow_vr (vr_neqb Try.underlying4 rfl rfl) ?_)
              refine wl_op rfl rfl (ow_vr (vr_pick (b := false) (v := .bool _) rfl rfl) ?_)
              refine wl_nil ?_
              refine hK25 _ _ ?_
              refine cw_cond_f rfl rfl (by simp) ?_
              refine cw_skip ?_
              refine hJK13 _ _ ⟨_, (reb (reb (reb (reb rfl rfl) rfl) rfl) rfl), ?_, hS⟩
              trivial
          refine cw_seq fun K26 hK26 => ?_
          refine cw_region ?_
          refine wl_op rfl rfl (ow_vr (vr_move (v := .bool _) rfl) ?_)
          first | (refine wl_op rfl rfl (ow_lr (S := Sat _ _) (lr_loadA (vs := [.int .i64 _, .int .i64 _, .int .i64 _, .int .i64 _, .int .i64 _]) Try.underlying23 rfl sz_23 rfl (by first | exact Has.here | exact Has.there (Has.here) | exact Has.there (Has.there (Has.here)) | exact Has.there (Has.there (Has.there (Has.here))) | exact Has.there (Has.there (Has.there (Has.there (Has.here)))) | exact Has.there (Has.there (Has.there (Has.there (Has.there (Has.here))))) | exact Has.there (Has.there (Has.there (Has.there (Has.there (Has.there (Has.here)))))) | exact Has.there (Has.there (Has.there (Has.there (Has.there (Has.there (Has.there (Has.here)))))))) rfl rfl) hS ?_)) | (refine wl_op rfl rfl (ow_lr (S := Sat _ _) (lr_loadA (vs := [_, _, _, _, _]) Try.underlying23 rfl sz_23 rfl (by first | exact Has.here | exact Has.there (Has.here) | exact Has.there (Has.there (Has.here)) | exact Has.there (Has.there (Has.there (Has.here))) | exact Has.there (Has.there (Has.there (Has.there (Has.here)))) | exact Has.there (Has.there (Has.there (Has.there (Has.there (Has.here))))) | exact Has.there (Has.there (Has.there (Has.there (Has.there (Has.there (Has.here)))))) | exact Has.there (Has.there (Has.there (Has.there (Has.there (Has.there (Has.there (Has.here)))))))) rfl rfl) hS ?_))
          refine wl_op rfl rfl (ow_fn (vs := [.agg _]) en_7 rfl hS (ref_Entry e) ?_)
          clear hS; rintro _ _ w ⟨rfl, rfl⟩ hS; (try simp only [List.cons_append, List.nil_append] at hS)
          refine wl_op rfl rfl (ow_vr (vr_neqb Try.underlying4 rfl rfl) ?_)
          refine wl_op rfl rfl (ow_vr (vr_move (v := .bool _) rfl) ?_)
          refine wl_known 61 rfl (c := false) (by simp) ?_
          first | (refine wl_yes rfl rfl rfl rfl rfl (ow_lr (S := Sat _ _) (lr_loadA (vs := [.int .i64 _, .int .i64 _, .int .i64 _, .int .i64 _, .int .i64 _]) Try.underlying23 rfl sz_23 rfl (by first | exact Has.here | exact Has.there (Has.here) | exact Has.there (Has.there (Has.here)) | exact Has.there (Has.there (Has.there (Has.here))) | exact Has.there (Has.there (Has.there (Has.there (Has.here)))) | exact Has.there (Has.there (Has.there (Has.there (Has.there (Has.here))))) | exact Has.there (Has.there (Has.there (Has.there (Has.there (Has.there (Has.here)))))) | exact Has.there (Has.there (Has.there (Has.there (Has.there (Has.there (Has.there (Has.here)))))))) rfl rfl) hS ?_)) | (refine wl_yes rfl rfl rfl rfl rfl (ow_lr (S := Sat _ _) (lr_loadA (vs := [_, _, _, _, _]) Try.underlying23 rfl sz_23 rfl (by first | exact Has.here | exact Has.there (Has.here) | exact Has.there (Has.there (Has.here)) | exact Has.there (Has.there (Has.there (Has.here))) | exact Has.there (Has.there (Has.there (Has.there (Has.here)))) | exact Has.there (Has.there (Has.there (Has.there (Has.there (Has.here))))) | exact Has.there (Has.there (Has.there (Has.there (Has.there (Has.there (Has.here)))))) | exact Has.there (Has.there (Has.there (Has.there (Has.there (Has.there (Has.there (Has.here)))))))) rfl rfl) hS ?_))
          refine wl_yes rfl rfl rfl rfl rfl (ow_fn (vs := [.agg _]) en_8 rfl hS (entry_Right e.kind e.lsn e.epoch e.cell e.value) ?_)
          clear hS; rintro _ _ w ⟨rfl, rfl⟩ hS; (try simp only [List.cons_append, List.nil_append] at hS)
          refine wl_yes rfl rfl rfl rfl rfl (ow_vr (vr_move (v := .bool _) rfl) ?_)
          refine wl_yes rfl rfl rfl rfl rfl (ow_vr (vr_neqb Try.underlying4 rfl rfl) ?_)
          refine wl_op rfl rfl (ow_vr (vr_pick (b := false) (v := .bool _) rfl rfl) ?_)
          refine wl_op rfl rfl (ow_vr (vr_move (v := .bool _) rfl) ?_)
          refine wl_known 67 rfl (c := false) (by simp) ?_
          refine wl_yes rfl rfl rfl rfl rfl (ow_vr (vr_move (v := .bool _) rfl) ?_)
          refine wl_yes rfl rfl rfl rfl rfl (ow_vr (vr_move (v := .bool _) rfl) ?_)
          refine wl_split 69 rfl (fun hc => ?_) (fun hc => ?_)
          · (try simp only [decide_eq_true_eq, decide_eq_false_iff_not, Bool.not_eq_true, Bool.not_eq_false, Bool.not_eq_true', Bool.not_eq_false', Bool.and_eq_true, Bool.or_eq_true, Bool.and_eq_false_iff, Bool.or_eq_false_iff, Int.not_lt, Int.not_le, gt_iff_lt, ge_iff_le, ne_eq, Decidable.not_not, beq_iff_eq] at hc)
            have hr := hc; clear hc
            refine wl_yes rfl rfl rfl rfl rfl (ow_vr (vr_move (v := str _) rfl) ?_)
            first | (refine wl_yes rfl rfl rfl rfl rfl (ow_lr (S := Sat _ _) (lr_loadA (vs := [.int .i64 _, .int .i64 _, .int .i64 _, .int .i64 _, .int .i64 _]) Try.underlying23 rfl sz_23 rfl (by first | exact Has.here | exact Has.there (Has.here) | exact Has.there (Has.there (Has.here)) | exact Has.there (Has.there (Has.there (Has.here))) | exact Has.there (Has.there (Has.there (Has.there (Has.here)))) | exact Has.there (Has.there (Has.there (Has.there (Has.there (Has.here))))) | exact Has.there (Has.there (Has.there (Has.there (Has.there (Has.there (Has.here)))))) | exact Has.there (Has.there (Has.there (Has.there (Has.there (Has.there (Has.there (Has.here)))))))) rfl rfl) hS ?_)) | (refine wl_yes rfl rfl rfl rfl rfl (ow_lr (S := Sat _ _) (lr_loadA (vs := [_, _, _, _, _]) Try.underlying23 rfl sz_23 rfl (by first | exact Has.here | exact Has.there (Has.here) | exact Has.there (Has.there (Has.here)) | exact Has.there (Has.there (Has.there (Has.here))) | exact Has.there (Has.there (Has.there (Has.there (Has.here)))) | exact Has.there (Has.there (Has.there (Has.there (Has.there (Has.here))))) | exact Has.there (Has.there (Has.there (Has.there (Has.there (Has.there (Has.here)))))) | exact Has.there (Has.there (Has.there (Has.there (Has.there (Has.there (Has.there (Has.here)))))))) rfl rfl) hS ?_))
            refine wl_yes rfl rfl rfl rfl rfl (ow_fn (vs := [.agg _]) en_9 rfl hS (ref_Laid e) ?_)
            clear hS; rintro _ _ w ⟨rfl, rfl⟩ hS; (try simp only [List.cons_append, List.nil_append] at hS)
            refine wl_yes rfl rfl rfl rfl rfl (ow_vr (vr_neq_s rfl rfl) ?_)
            refine wl_yes rfl rfl rfl rfl rfl (ow_vr (vr_pick (b := true) (v := .bool _) rfl rfl) ?_)
            refine wl_op rfl rfl (ow_vr (vr_pick (b := false) (v := .bool _) rfl rfl) ?_)
            refine wl_op rfl rfl (ow_vr (vr_move (v := .bool _) rfl) ?_)
            refine wl_known 76 rfl (c := false) (by first | rfl | (rw [(hge hr).2]; simp)) ?_
            refine wl_yes rfl rfl rfl rfl rfl (ow_vr (vr_move (v := .bool _) rfl) ?_)
            refine wl_yes rfl rfl rfl rfl rfl (ow_vr (vr_not rfl) ?_)
            refine wl_yes rfl rfl rfl rfl rfl (ow_vr (vr_move (v := .bool _) rfl) ?_)
            refine wl_split 79 rfl (fun hc => ?_) (fun hc => ?_)
            · (try simp only [decide_eq_true_eq, decide_eq_false_iff_not, Bool.not_eq_true, Bool.not_eq_false, Bool.not_eq_true', Bool.not_eq_false', Bool.and_eq_true, Bool.or_eq_true, Bool.and_eq_false_iff, Bool.or_eq_false_iff, Int.not_lt, Int.not_le, gt_iff_lt, ge_iff_le, ne_eq, Decidable.not_not, beq_iff_eq] at hc)
              have hr2 := hc; clear hc
              refine wl_yes rfl rfl rfl rfl rfl (ow_vr (vr_move (v := str _) rfl) ?_)
              refine wl_yes rfl rfl rfl rfl rfl (ow_vr (vr_neq_s rfl rfl) ?_)
              refine wl_yes rfl rfl rfl rfl rfl (ow_vr (vr_pick (b := true) (v := .bool _) rfl rfl) ?_)
              refine wl_op rfl rfl (ow_vr (vr_pick (b := false) (v := .bool _) rfl rfl) ?_)
              refine wl_nil ?_
              refine hK26 _ _ ?_
              refine cw_cond_f rfl rfl (by first | rfl | (simp_all)) ?_
              refine cw_skip ?_
              refine hJK9 _ _ ⟨_, (reb (reb (reb (reb (reb (reb (reb (reb rfl rfl) rfl) rfl) rfl) rfl) rfl) rfl) rfl), ?_, hS⟩
              exact ⟨by omega, by omega, by omega⟩
            · (try simp only [decide_eq_true_eq, decide_eq_false_iff_not, Bool.not_eq_true, Bool.not_eq_false, Bool.not_eq_true', Bool.not_eq_false', Bool.and_eq_true, Bool.or_eq_true, Bool.and_eq_false_iff, Bool.or_eq_false_iff, Int.not_lt, Int.not_le, gt_iff_lt, ge_iff_le, ne_eq, Decidable.not_not, beq_iff_eq] at hc)
              have hr2 := hc; clear hc
              refine wl_noD rfl rfl rfl rfl rfl rfl ?_
              refine wl_noD rfl rfl rfl rfl rfl rfl ?_
              refine wl_yes rfl rfl rfl rfl rfl (ow_vr (vr_pick (b := false) (v := .bool _) rfl rfl) ?_)
              refine wl_op rfl rfl (ow_vr (vr_pick (b := false) (v := .bool _) rfl rfl) ?_)
              refine wl_nil ?_
              refine hK26 _ _ ?_
              refine cw_cond_f rfl rfl (rfl) ?_
              refine cw_skip ?_
              refine hJK9 _ _ ⟨_, (reb (reb (reb (reb (reb (reb (reb (reb rfl rfl) rfl) rfl) rfl) rfl) rfl) rfl) rfl), ?_, hS⟩
              exact ⟨by omega, by omega, by omega⟩
          · (try simp only [decide_eq_true_eq, decide_eq_false_iff_not, Bool.not_eq_true, Bool.not_eq_false, Bool.not_eq_true', Bool.not_eq_false', Bool.and_eq_true, Bool.or_eq_true, Bool.and_eq_false_iff, Bool.or_eq_false_iff, Int.not_lt, Int.not_le, gt_iff_lt, ge_iff_le, ne_eq, Decidable.not_not, beq_iff_eq] at hc)
            have hr := hc; clear hc
            refine wl_noD rfl rfl rfl rfl rfl rfl ?_
            refine wl_noD rfl rfl rfl rfl rfl rfl ?_
            refine wl_noD rfl rfl rfl rfl rfl rfl ?_
            refine wl_noD rfl rfl rfl rfl rfl rfl ?_
            refine wl_yes rfl rfl rfl rfl rfl (ow_vr (vr_pick (b := false) (v := .bool _) rfl rfl) ?_)
            refine wl_op rfl rfl (ow_vr (vr_pick (b := false) (v := .bool _) rfl rfl) ?_)
            refine wl_op rfl rfl (ow_vr (vr_move (v := .bool _) rfl) ?_)
            refine wl_yes rfl rfl rfl rfl rfl (ow_vr (vr_move (v := .bool _) rfl) ?_)
            refine wl_yes rfl rfl rfl rfl rfl (ow_vr (vr_not rfl) ?_)
            refine wl_yes rfl rfl rfl rfl rfl (ow_vr (vr_move (v := .bool _) rfl) ?_)
            refine wl_split 79 rfl (fun hc => ?_) (fun hc => ?_)
            · (try simp only [decide_eq_true_eq, decide_eq_false_iff_not, Bool.not_eq_true, Bool.not_eq_false, Bool.not_eq_true', Bool.not_eq_false', Bool.and_eq_true, Bool.or_eq_true, Bool.and_eq_false_iff, Bool.or_eq_false_iff, Int.not_lt, Int.not_le, gt_iff_lt, ge_iff_le, ne_eq, Decidable.not_not, beq_iff_eq] at hc)
              have hr2 := hc; clear hc
              refine wl_yes rfl rfl rfl rfl rfl (ow_vr (vr_move (v := str _) rfl) ?_)
              refine wl_yes rfl rfl rfl rfl rfl (ow_vr (vr_neq_s rfl rfl) ?_)
              refine wl_yes rfl rfl rfl rfl rfl (ow_vr (vr_pick (b := true) (v := .bool _) rfl rfl) ?_)
              refine wl_op rfl rfl (ow_vr (vr_pick (b := false) (v := .bool _) rfl rfl) ?_)
              refine wl_nil ?_
              refine hK26 _ _ ?_
              refine cw_cond_f rfl rfl (by first | rfl | (simp_all)) ?_
              refine cw_skip ?_
              refine hJK9 _ _ ⟨_, (reb (reb (reb (reb (reb (reb (reb (reb rfl rfl) rfl) rfl) rfl) rfl) rfl) rfl) rfl), ?_, hS⟩
              exact ⟨by omega, by omega, by omega⟩
            · (try simp only [decide_eq_true_eq, decide_eq_false_iff_not, Bool.not_eq_true, Bool.not_eq_false, Bool.not_eq_true', Bool.not_eq_false', Bool.and_eq_true, Bool.or_eq_true, Bool.and_eq_false_iff, Bool.or_eq_false_iff, Int.not_lt, Int.not_le, gt_iff_lt, ge_iff_le, ne_eq, Decidable.not_not, beq_iff_eq] at hc)
              have hr2 := hc; clear hc
              refine wl_noD rfl rfl rfl rfl rfl rfl ?_
              refine wl_noD rfl rfl rfl rfl rfl rfl ?_
              refine wl_yes rfl rfl rfl rfl rfl (ow_vr (vr_pick (b := false) (v := .bool _) rfl rfl) ?_)
              refine wl_op rfl rfl (ow_vr (vr_pick (b := false) (v := .bool _) rfl rfl) ?_)
              refine wl_nil ?_
              refine hK26 _ _ ?_
              refine cw_cond_f rfl rfl (rfl) ?_
              refine cw_skip ?_
              refine hJK9 _ _ ⟨_, (reb (reb (reb (reb (reb (reb (reb (reb rfl rfl) rfl) rfl) rfl) rfl) rfl) rfl) rfl), ?_, hS⟩
              exact ⟨by omega, by omega, by omega⟩
end Go.Proofs.Ytjcagoighpmdkaa
