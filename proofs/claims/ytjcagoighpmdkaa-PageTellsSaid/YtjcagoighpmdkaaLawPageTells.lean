/- PageTells. -/
import Derived.Test.YtjcagoighpmdkaaLawPage3
import Derived.Test.YtjcagoighpmdkaaApart
import Derived.Test.YtjcagoighpmdkaaLent
import Derived.Test.YtjcagoighpmdkaaConv
namespace Go.Proofs.Ytjcagoighpmdkaa
open Go Go.RowKit
set_option linter.unusedVariables false
set_option linter.unusedSimpArgs false
theorem Sat.dropA {E w : World} {Δ L : List Chunk} (h : Sat E (Δ ++ L) w) : Sat E L w := h.sub (by rw [List.flatten_append]; exact List.sublist_append_right _ _)
theorem Sat.book1 {E w : World} {a b c d k e : Chunk} {L : List Chunk} (h : Sat E (a :: b :: c :: d :: k :: e :: L) w) : Sat E (k :: [] :: d :: c :: b :: a :: e :: L) w :=
  h.perm (by classical exact List.perm_iff_count.2 fun x => by simp only [List.flatten_cons, List.flatten_nil, List.count_append, List.count_nil]; omega)
theorem Sat.book2 {E w : World} {a b k t c : Chunk} {L : List Chunk} (h : Sat E (a :: b :: k :: t :: L) w) : Sat E (k :: [] :: b :: t :: a :: L) w :=
  h.perm (by classical exact List.perm_iff_count.2 fun x => by simp only [List.flatten_cons, List.flatten_nil, List.count_append, List.count_nil]; omega)
theorem Sat.book3 {E w : World} {a b k i : Chunk} {L : List Chunk} (h : Sat E (a :: b :: k :: i :: L) w) : Sat E (k :: i :: b :: a :: L) w :=
  h.perm (by classical exact List.perm_iff_count.2 fun x => by simp only [List.flatten_cons, List.flatten_nil, List.count_append, List.count_nil]; omega)
theorem Sat.book4 {E w : World} {k i a t : Chunk} {L : List Chunk} (h : Sat E (k :: i :: a :: t :: L) w) : Sat E (k :: i :: t :: a :: L) w :=
  h.perm (by classical exact List.perm_iff_count.2 fun x => by simp only [List.flatten_cons, List.flatten_nil, List.count_append, List.count_nil]; omega)
theorem Sat.book5 {E w : World} {k i a b t : Chunk} {L : List Chunk} (h : Sat E (k :: i :: a :: b :: t :: L) w) : Sat E (k :: t :: i :: [] :: [] :: a :: b :: L) w :=
  h.perm (by classical exact List.perm_iff_count.2 fun x => by simp only [List.flatten_cons, List.flatten_nil, List.count_append, List.count_nil]; omega)
theorem Sat.pt1 {E w : World} {k t p q d : Chunk} {L : List Chunk} (h : Sat E (k :: t :: p :: q :: d :: L) w) : Sat E (p :: q :: k :: t :: ([d] ++ L)) w :=
  h.perm (by classical exact List.perm_iff_count.2 fun x => by simp only [List.flatten_cons, List.flatten_nil, List.flatten_append, List.count_append, List.count_nil]; omega)
theorem Sat.pt2 {E w : World} {a z p q k t d : Chunk} {L : List Chunk} (h : Sat E (a :: z :: p :: q :: k :: t :: ([d] ++ L)) w) : Sat E (a :: q :: k :: t :: ([z, p, d] ++ L)) w :=
  h.perm (by classical exact List.perm_iff_count.2 fun x => by simp only [List.flatten_cons, List.flatten_nil, List.flatten_append, List.count_append, List.count_nil]; omega)
theorem Sat.pt3 {E w : World} {h' g t q k u : Chunk} {L : List Chunk} (h : Sat E (h' :: g :: t :: q :: k :: u :: L) w) : Sat E (k :: [] :: g :: h' :: t :: q :: u :: L) w :=
  h.perm (by classical exact List.perm_iff_count.2 fun x => by simp only [List.flatten_cons, List.flatten_nil, List.flatten_append, List.count_append, List.count_nil]; omega)
theorem Sat.pt4 {E w : World} {a b k i : Chunk} {L : List Chunk} (h : Sat E (a :: b :: k :: i :: L) w) : Sat E (k :: i :: b :: a :: L) w :=
  h.perm (by classical exact List.perm_iff_count.2 fun x => by simp only [List.flatten_cons, List.flatten_nil, List.flatten_append, List.count_append, List.count_nil]; omega)
theorem Sat.pt5 {E w : World} {k i a b c t q u : Chunk} {L : List Chunk} (h : Sat E (k :: i :: a :: b :: c :: t :: q :: u :: L) w) : Sat E (k :: u :: i :: [] :: [] :: a :: b :: c :: t :: q :: L) w :=
  h.perm (by classical exact List.perm_iff_count.2 fun x => by simp only [List.flatten_cons, List.flatten_nil, List.flatten_append, List.count_append, List.count_nil]; omega)
theorem pagesI_len (no v : Int) (cs : List Int) : (∀ x ∈ (if okPg no v cs then pagesB (allP no v cs) else []), x.length = 32) ∧ (if okPg no v cs then pagesB (allP no v cs) else []).length ≤ 3 := by
  split
  · rename_i h
    exact ⟨pages_len (all_length h), by rw [pagesB, List.length_map, List.length_range]; omega⟩
  · simp
theorem flat_le2 {l : List (List UInt8)} (h : ∀ x ∈ l, x.length = 32) (hl : l.length ≤ 3) : l.flatten.length ≤ 96 := by rw [flat_le l h]; omega
theorem set_len32 {l : List (List UInt8)} {j : Nat} {y : List UInt8} (h : ∀ x ∈ l, x.length = 32) (hy : y.length = 32) : ∀ x ∈ l.set j y, x.length = 32 := by
  intro x hx
  rcases List.mem_or_eq_of_mem_set hx with h1 | h1
  · exact h x h1
  · rw [h1]; exact hy
attribute [local irreducible] actF WL CW OW PL SW VR LR yes Returns Fn
set_option maxHeartbeats 2000000 in
theorem page_tells (no version most : Int) (l mm : List Int) (ww : Int) (raw : Bool) (spoil at_ : Int) (c : UInt8) (vl vm : Value) (Δl Δm : Chunk) (hvl : View 1 encI vl l Δl) (hvm : View 1 encI vm mm Δm) (hat : inI64 at_) (hnl : l.length ≤ 9223372036854775807) (hnm : mm.length ≤ 9223372036854775807) :
    FnG Try.prog 4 [.int .i64 no, .int .i64 version, .int .i64 most, vl, vm, .int .i64 ww, .bool raw, .int .i64 spoil, .int .i64 at_, .int .u8 (c.toNat : Int)] [Δl, Δm] (fun u Δs => u = .bool true ∧ Δs = []) := by
  refine FnG.mk fun E F w hS hF => ?_
  have hFl : Δl ∈ F := hF _ (by simp)
  have hFm : Δm ∈ F := hF _ (by simp)
  refine returns_enter Try.func4 rfl Try.ntmps4 rfl ?_
  refine cw_seq fun K1 hK1 => ?_
  refine cw_region ?_
  refine wl_op rfl rfl (ow_vr (vr_assign (v := .bool false) rfl) ?_)
  refine wl_nil ?_
  refine hK1 _ _ ?_
  refine cw_seq fun K2 hK2 => ?_
  refine cw_seq fun K3 hK3 => ?_
  refine cw_region ?_
  refine wl_op rfl rfl (ow_vr (vr_move (v := vl) rfl) ?_)
  refine wl_op rfl rfl (ow_vr (vr_len_v (v := vl) Try.underlying55 rfl hvl) ?_)
  refine wl_op rfl rfl (ow_vr (vr_gtr rfl rfl) ?_)
  refine wl_op rfl rfl (ow_vr (vr_move (v := .bool _) rfl) ?_)
  refine wl_split 52 rfl (fun hc => ?_) (fun hc => ?_)
  · (try simp only [decide_eq_true_eq, decide_eq_false_iff_not, Bool.not_eq_true, Bool.not_eq_false, Bool.not_eq_true', Bool.not_eq_false', Bool.and_eq_true, Bool.or_eq_true, Bool.and_eq_false_iff, Bool.or_eq_false_iff, Int.not_lt, Int.not_le, gt_iff_lt, ge_iff_le, ne_eq, Decidable.not_not, beq_iff_eq] at hc)
    have hg52 := hc; clear hc
    refine wl_noD rfl rfl rfl rfl rfl rfl ?_
    refine wl_noD rfl rfl rfl rfl rfl rfl ?_
    refine wl_noD rfl rfl rfl rfl rfl rfl ?_
    refine wl_op rfl rfl (ow_vr (vr_pick (b := true) (v := .bool _) rfl rfl) ?_)
    refine wl_op rfl rfl (ow_vr (vr_move (v := .bool _) rfl) ?_)
    refine wl_noD rfl rfl rfl rfl rfl rfl ?_
    refine wl_noD rfl rfl rfl rfl rfl rfl ?_
    refine wl_op rfl rfl (ow_vr (vr_pick (b := true) (v := .bool _) rfl rfl) ?_)
    refine wl_nil ?_
    refine hK3 _ _ ?_
    refine cw_cond_t rfl rfl (rfl) ?_
    refine cw_seq fun K4 hK4 => ?_
    refine cw_region ?_
    refine wl_op rfl rfl (ow_fn (vs := []) en_25 rfl hS (alive4) ?_)
    clear hS; rintro _ _ w ⟨rfl, rfl⟩ hS; (try simp only [List.cons_append, List.nil_append] at hS)
    refine wl_op rfl rfl (ow_vr (vr_assign (v := .bool _) rfl) ?_)
    refine wl_nil ?_
    refine hK4 _ _ ?_
    refine cw_ret ?_
    refine thenF_ret (?_)
    refine ret_one (fn := Try.f4) (n := 250) (t := 20) (.inl rfl) rfl rfl ?_
    exact ⟨[], ⟨rfl, rfl⟩, hS⟩
  · (try simp only [decide_eq_true_eq, decide_eq_false_iff_not, Bool.not_eq_true, Bool.not_eq_false, Bool.not_eq_true', Bool.not_eq_false', Bool.and_eq_true, Bool.or_eq_true, Bool.and_eq_false_iff, Bool.or_eq_false_iff, Int.not_lt, Int.not_le, gt_iff_lt, ge_iff_le, ne_eq, Decidable.not_not, beq_iff_eq] at hc)
    have hg52 := hc; clear hc
    refine wl_yes rfl rfl rfl rfl rfl (ow_vr (vr_move (v := vm) rfl) ?_)
    refine wl_yes rfl rfl rfl rfl rfl (ow_vr (vr_len_v (v := vm) Try.underlying55 rfl hvm) ?_)
    refine wl_yes rfl rfl rfl rfl rfl (ow_vr (vr_gtr rfl rfl) ?_)
    refine wl_op rfl rfl (ow_vr (vr_pick (b := false) (v := .bool _) rfl rfl) ?_)
    refine wl_op rfl rfl (ow_vr (vr_move (v := .bool _) rfl) ?_)
    refine wl_split 57 rfl (fun hc => ?_) (fun hc => ?_)
    · (try simp only [decide_eq_true_eq, decide_eq_false_iff_not, Bool.not_eq_true, Bool.not_eq_false, Bool.not_eq_true', Bool.not_eq_false', Bool.and_eq_true, Bool.or_eq_true, Bool.and_eq_false_iff, Bool.or_eq_false_iff, Int.not_lt, Int.not_le, gt_iff_lt, ge_iff_le, ne_eq, Decidable.not_not, beq_iff_eq] at hc)
      have hg57 := hc; clear hc
      refine wl_noD rfl rfl rfl rfl rfl rfl ?_
      refine wl_noD rfl rfl rfl rfl rfl rfl ?_
      refine wl_op rfl rfl (ow_vr (vr_pick (b := true) (v := .bool _) rfl rfl) ?_)
      refine wl_nil ?_
      refine hK3 _ _ ?_
      refine cw_cond_t rfl rfl (rfl) ?_
      refine cw_seq fun K5 hK5 => ?_
      refine cw_region ?_
      refine wl_op rfl rfl (ow_fn (vs := []) en_25 rfl hS (alive4) ?_)
      clear hS; rintro _ _ w ⟨rfl, rfl⟩ hS; (try simp only [List.cons_append, List.nil_append] at hS)
      refine wl_op rfl rfl (ow_vr (vr_assign (v := .bool _) rfl) ?_)
      refine wl_nil ?_
      refine hK5 _ _ ?_
      refine cw_ret ?_
      refine thenF_ret (?_)
      refine ret_one (fn := Try.f4) (n := 250) (t := 20) (.inl rfl) rfl rfl ?_
      exact ⟨[], ⟨rfl, rfl⟩, hS⟩
    · (try simp only [decide_eq_true_eq, decide_eq_false_iff_not, Bool.not_eq_true, Bool.not_eq_false, Bool.not_eq_true', Bool.not_eq_false', Bool.and_eq_true, Bool.or_eq_true, Bool.and_eq_false_iff, Bool.or_eq_false_iff, Int.not_lt, Int.not_le, gt_iff_lt, ge_iff_le, ne_eq, Decidable.not_not, beq_iff_eq] at hc)
      have hg57 := hc; clear hc
      refine wl_yes rfl rfl rfl rfl rfl (ow_fn (vs := []) en_25 rfl hS (alive4) ?_)
      clear hS; rintro _ _ w ⟨rfl, rfl⟩ hS; (try simp only [List.cons_append, List.nil_append] at hS)
      refine wl_yes rfl rfl rfl rfl rfl (ow_vr (vr_not rfl) ?_)
      refine wl_op rfl rfl (ow_vr (vr_pick (b := false) (v := .bool _) rfl rfl) ?_)
      refine wl_nil ?_
      refine hK3 _ _ ?_
      refine cw_cond rfl rfl (fun hc => ?_) (fun hc => ?_)
      · (try simp only [decide_eq_true_eq, decide_eq_false_iff_not, Bool.not_eq_true, Bool.not_eq_false, Bool.not_eq_true', Bool.not_eq_false', Bool.and_eq_true, Bool.or_eq_true, Bool.and_eq_false_iff, Bool.or_eq_false_iff, Int.not_lt, Int.not_le, gt_iff_lt, ge_iff_le, ne_eq, Decidable.not_not, beq_iff_eq] at hc)
        have hc0 := hc; clear hc
        refine cw_seq fun K6 hK6 => ?_
        refine cw_region ?_
        refine wl_op rfl rfl (ow_fn (vs := []) en_25 rfl hS (alive4) ?_)
        clear hS; rintro _ _ w ⟨rfl, rfl⟩ hS; (try simp only [List.cons_append, List.nil_append] at hS)
        refine wl_op rfl rfl (ow_vr (vr_assign (v := .bool _) rfl) ?_)
        refine wl_nil ?_
        refine hK6 _ _ ?_
        refine cw_ret ?_
        refine thenF_ret (?_)
        refine ret_one (fn := Try.f4) (n := 250) (t := 20) (.inl rfl) rfl rfl ?_
        exact ⟨[], ⟨rfl, rfl⟩, hS⟩
      · (try simp only [decide_eq_true_eq, decide_eq_false_iff_not, Bool.not_eq_true, Bool.not_eq_false, Bool.not_eq_true', Bool.not_eq_false', Bool.and_eq_true, Bool.or_eq_true, Bool.and_eq_false_iff, Bool.or_eq_false_iff, Int.not_lt, Int.not_le, gt_iff_lt, ge_iff_le, ne_eq, Decidable.not_not, beq_iff_eq] at hc)
        have hc0 := hc; clear hc
        refine cw_skip ?_
        refine hK2 _ _ ?_
        refine cw_seq fun K7 hK7 => ?_
        have hJK7 : ∀ f w, (∃ (a : List Int) (b : List Int) (va : Value) (vb : Value) (Da : Chunk) (Db : Chunk) (L : List Chunk) (g : Nat → Value), f = (upd (upd (upd (upd (upd (upd (upd (upd (upd g 0 (.int .i64 no)) 1 (.int .i64 version)) 2 (.int .i64 most)) 3 (va)) 4 (vb)) 5 (.int .i64 ww)) 7 (.int .i64 spoil)) 8 (.int .i64 at_)) 9 (.int .u8 (c.toNat : Int))) ∧ ((View 1 encI va a Da ∧ View 1 encI vb b Db ∧ a.length ≤ 30 ∧ b.length ≤ 30) ∧ Da ∈ L ++ F ∧ Db ∈ L ++ F) ∧ Sat E (L ++ F) w) → K7 f w := by
          clear hS; rintro f w ⟨a, b, va, vb, Da, Db, L, g, rfl, hj5, hS⟩
          refine hK7 _ _ ?_
          refine cw_seq fun K8 hK8 => ?_
          obtain ⟨⟨hva, hvb, hla, hlb⟩, hDa, hDb⟩ := hj5
          generalize hG : L ++ F = G at hS hDa hDb
          have hi1 := pagesI_len no version a
          have hi2 := pagesI_len no ww b
          refine cw_region ?_
          refine wl_op rfl rfl (ow_vr (vr_move (v := va) rfl) ?_)
          refine wl_op rfl rfl (ow_fng (vs := [va]) en_27 rfl hS (book_LentInts a va Da hva (by omega)) (by repeat (first | exact needs0 | (refine needsC ?_ ?_; · (repeat (first | exact List.mem_cons_self | assumption | refine List.mem_cons_of_mem _ ?_))))) ?_)
          clear hS; rintro v69 _ w ⟨D69, rfl, hlc⟩ hS; (try simp only [List.cons_append, List.nil_append] at hS)
          refine wl_op rfl rfl (ow_vr (vr_assign (v := v69) rfl) ?_)
          refine wl_nil ?_
          refine hK8 _ _ ?_
          refine cw_seq fun K9 hK9 => ?_
          refine cw_region ?_
          refine wl_op rfl rfl (ow_vr (vr_build (vs := []) (cs := [.slice _ _ _, .slice _ _ _, .slice _ _ _, .slice _ _ _, .slice _ _ _, .slice _ _ _, .slice _ _ _, .slice _ _ _, .slice _ _ _, .slice _ _ _, .slice _ _ _, .slice _ _ _]) zr_43 pl_43 rfl rfl) ?_)
          refine wl_op rfl rfl (ow_box (cs := [_, _, _, _, _, _, _, _, _, _, _, _]) hS rfl rfl ?_)
          clear hS; intro b71 w hS
          refine wl_op rfl rfl (ow_vr (vr_assign (v := .pointer (some ⟨b71, 0, none⟩)) rfl) ?_)
          refine wl_nil ?_
          refine hK9 _ _ ?_
          refine cw_seq fun K10 hK10 => ?_
          have hvc := hlc.view (by exact fun _ => rfl)
          refine cw_region ?_
          refine wl_op rfl rfl (ow_vr (vr_move (v := .int .i64 no) rfl) ?_)
          refine wl_op rfl rfl (ow_vr (vr_move (v := .int .i64 version) rfl) ?_)
          refine wl_op rfl rfl (ow_vr (vr_move (v := v69) rfl) ?_)
          refine wl_op rfl rfl (ow_fng (vs := [.int .i64 no, .int .i64 version, v69]) en_28 rfl hS (page_Put no version a v69 D69 hvc) (by repeat (first | exact needs0 | (refine needsC ?_ ?_; · (repeat (first | exact List.mem_cons_self | assumption | refine List.mem_cons_of_mem _ ?_))))) ?_)
          clear hS; rintro v76 _ w ⟨vA, DA, rfl, rfl, hoA⟩ hS; (try simp only [List.cons_append, List.nil_append] at hS)
          refine wl_op rfl rfl (ow_vr (vr_move (v := .tuple _) rfl) ?_)
          refine wl_op rfl rfl (ow_vr (vr_extract (v := vA) rfl rfl) ?_)
          refine wl_op rfl rfl (ow_vr (vr_extract (v := .bool _) rfl rfl) ?_)
          refine wl_op rfl rfl (ow_vr (vr_assign (v := vA) rfl) ?_)
          refine wl_op rfl rfl (ow_vr (vr_assign (v := .bool _) rfl) ?_)
          refine wl_nil ?_
          refine hK10 _ _ ?_
          refine cw_seq fun K11 hK11 => ?_
          refine cw_region ?_
          refine wl_op rfl rfl (ow_vr (vr_move (v := .int .i64 no) rfl) ?_)
          refine wl_op rfl rfl (ow_vr (vr_move (v := .int .i64 ww) rfl) ?_)
          refine wl_op rfl rfl (ow_vr (vr_move (v := vb) rfl) ?_)
          refine wl_op rfl rfl (ow_fng (vs := [.int .i64 no, .int .i64 ww, vb]) en_28 rfl hS (page_Put no ww b vb Db hvb) (by repeat (first | exact needs0 | (refine needsC ?_ ?_; · (repeat (first | exact List.mem_cons_self | assumption | refine List.mem_cons_of_mem _ ?_))))) ?_)
          clear hS; rintro v83 _ w ⟨vB, DB, rfl, rfl, hoB⟩ hS; (try simp only [List.cons_append, List.nil_append] at hS)
          refine wl_op rfl rfl (ow_vr (vr_move (v := .tuple _) rfl) ?_)
          refine wl_op rfl rfl (ow_vr (vr_extract (v := vB) rfl rfl) ?_)
          refine wl_op rfl rfl (ow_vr (vr_extract (v := .bool _) rfl rfl) ?_)
          refine wl_op rfl rfl (ow_vr (vr_assign (v := vB) rfl) ?_)
          refine wl_op rfl rfl (ow_vr (vr_assign (v := .bool _) rfl) ?_)
          refine wl_nil ?_
          refine hK11 _ _ ?_
          refine cw_seq fun K12 hK12 => ?_
          refine cw_region ?_
          refine wl_op rfl rfl (ow_vr (vr_move (v := .int .i64 no) rfl) ?_)
          refine wl_op rfl rfl (ow_vr (vr_move (v := .int .i64 version) rfl) ?_)
          refine wl_op rfl rfl (ow_vr (vr_move (v := va) rfl) ?_)
          refine wl_op rfl rfl (ow_fng (vs := [.int .i64 no, .int .i64 version, va]) en_29 rfl hS (ref_Page no version a va Da hva) (by repeat (first | exact needs0 | (refine needsC ?_ ?_; · (repeat (first | exact List.mem_cons_self | assumption | refine List.mem_cons_of_mem _ ?_))))) ?_)
          clear hS; rintro v90 _ w ⟨vP, DP, rfl, rfl, hoP⟩ hS; (try simp only [List.cons_append, List.nil_append] at hS)
          refine wl_op rfl rfl (ow_vr (vr_move (v := .tuple _) rfl) ?_)
          refine wl_op rfl rfl (ow_vr (vr_extract (v := vP) rfl rfl) ?_)
          refine wl_op rfl rfl (ow_vr (vr_extract (v := .bool _) rfl rfl) ?_)
          refine wl_op rfl rfl (ow_vr (vr_assign (v := vP) rfl) ?_)
          refine wl_op rfl rfl (ow_vr (vr_assign (v := .bool _) rfl) ?_)
          refine wl_nil ?_
          refine hK12 _ _ ?_
          refine cw_seq fun K13 hK13 => ?_
          refine cw_region ?_
          refine wl_op rfl rfl (ow_vr (vr_move (v := .int .i64 no) rfl) ?_)
          refine wl_op rfl rfl (ow_vr (vr_move (v := .int .i64 ww) rfl) ?_)
          refine wl_op rfl rfl (ow_vr (vr_move (v := vb) rfl) ?_)
          refine wl_op rfl rfl (ow_fng (vs := [.int .i64 no, .int .i64 ww, vb]) en_29 rfl hS (ref_Page no ww b vb Db hvb) (by repeat (first | exact needs0 | (refine needsC ?_ ?_; · (repeat (first | exact List.mem_cons_self | assumption | refine List.mem_cons_of_mem _ ?_))))) ?_)
          clear hS; rintro v97 _ w ⟨vQ, DQ, rfl, rfl, hoQ⟩ hS; (try simp only [List.cons_append, List.nil_append] at hS)
          refine wl_op rfl rfl (ow_vr (vr_move (v := .tuple _) rfl) ?_)
          refine wl_op rfl rfl (ow_vr (vr_extract (v := vQ) rfl rfl) ?_)
          refine wl_op rfl rfl (ow_vr (vr_extract (v := .bool _) rfl rfl) ?_)
          refine wl_op rfl rfl (ow_vr (vr_assign (v := vQ) rfl) ?_)
          refine wl_op rfl rfl (ow_vr (vr_assign (v := .bool _) rfl) ?_)
          refine wl_nil ?_
          refine hK13 _ _ ?_
          refine cw_seq fun K14 hK14 => ?_
          obtain ⟨A1, hA1⟩ : ∃ A1, (if okPg no version a then pagesB (allP no version a) else []) = A1 := ⟨_, rfl⟩
          obtain ⟨B1, hB1⟩ : ∃ B1, (if okPg no ww b then pagesB (allP no ww b) else []) = B1 := ⟨_, rfl⟩
          rw [hA1] at hoA hoP hi1
          rw [hB1] at hoB hoQ hi2
          replace hS := hS.book1
          refine cw_forget (F := fun g => (upd (upd (upd (upd (upd (upd (upd (upd (upd (upd (upd (upd (upd (upd (upd g 0 (.int .i64 no)) 2 (.int .i64 most)) 3 (va)) 5 (.int .i64 ww)) 7 (.int .i64 spoil)) 8 (.int .i64 at_)) 9 (.int .u8 (c.toNat : Int))) 21 (v69)) 22 (.pointer (some ⟨b71, 0, none⟩))) 23 (vA)) 24 (.bool (okPg no version a))) 25 (vB)) 27 (vP)) 28 (.bool (okPg no version a))) 29 (vQ))) (reb (reb (reb (reb (reb (reb (reb (reb (reb (reb (reb (reb (reb (reb (reb rfl rfl) rfl) rfl) rfl) rfl) rfl) rfl) rfl) rfl) rfl) rfl) rfl) rfl) rfl) rfl) ?_
          intro g
          refine cw_region ?_
          refine wl_op rfl rfl (ow_vr (vr_move (v := .pointer (some ⟨b71, 0, none⟩)) rfl) ?_)
          refine wl_op rfl rfl (ow_vr (vr_move (v := vA) rfl) ?_)
          refine wl_op rfl rfl (ow_fn (vs := [.pointer (some ⟨b71, 0, none⟩), vA]) en_30 rfl hS (book_addTexts Kept.none A1 vA DA hoA (by omega)) ?_)
          clear hS; rintro _ _ w ⟨vb1, vw1, I1, K1, rfl, hk1, hvA1, _, hI1⟩ hS; (try simp only [List.cons_append, List.nil_append] at hS)
          refine wl_nil ?_
          refine hK14 _ _ ?_
          refine cw_seq fun K15 hK15 => ?_
          refine cw_region ?_
          refine wl_op rfl rfl (ow_vr (vr_move (v := .pointer (some ⟨b71, 0, none⟩)) rfl) ?_)
          refine wl_op rfl rfl (ow_vr (vr_move (v := vB) rfl) ?_)
          refine wl_op rfl rfl (ow_fn (vs := [.pointer (some ⟨b71, 0, none⟩), vB]) en_30 rfl hS (book_addTexts hk1 B1 vB DB hoB (by omega)) ?_)
          clear hS; rintro _ _ w ⟨vb2, vw2, I2, K2, rfl, hk2, hvB1, hsub, hI2⟩ hS; (try simp only [List.cons_append, List.nil_append] at hS)
          refine wl_nil ?_
          refine hK15 _ _ ?_
          refine cw_seq fun K16 hK16 => ?_
          refine cw_seq fun K17 hK17 => ?_
          have hvA := hvA1.mono fun u hu => hI2 u (hsub u hu)
          have hvB := hvB1.mono hI2
          have hvP := hoP.view (by exact fun _ => rfl)
          have hvQ := hoQ.view (by exact fun _ => rfl)
          refine cw_region ?_
          refine wl_op rfl rfl (ow_vr (vr_move (v := .bool (okPg no version a)) rfl) ?_)
          refine wl_op rfl rfl (ow_vr (vr_move (v := .bool (okPg no version a)) rfl) ?_)
          refine wl_op rfl rfl (ow_vr (vr_neqb Try.underlying4 rfl rfl) ?_)
          refine wl_op rfl rfl (ow_vr (vr_move (v := .bool _) rfl) ?_)
          refine wl_known 109 rfl (c := false) (by simp) ?_
          refine wl_yes rfl rfl rfl rfl rfl (ow_vr (vr_move (v := vA) rfl) ?_)
          refine wl_yes rfl rfl rfl rfl rfl (ow_vr (vr_move (v := vP) rfl) ?_)
          refine wl_yes rfl rfl rfl rfl rfl (ow_fng (vs := [vA, vP]) en_31 rfl hS (book_SameTexts A1 A1 vA vP K2 DP hvA hvP (by omega) (by omega)) (by repeat (first | exact needs0 | (refine needsC ?_ ?_; · (repeat (first | exact List.mem_cons_self | assumption | refine List.mem_cons_of_mem _ ?_))))) ?_)
          clear hS; rintro v112 _ w ⟨rfl, rfl⟩ hS; (try simp only [List.cons_append, List.nil_append] at hS)
          refine wl_yes rfl rfl rfl rfl rfl (ow_vr (vr_not rfl) ?_)
          refine wl_op rfl rfl (ow_vr (vr_pick (b := false) (v := .bool _) rfl rfl) ?_)
          refine wl_op rfl rfl (ow_vr (vr_move (v := .bool _) rfl) ?_)
          refine wl_known 115 rfl (c := false) (by simp) ?_
          refine wl_yes rfl rfl rfl rfl rfl (ow_vr (vr_move (v := vB) rfl) ?_)
          refine wl_yes rfl rfl rfl rfl rfl (ow_vr (vr_move (v := vQ) rfl) ?_)
          refine wl_yes rfl rfl rfl rfl rfl (ow_fng (vs := [vB, vQ]) en_31 rfl hS (book_SameTexts B1 B1 vB vQ K2 DQ hvB hvQ (by omega) (by omega)) (by repeat (first | exact needs0 | (refine needsC ?_ ?_; · (repeat (first | exact List.mem_cons_self | assumption | refine List.mem_cons_of_mem _ ?_))))) ?_)
          clear hS; rintro v118 _ w ⟨rfl, rfl⟩ hS; (try simp only [List.cons_append, List.nil_append] at hS)
          refine wl_yes rfl rfl rfl rfl rfl (ow_vr (vr_not rfl) ?_)
          refine wl_op rfl rfl (ow_vr (vr_pick (b := false) (v := .bool _) rfl rfl) ?_)
          refine wl_op rfl rfl (ow_vr (vr_move (v := .bool _) rfl) ?_)
          refine wl_known 121 rfl (c := false) (by simp) ?_
          refine wl_yes rfl rfl rfl rfl rfl (ow_vr (vr_move (v := v69) rfl) ?_)
          refine wl_yes rfl rfl rfl rfl rfl (ow_vr (vr_move (v := va) rfl) ?_)
          refine wl_yes rfl rfl rfl rfl rfl (ow_fng (vs := [v69, va]) en_32 rfl hS (book_StaysInts a a v69 va D69 Da hlc hva (by omega) (by omega)) (by repeat (first | exact needs0 | (refine needsC ?_ ?_; · (repeat (first | exact List.mem_cons_self | assumption | refine List.mem_cons_of_mem _ ?_))))) ?_)
          clear hS; rintro v124 _ w ⟨rfl, rfl⟩ hS; (try simp only [List.cons_append, List.nil_append] at hS)
          refine wl_yes rfl rfl rfl rfl rfl (ow_vr (vr_not rfl) ?_)
          refine wl_op rfl rfl (ow_vr (vr_pick (b := false) (v := .bool _) rfl rfl) ?_)
          refine wl_nil ?_
          refine hK17 _ _ ?_
          refine cw_cond_f rfl rfl (by simp) ?_
          refine cw_skip ?_
          refine hK16 _ _ ?_
          refine cw_seq fun K18 hK18 => ?_
          have hJK18 : ∀ f w, (∃ (T : List (List UInt8)) (vT : Value) (DT : Chunk) (M : List Chunk) (g : Nat → Value), f = (upd (upd (upd (upd (upd (upd g 0 (.int .i64 no)) 2 (.int .i64 most)) 5 (.int .i64 ww)) 22 (.pointer (some ⟨b71, 0, none⟩))) 27 (vT)) 29 (vQ)) ∧ (Own 9 1 encS vT T DT ∧ T.length ≤ 3 ∧ ∀ x ∈ T, x.length = 32) ∧ Sat E (DT :: DQ :: bookC b71 vb2 vw2 (.slice none 0 0) (.slice none 0 0) (.slice none 0 0) (.slice none 0 0) (.slice none 0 0) (.slice none 0 0) :: K2 :: (M ++ G)) w) → K18 f w := by
            clear hS; rintro f w ⟨T, vT, DT, M, g, rfl, hj21, hS⟩
            refine hK18 _ _ ?_
            refine cw_seq fun K19 hK19 => ?_
            obtain ⟨hoT, hTl, hT32⟩ := hj21
            have hTf := flat_le2 hT32 hTl
            have hBf := flat_le2 hi2.1 hi2.2
            have hvT := hoT.view (by exact fun _ => rfl)
            obtain ⟨X, hX⟩ : ∃ X, (if getOkP T then cellsR T.flatten else []) = X := ⟨_, rfl⟩
            obtain ⟨Y, hY⟩ : ∃ Y, (if atOk no most T then cellsR T.flatten else []) = Y := ⟨_, rfl⟩
            obtain ⟨Z, hZ⟩ : ∃ Z, (if atOk no ww B1 then cellsR B1.flatten else []) = Z := ⟨_, rfl⟩
            have hXl : X.length ≤ 16 := by rw [← hX]; split <;> simp [cellsR]
            have hYl : Y.length ≤ 16 := by rw [← hY]; split <;> simp [cellsR]
            have hZl : Z.length ≤ 16 := by rw [← hZ]; split <;> simp [cellsR]
            have hcG := page_Get T vT DT hvT (by omega) (by omega)
            have hcH := ref_Paged T vT DT hvT (by omega)
            have hcE := page_At no most T vT DT hvT (by omega) (by omega)
            have hcE2 := ref_At no most T vT DT hvT (by omega)
            have hcF := page_At no ww B1 vQ DQ hvQ (by omega) (by omega)
            have hcF2 := ref_At no ww B1 vQ DQ hvQ (by omega)
            rw [hX] at hcG hcH
            rw [hY] at hcE hcE2
            rw [hZ] at hcF hcF2
            refine cw_region ?_
            refine wl_op rfl rfl (ow_vr (vr_move (v := vT) rfl) ?_)
            refine wl_op rfl rfl (ow_fng (vs := [vT]) en_33 rfl hS (hcG) (by repeat (first | exact needs0 | (refine needsC ?_ ?_; · (repeat (first | exact List.mem_cons_self | assumption | refine List.mem_cons_of_mem _ ?_))))) ?_)
            clear hS; rintro v159 _ w ⟨vG, DG, rfl, rfl, hoG⟩ hS; (try simp only [List.cons_append, List.nil_append] at hS)
            refine wl_op rfl rfl (ow_vr (vr_move (v := .tuple _) rfl) ?_)
            refine wl_op rfl rfl (ow_vr (vr_extract (v := .int .i64 _) rfl rfl) ?_)
            refine wl_op rfl rfl (ow_vr (vr_extract (v := .int .i64 _) rfl rfl) ?_)
            refine wl_op rfl rfl (ow_vr (vr_extract (v := vG) rfl rfl) ?_)
            refine wl_op rfl rfl (ow_vr (vr_extract (v := .bool _) rfl rfl) ?_)
            refine wl_op rfl rfl (ow_vr (vr_assign (v := .int .i64 _) rfl) ?_)
            refine wl_op rfl rfl (ow_vr (vr_assign (v := .int .i64 _) rfl) ?_)
            refine wl_op rfl rfl (ow_vr (vr_assign (v := vG) rfl) ?_)
            refine wl_op rfl rfl (ow_vr (vr_assign (v := .bool _) rfl) ?_)
            refine wl_nil ?_
            refine hK19 _ _ ?_
            refine cw_seq fun K20 hK20 => ?_
            refine cw_region ?_
            refine wl_op rfl rfl (ow_vr (vr_move (v := vT) rfl) ?_)
            refine wl_op rfl rfl (ow_fng (vs := [vT]) en_34 rfl hS (hcH) (by repeat (first | exact needs0 | (refine needsC ?_ ?_; · (repeat (first | exact List.mem_cons_self | assumption | refine List.mem_cons_of_mem _ ?_))))) ?_)
            clear hS; rintro v166 _ w ⟨vH, DH, rfl, rfl, hoH⟩ hS; (try simp only [List.cons_append, List.nil_append] at hS)
            refine wl_op rfl rfl (ow_vr (vr_move (v := .tuple _) rfl) ?_)
            refine wl_op rfl rfl (ow_vr (vr_extract (v := .int .i64 _) rfl rfl) ?_)
            refine wl_op rfl rfl (ow_vr (vr_extract (v := .int .i64 _) rfl rfl) ?_)
            refine wl_op rfl rfl (ow_vr (vr_extract (v := vH) rfl rfl) ?_)
            refine wl_op rfl rfl (ow_vr (vr_extract (v := .bool _) rfl rfl) ?_)
            refine wl_op rfl rfl (ow_vr (vr_assign (v := .int .i64 _) rfl) ?_)
            refine wl_op rfl rfl (ow_vr (vr_assign (v := .int .i64 _) rfl) ?_)
            refine wl_op rfl rfl (ow_vr (vr_assign (v := vH) rfl) ?_)
            refine wl_op rfl rfl (ow_vr (vr_assign (v := .bool _) rfl) ?_)
            refine wl_nil ?_
            refine hK20 _ _ ?_
            refine cw_seq fun K21 hK21 => ?_
            replace hS := hS.pt3
            refine cw_region ?_
            refine wl_op rfl rfl (ow_vr (vr_move (v := .pointer (some ⟨b71, 0, none⟩)) rfl) ?_)
            refine wl_op rfl rfl (ow_vr (vr_move (v := vG) rfl) ?_)
            refine wl_op rfl rfl (ow_fn (vs := [.pointer (some ⟨b71, 0, none⟩), vG]) en_35 rfl hS (book_addInts Kept.none X vG DG hoG (by omega)) ?_)
            clear hS; rintro _ _ w ⟨vi1, vj1, J1, N1, rfl, hn1, hvX1, _, hJ1⟩ hS; (try simp only [List.cons_append, List.nil_append] at hS)
            refine wl_nil ?_
            refine hK21 _ _ ?_
            refine cw_seq fun K22 hK22 => ?_
            refine cw_region ?_
            refine wl_op rfl rfl (ow_vr (vr_move (v := .int .i64 no) rfl) ?_)
            refine wl_op rfl rfl (ow_vr (vr_move (v := .int .i64 most) rfl) ?_)
            refine wl_op rfl rfl (ow_vr (vr_move (v := vT) rfl) ?_)
            refine wl_op rfl rfl (ow_fng (vs := [.int .i64 no, .int .i64 most, vT]) en_36 rfl hS (hcE) (by repeat (first | exact needs0 | (refine needsC ?_ ?_; · (repeat (first | exact List.mem_cons_self | assumption | refine List.mem_cons_of_mem _ ?_))))) ?_)
            clear hS; rintro v178 _ w ⟨vE, DE, rfl, rfl, hoE⟩ hS; (try simp only [List.cons_append, List.nil_append] at hS)
            refine wl_op rfl rfl (ow_vr (vr_move (v := .tuple _) rfl) ?_)
            refine wl_op rfl rfl (ow_vr (vr_extract (v := vE) rfl rfl) ?_)
            refine wl_op rfl rfl (ow_vr (vr_extract (v := .bool _) rfl rfl) ?_)
            refine wl_op rfl rfl (ow_vr (vr_assign (v := vE) rfl) ?_)
            refine wl_op rfl rfl (ow_vr (vr_assign (v := .bool _) rfl) ?_)
            refine wl_nil ?_
            refine hK22 _ _ ?_
            refine cw_seq fun K23 hK23 => ?_
            refine cw_region ?_
            refine wl_op rfl rfl (ow_vr (vr_move (v := .int .i64 no) rfl) ?_)
            refine wl_op rfl rfl (ow_vr (vr_move (v := .int .i64 most) rfl) ?_)
            refine wl_op rfl rfl (ow_vr (vr_move (v := vT) rfl) ?_)
            refine wl_op rfl rfl (ow_fng (vs := [.int .i64 no, .int .i64 most, vT]) en_37 rfl hS (hcE2) (by repeat (first | exact needs0 | (refine needsC ?_ ?_; · (repeat (first | exact List.mem_cons_self | assumption | refine List.mem_cons_of_mem _ ?_))))) ?_)
            clear hS; rintro v185 _ w ⟨vE2, DE2, rfl, rfl, hoE2⟩ hS; (try simp only [List.cons_append, List.nil_append] at hS)
            refine wl_op rfl rfl (ow_vr (vr_move (v := .tuple _) rfl) ?_)
            refine wl_op rfl rfl (ow_vr (vr_extract (v := vE2) rfl rfl) ?_)
            refine wl_op rfl rfl (ow_vr (vr_extract (v := .bool _) rfl rfl) ?_)
            refine wl_op rfl rfl (ow_vr (vr_assign (v := vE2) rfl) ?_)
            refine wl_op rfl rfl (ow_vr (vr_assign (v := .bool _) rfl) ?_)
            refine wl_nil ?_
            refine hK23 _ _ ?_
            refine cw_seq fun K24 hK24 => ?_
            replace hS := hS.pt4
            refine cw_region ?_
            refine wl_op rfl rfl (ow_vr (vr_move (v := .pointer (some ⟨b71, 0, none⟩)) rfl) ?_)
            refine wl_op rfl rfl (ow_vr (vr_move (v := vE) rfl) ?_)
            refine wl_op rfl rfl (ow_fn (vs := [.pointer (some ⟨b71, 0, none⟩), vE]) en_35 rfl hS (book_addInts hn1 Y vE DE hoE (by omega)) ?_)
            clear hS; rintro _ _ w ⟨vi2, vj2, J2, N2, rfl, hn2, hvY1, hs2, hJ2⟩ hS; (try simp only [List.cons_append, List.nil_append] at hS)
            refine wl_nil ?_
            refine hK24 _ _ ?_
            refine cw_seq fun K25 hK25 => ?_
            refine cw_region ?_
            refine wl_op rfl rfl (ow_vr (vr_move (v := .int .i64 no) rfl) ?_)
            refine wl_op rfl rfl (ow_vr (vr_move (v := .int .i64 ww) rfl) ?_)
            refine wl_op rfl rfl (ow_vr (vr_move (v := vQ) rfl) ?_)
            refine wl_op rfl rfl (ow_fng (vs := [.int .i64 no, .int .i64 ww, vQ]) en_36 rfl hS (hcF) (by repeat (first | exact needs0 | (refine needsC ?_ ?_; · (repeat (first | exact List.mem_cons_self | assumption | refine List.mem_cons_of_mem _ ?_))))) ?_)
            clear hS; rintro v195 _ w ⟨vF, DF, rfl, rfl, hoF⟩ hS; (try simp only [List.cons_append, List.nil_append] at hS)
            refine wl_op rfl rfl (ow_vr (vr_move (v := .tuple _) rfl) ?_)
            refine wl_op rfl rfl (ow_vr (vr_extract (v := vF) rfl rfl) ?_)
            refine wl_op rfl rfl (ow_vr (vr_extract (v := .bool _) rfl rfl) ?_)
            refine wl_op rfl rfl (ow_vr (vr_assign (v := vF) rfl) ?_)
            refine wl_op rfl rfl (ow_vr (vr_assign (v := .bool _) rfl) ?_)
            refine wl_nil ?_
            refine hK25 _ _ ?_
            refine cw_seq fun K26 hK26 => ?_
            refine cw_region ?_
            refine wl_op rfl rfl (ow_vr (vr_move (v := .int .i64 no) rfl) ?_)
            refine wl_op rfl rfl (ow_vr (vr_move (v := .int .i64 ww) rfl) ?_)
            refine wl_op rfl rfl (ow_vr (vr_move (v := vQ) rfl) ?_)
            refine wl_op rfl rfl (ow_fng (vs := [.int .i64 no, .int .i64 ww, vQ]) en_37 rfl hS (hcF2) (by repeat (first | exact needs0 | (refine needsC ?_ ?_; · (repeat (first | exact List.mem_cons_self | assumption | refine List.mem_cons_of_mem _ ?_))))) ?_)
            clear hS; rintro v202 _ w ⟨vF2, DF2, rfl, rfl, hoF2⟩ hS; (try simp only [List.cons_append, List.nil_append] at hS)
            refine wl_op rfl rfl (ow_vr (vr_move (v := .tuple _) rfl) ?_)
            refine wl_op rfl rfl (ow_vr (vr_extract (v := vF2) rfl rfl) ?_)
            refine wl_op rfl rfl (ow_vr (vr_extract (v := .bool _) rfl rfl) ?_)
            refine wl_op rfl rfl (ow_vr (vr_assign (v := vF2) rfl) ?_)
            refine wl_op rfl rfl (ow_vr (vr_assign (v := .bool _) rfl) ?_)
            refine wl_nil ?_
            refine hK26 _ _ ?_
            refine cw_seq fun K27 hK27 => ?_
            replace hS := hS.pt4
            refine cw_region ?_
            refine wl_op rfl rfl (ow_vr (vr_move (v := .pointer (some ⟨b71, 0, none⟩)) rfl) ?_)
            refine wl_op rfl rfl (ow_vr (vr_move (v := vF) rfl) ?_)
            refine wl_op rfl rfl (ow_fn (vs := [.pointer (some ⟨b71, 0, none⟩), vF]) en_35 rfl hS (book_addInts hn2 Z vF DF hoF (by omega)) ?_)
            clear hS; rintro _ _ w ⟨vi3, vj3, J3, N3, rfl, hn3, hvZ1, hs3, hJ3⟩ hS; (try simp only [List.cons_append, List.nil_append] at hS)
            refine wl_nil ?_
            refine hK27 _ _ ?_
            refine cw_seq fun K28 hK28 => ?_
            have hvX := hvX1.mono fun u hu => hJ3 u (hs3 u (hs2 u hu))
            have hvY := hvY1.mono fun u hu => hJ3 u (hs3 u hu)
            have hvZ := hvZ1.mono hJ3
            have hvH := hoH.view (by exact fun _ => rfl)
            have hvE2 := hoE2.view (by exact fun _ => rfl)
            have hvF2 := hoF2.view (by exact fun _ => rfl)
            replace hS := hS.pt5
            refine cw_region ?_
            refine wl_op rfl rfl (ow_vr (vr_move (v := .int .i64 _) rfl) ?_)
            refine wl_op rfl rfl (ow_vr (vr_move (v := .int .i64 _) rfl) ?_)
            refine wl_op rfl rfl (ow_vr (vr_eql rfl rfl) ?_)
            refine wl_op rfl rfl (ow_vr (vr_move (v := .bool _) rfl) ?_)
            refine wl_known 211 rfl (c := true) (by simp) ?_
            refine wl_yes rfl rfl rfl rfl rfl (ow_vr (vr_move (v := .int .i64 _) rfl) ?_)
            refine wl_yes rfl rfl rfl rfl rfl (ow_vr (vr_move (v := .int .i64 _) rfl) ?_)
            refine wl_yes rfl rfl rfl rfl rfl (ow_vr (vr_eql rfl rfl) ?_)
            refine wl_op rfl rfl (ow_vr (vr_pick (b := true) (v := .bool _) rfl rfl) ?_)
            refine wl_op rfl rfl (ow_vr (vr_move (v := .bool _) rfl) ?_)
            refine wl_known 216 rfl (c := true) (by simp) ?_
            refine wl_yes rfl rfl rfl rfl rfl (ow_vr (vr_move (v := .bool _) rfl) ?_)
            refine wl_yes rfl rfl rfl rfl rfl (ow_vr (vr_move (v := .bool _) rfl) ?_)
            refine wl_yes rfl rfl rfl rfl rfl (ow_vr (vr_eqlb Try.underlying4 rfl rfl) ?_)
            refine wl_op rfl rfl (ow_vr (vr_pick (b := true) (v := .bool _) rfl rfl) ?_)
            refine wl_op rfl rfl (ow_vr (vr_move (v := .bool _) rfl) ?_)
            refine wl_known 221 rfl (c := true) (by simp) ?_
            refine wl_yes rfl rfl rfl rfl rfl (ow_vr (vr_move (v := vG) rfl) ?_)
            refine wl_yes rfl rfl rfl rfl rfl (ow_vr (vr_move (v := vH) rfl) ?_)
            refine wl_yes rfl rfl rfl rfl rfl (ow_fng (vs := [vG, vH]) en_38 rfl hS (book_SameInts X X vG vH N3 DH hvX hvH (by omega) (by omega)) (by repeat (first | exact needs0 | (refine needsC ?_ ?_; · (repeat (first | exact List.mem_cons_self | assumption | refine List.mem_cons_of_mem _ ?_))))) ?_)
            clear hS; rintro v224 _ w ⟨rfl, rfl⟩ hS; (try simp only [List.cons_append, List.nil_append] at hS)
            refine wl_op rfl rfl (ow_vr (vr_pick (b := true) (v := .bool _) rfl rfl) ?_)
            refine wl_op rfl rfl (ow_vr (vr_move (v := .bool _) rfl) ?_)
            refine wl_known 226 rfl (c := true) (by simp) ?_
            refine wl_yes rfl rfl rfl rfl rfl (ow_vr (vr_move (v := .bool _) rfl) ?_)
            refine wl_yes rfl rfl rfl rfl rfl (ow_vr (vr_move (v := .bool _) rfl) ?_)
            refine wl_yes rfl rfl rfl rfl rfl (ow_vr (vr_eqlb Try.underlying4 rfl rfl) ?_)
            refine wl_op rfl rfl (ow_vr (vr_pick (b := true) (v := .bool _) rfl rfl) ?_)
            refine wl_op rfl rfl (ow_vr (vr_move (v := .bool _) rfl) ?_)
            refine wl_known 231 rfl (c := true) (by simp) ?_
            refine wl_yes rfl rfl rfl rfl rfl (ow_vr (vr_move (v := vE) rfl) ?_)
            refine wl_yes rfl rfl rfl rfl rfl (ow_vr (vr_move (v := vE2) rfl) ?_)
            refine wl_yes rfl rfl rfl rfl rfl (ow_fng (vs := [vE, vE2]) en_38 rfl hS (book_SameInts Y Y vE vE2 N3 DE2 hvY hvE2 (by omega) (by omega)) (by repeat (first | exact needs0 | (refine needsC ?_ ?_; · (repeat (first | exact List.mem_cons_self | assumption | refine List.mem_cons_of_mem _ ?_))))) ?_)
            clear hS; rintro v234 _ w ⟨rfl, rfl⟩ hS; (try simp only [List.cons_append, List.nil_append] at hS)
            refine wl_op rfl rfl (ow_vr (vr_pick (b := true) (v := .bool _) rfl rfl) ?_)
            refine wl_op rfl rfl (ow_vr (vr_move (v := .bool _) rfl) ?_)
            refine wl_known 236 rfl (c := true) (by simp) ?_
            refine wl_yes rfl rfl rfl rfl rfl (ow_vr (vr_move (v := .bool _) rfl) ?_)
            refine wl_yes rfl rfl rfl rfl rfl (ow_vr (vr_move (v := .bool _) rfl) ?_)
            refine wl_yes rfl rfl rfl rfl rfl (ow_vr (vr_eqlb Try.underlying4 rfl rfl) ?_)
            refine wl_op rfl rfl (ow_vr (vr_pick (b := true) (v := .bool _) rfl rfl) ?_)
            refine wl_op rfl rfl (ow_vr (vr_move (v := .bool _) rfl) ?_)
            refine wl_known 241 rfl (c := true) (by simp) ?_
            refine wl_yes rfl rfl rfl rfl rfl (ow_vr (vr_move (v := vF) rfl) ?_)
            refine wl_yes rfl rfl rfl rfl rfl (ow_vr (vr_move (v := vF2) rfl) ?_)
            refine wl_yes rfl rfl rfl rfl rfl (ow_fng (vs := [vF, vF2]) en_38 rfl hS (book_SameInts Z Z vF vF2 N3 DF2 hvZ hvF2 (by omega) (by omega)) (by repeat (first | exact needs0 | (refine needsC ?_ ?_; · (repeat (first | exact List.mem_cons_self | assumption | refine List.mem_cons_of_mem _ ?_))))) ?_)
            clear hS; rintro v244 _ w ⟨rfl, rfl⟩ hS; (try simp only [List.cons_append, List.nil_append] at hS)
            refine wl_op rfl rfl (ow_vr (vr_pick (b := true) (v := .bool _) rfl rfl) ?_)
            refine wl_op rfl rfl (ow_vr (vr_move (v := .bool _) rfl) ?_)
            refine wl_known 246 rfl (c := true) (by simp) ?_
            refine wl_yes rfl rfl rfl rfl rfl (ow_vr (vr_move (v := .pointer (some ⟨b71, 0, none⟩)) rfl) ?_)
            refine wl_yes rfl rfl rfl rfl rfl (ow_fn (vs := [.pointer (some ⟨b71, 0, none⟩)]) en_24 rfl hS (book_Apart hk2 hn3 Kept.none Kept.none) ?_)
            clear hS; rintro _ _ w rfl hS; (try simp only [List.cons_append, List.nil_append] at hS)
            refine wl_op rfl rfl (ow_vr (vr_pick (b := true) (v := .bool _) rfl rfl) ?_)
            refine wl_op rfl rfl (ow_vr (vr_assign (v := .bool _) rfl) ?_)
            refine wl_nil ?_
            refine hK28 _ _ ?_
            refine cw_ret ?_
            refine ret_one (fn := Try.f4) (n := 250) (t := 20) (.inl rfl) rfl rfl ?_
            subst hG; exact ⟨[], ⟨rfl, rfl⟩, hS.dropA.tail1.tail1.tail1.tail1.tail1.dropA.dropA⟩
          refine cw_seq fun K29 hK29 => ?_
          replace hS := hS.pt1
          refine cw_forget (F := fun g => (upd (upd (upd (upd (upd (upd (upd (upd (upd g 0 (.int .i64 no)) 2 (.int .i64 most)) 5 (.int .i64 ww)) 7 (.int .i64 spoil)) 8 (.int .i64 at_)) 9 (.int .u8 (c.toNat : Int))) 22 (.pointer (some ⟨b71, 0, none⟩))) 27 (vP)) 29 (vQ))) (reb (reb (reb (reb (reb (reb (reb (reb (reb rfl rfl) rfl) rfl) rfl) rfl) rfl) rfl) rfl) rfl) ?_
          intro g
          refine cw_region ?_
          refine wl_op rfl rfl (ow_vr (vr_move (v := vP) rfl) ?_)
          refine wl_op rfl rfl (ow_vr (vr_len_v (v := vP) Try.underlying57 rfl hvP) ?_)
          refine wl_op rfl rfl (ow_vr (vr_eql rfl rfl) ?_)
          refine wl_op rfl rfl (ow_vr (vr_move (v := .bool _) rfl) ?_)
          refine wl_split 130 rfl (fun hc => ?_) (fun hc => ?_)
          · (try simp only [decide_eq_true_eq, decide_eq_false_iff_not, Bool.not_eq_true, Bool.not_eq_false, Bool.not_eq_true', Bool.not_eq_false', Bool.and_eq_true, Bool.or_eq_true, Bool.and_eq_false_iff, Bool.or_eq_false_iff, Int.not_lt, Int.not_le, gt_iff_lt, ge_iff_le, ne_eq, Decidable.not_not, beq_iff_eq] at hc)
            have hg3 := hc; clear hc
            refine wl_yes rfl rfl rfl rfl rfl (ow_vr (vr_move (v := .int .i64 spoil) rfl) ?_)
            refine wl_yes rfl rfl rfl rfl rfl (ow_vr (vr_neq rfl rfl) ?_)
            refine wl_op rfl rfl (ow_vr (vr_pick (b := true) (v := .bool _) rfl rfl) ?_)
            refine wl_nil ?_
            refine hK29 _ _ ?_
            refine cw_cond rfl rfl (fun hc => ?_) (fun hc => ?_)
            · (try simp only [decide_eq_true_eq, decide_eq_false_iff_not, Bool.not_eq_true, Bool.not_eq_false, Bool.not_eq_true', Bool.not_eq_false', Bool.and_eq_true, Bool.or_eq_true, Bool.and_eq_false_iff, Bool.or_eq_false_iff, Int.not_lt, Int.not_le, gt_iff_lt, ge_iff_le, ne_eq, Decidable.not_not, beq_iff_eq] at hc)
              have hc3 := hc; clear hc
              refine cw_seq fun K30 hK30 => ?_
              have ht1 := Int.tmod_lt_of_pos at_ (show (0 : Int) < 96 by omega)
              have ht2 := Int.lt_tmod_of_pos at_ (show (0 : Int) < 96 by omega)
              have ht3 := Int.tmod_lt_of_pos (at_.tmod 96 + 96) (show (0 : Int) < 96 by omega)
              have ht4 := Int.tmod_nonneg (a := at_.tmod 96 + 96) (96 : Int) (by omega)
              obtain ⟨k, hk⟩ : ∃ k : Nat, (at_.tmod 96 + 96).tmod 96 = (k : Int) := ⟨((at_.tmod 96 + 96).tmod 96).toNat, by omega⟩
              obtain ⟨z, hz⟩ := get_lt (xs := A1) (k := k / 32) (by omega)
              have hz32 := hi1.1 z (List.mem_of_getElem? hz)
              refine cw_region ?_
              refine wl_op rfl rfl (ow_vr (vr_move (v := .int .i64 at_) rfl) ?_)
              refine wl_op rfl rfl (ow_vr (vr_remt rfl rfl (by omega)) ?_)
              first | (refine wl_op rfl rfl (ow_vr (vr_addi rfl rfl (by unfold inI64; omega)) ?_)) | (refine wl_op rfl rfl (ow_vr (vr_add rfl rfl) ?_))
              refine wl_op rfl rfl (ow_vr (vr_as (vr_remt rfl rfl (by omega)) (congrArg (Value.int .i64) hk)) ?_)
              refine wl_op rfl rfl (ow_vr (vr_assign (v := .int .i64 _) rfl) ?_)
              refine wl_nil ?_
              refine hK30 _ _ ?_
              refine cw_seq fun K31 hK31 => ?_
              refine cw_region ?_
              refine wl_op rfl rfl (ow_vr (vr_move (v := vP) rfl) ?_)
              refine wl_op rfl rfl (ow_vr (vr_move (v := .int .i64 _) rfl) ?_)
              refine wl_op rfl rfl (ow_vr (vr_as (v' := .int .i64 ((k / 32 : Nat) : Int)) (vr_quo rfl rfl (by omega) (by omega)) (i64_as (by omega))) ?_)
              refine wl_op rfl rfl (ow_vr (vr_indexV (v := vP) Try.underlying57 sz_9 rfl hvP rfl (by omega) (by omega)) ?_)
              refine wl_op rfl rfl (ow_lr (S := Sat _ _) (lr_loadV1 (u := str _) Try.underlying9 rfl rfl hvP (by repeat (first | exact List.mem_cons_self | assumption | refine List.mem_cons_of_mem _ ?_)) (hz) (by exact fun _ => rfl) (by rfl)) hS ?_)
              refine wl_op rfl rfl (ow_strBytes (xs := _) hS Try.underlying9 Try.underlying63 Try.underlying5 rfl ?_)
              clear hS; intro v143 D143 w ho143 hS
              refine wl_op rfl rfl (ow_vr (vr_assign (v := v143) rfl) ?_)
              refine wl_nil ?_
              refine hK31 _ _ ?_
              refine cw_seq fun K32 hK32 => ?_
              refine cw_region ?_
              refine wl_op rfl rfl (ow_vr (vr_move (v := v143) rfl) ?_)
              refine wl_op rfl rfl (ow_vr (vr_move (v := .int .i64 _) rfl) ?_)
              refine wl_op rfl rfl (ow_vr (vr_as (v' := .int .i64 ((k % 32 : Nat) : Int)) (vr_rem rfl rfl (by omega) (by omega)) (i64_as (by omega))) ?_)
              refine wl_op rfl rfl (ow_vr (vr_move (v := .int .u8 (c.toNat : Int)) rfl) ?_)
              first | (refine wl_op rfl rfl (ow_vr (vr_indexAddr Try.underlying63 sz_5 rfl rfl (by omega) (by omega)) ?_)) | (refine wl_op rfl rfl (ow_vr (vr_indexV (v := v143) Try.underlying63 sz_5 rfl (by first | assumption | (refine Own.view ?_ (by assumption); exact fun _ => rfl) | exact OwnB.view (by assumption)) rfl (by omega) (by first | omega | (simp <;> omega))) ?_))
              refine wl_op rfl rfl (ow_storeB (b' := c) hS sz_5 rfl rfl (by assumption) (by first | exact HasC.here | exact HasC.there (HasC.here) | exact HasC.there (HasC.there (HasC.here)) | exact HasC.there (HasC.there (HasC.there (HasC.here))) | exact HasC.there (HasC.there (HasC.there (HasC.there (HasC.here)))) | exact HasC.there (HasC.there (HasC.there (HasC.there (HasC.there (HasC.here))))) | exact HasC.there (HasC.there (HasC.there (HasC.there (HasC.there (HasC.there (HasC.here)))))) | exact HasC.there (HasC.there (HasC.there (HasC.there (HasC.there (HasC.there (HasC.there (HasC.here))))))) | exact HasC.there (HasC.there (HasC.there (HasC.there (HasC.there (HasC.there (HasC.there (HasC.there (HasC.here))))))))) (by omega) ?_)
              clear hS; intro D18_5 w ho18_5 hS
              refine wl_nil ?_
              refine hK32 _ _ ?_
              refine cw_seq fun K33 hK33 => ?_
              have hS := Sat.nilc.2 hS
              refine cw_region ?_
              refine wl_op rfl rfl (ow_vr (vr_move (v := vP) rfl) ?_)
              refine wl_op rfl rfl (ow_append (v := .slice none 0 0) (u := vP) (enc := encS) hS Try.underlying57 Try.underlying57 if_9 rfl (by decide) rfl rfl Own.nil hvP HasC.here (by repeat (first | exact List.mem_cons_self | assumption | refine List.mem_cons_of_mem _ ?_)) (by exact fun _ => rfl) (by exact fun _ => rfl) (by simp [maxLen]; omega) (by simp; omega) ?_)
              clear hS; intro v150 D150 w ho150 hS
              refine wl_op rfl rfl (ow_vr (vr_assign (v := v150) rfl) ?_)
              refine wl_nil ?_
              refine hK33 _ _ ?_
              refine cw_region ?_
              refine wl_op rfl rfl (ow_vr (vr_move (v := v150) rfl) ?_)
              refine wl_op rfl rfl (ow_vr (vr_move (v := .int .i64 _) rfl) ?_)
              refine wl_op rfl rfl (ow_vr (vr_as (v' := .int .i64 ((k / 32 : Nat) : Int)) (vr_quo rfl rfl (by omega) (by omega)) (i64_as (by omega))) ?_)
              refine wl_op rfl rfl (ow_vr (vr_move (v := v143) rfl) ?_)
              refine wl_op rfl rfl (ow_lr (S := Sat _ _) (lr_bytes_str Try.underlying63 Try.underlying5 Try.underlying9 rfl (by first | assumption | (refine Own.view ?_ (by assumption); exact fun _ => rfl) | exact OwnB.view (by assumption)) (by repeat (first | exact List.mem_cons_self | assumption | refine List.mem_cons_of_mem _ ?_))) hS ?_)
              first | (refine wl_op rfl rfl (ow_vr (vr_indexAddr Try.underlying57 sz_9 rfl rfl (by omega) (by omega)) ?_)) | (refine wl_op rfl rfl (ow_vr (vr_indexV (v := v150) Try.underlying57 sz_9 rfl (by first | assumption | (refine Own.view ?_ (by assumption); exact fun _ => rfl) | exact OwnB.view (by assumption)) rfl (by omega) (by first | omega | (simp <;> omega))) ?_))
              refine wl_op rfl rfl (ow_storeOwn (b' := z.set (k % 32) c) hS sz_9 rfl rfl rfl (by assumption) (by first | exact HasC.here | exact HasC.there (HasC.here) | exact HasC.there (HasC.there (HasC.here)) | exact HasC.there (HasC.there (HasC.there (HasC.here))) | exact HasC.there (HasC.there (HasC.there (HasC.there (HasC.here)))) | exact HasC.there (HasC.there (HasC.there (HasC.there (HasC.there (HasC.here))))) | exact HasC.there (HasC.there (HasC.there (HasC.there (HasC.there (HasC.there (HasC.here)))))) | exact HasC.there (HasC.there (HasC.there (HasC.there (HasC.there (HasC.there (HasC.there (HasC.here))))))) | exact HasC.there (HasC.there (HasC.there (HasC.there (HasC.there (HasC.there (HasC.there (HasC.there (HasC.here))))))))) (by exact hz) (by exact fun _ => rfl) (by decide) rfl ?_)
              clear hS; intro D20_6 w ho20_6 hS
              refine wl_nil ?_
              replace hS := hS.pt2
              refine hJK18 _ _ ⟨([] ++ A1).set (((k / 32 : Nat) : Int)).toNat (z.set (k % 32) c), v150, D20_6, [D18_5, DP, D69], _, (reb (reb (reb (reb (reb (reb rfl rfl) rfl) rfl) rfl) rfl) rfl), ?_, hS⟩
              first | exact ⟨ho20_6, by rw [List.length_set, List.nil_append]; exact hi1.2, by rw [List.nil_append]; exact set_len32 hi1.1 (by rw [List.length_set]; exact hi1.1 _ (List.mem_of_getElem? hz))⟩ | exact ⟨hoP, hi1.2, hi1.1⟩
            · (try simp only [decide_eq_true_eq, decide_eq_false_iff_not, Bool.not_eq_true, Bool.not_eq_false, Bool.not_eq_true', Bool.not_eq_false', Bool.and_eq_true, Bool.or_eq_true, Bool.and_eq_false_iff, Bool.or_eq_false_iff, Int.not_lt, Int.not_le, gt_iff_lt, ge_iff_le, ne_eq, Decidable.not_not, beq_iff_eq] at hc)
              have hc3 := hc; clear hc
              refine cw_skip ?_
              refine hJK18 _ _ ⟨A1, vP, DP, [D69], _, (reb (reb (reb (reb (reb (reb rfl rfl) rfl) rfl) rfl) rfl) rfl), ?_, hS⟩
              first | exact ⟨ho20_6, by rw [List.length_set, List.nil_append]; exact hi1.2, by rw [List.nil_append]; exact set_len32 hi1.1 (by rw [List.length_set]; exact hi1.1 _ (List.mem_of_getElem? hz))⟩ | exact ⟨hoP, hi1.2, hi1.1⟩
          · (try simp only [decide_eq_true_eq, decide_eq_false_iff_not, Bool.not_eq_true, Bool.not_eq_false, Bool.not_eq_true', Bool.not_eq_false', Bool.and_eq_true, Bool.or_eq_true, Bool.and_eq_false_iff, Bool.or_eq_false_iff, Int.not_lt, Int.not_le, gt_iff_lt, ge_iff_le, ne_eq, Decidable.not_not, beq_iff_eq] at hc)
            have hg3 := hc; clear hc
            refine wl_noD rfl rfl rfl rfl rfl rfl ?_
            refine wl_noD rfl rfl rfl rfl rfl rfl ?_
            refine wl_op rfl rfl (ow_vr (vr_pick (b := false) (v := .bool _) rfl rfl) ?_)
            refine wl_nil ?_
            refine hK29 _ _ ?_
            refine cw_cond_f rfl rfl (rfl) ?_
            refine cw_skip ?_
            refine hJK18 _ _ ⟨A1, vP, DP, [D69], _, (reb (reb (reb (reb (reb (reb rfl rfl) rfl) rfl) rfl) rfl) rfl), ?_, hS⟩
            first | exact ⟨ho20_6, by rw [List.length_set, List.nil_append]; exact hi1.2, by rw [List.nil_append]; exact set_len32 hi1.1 (by rw [List.length_set]; exact hi1.1 _ (List.mem_of_getElem? hz))⟩ | exact ⟨hoP, hi1.2, hi1.1⟩
        refine cw_seq fun K34 hK34 => ?_
        refine cw_region ?_
        refine wl_op rfl rfl (ow_vr (vr_move (v := .bool _) rfl) ?_)
        refine wl_op rfl rfl (ow_vr (vr_not rfl) ?_)
        refine wl_nil ?_
        refine hK34 _ _ ?_
        refine cw_cond rfl rfl (fun hc => ?_) (fun hc => ?_)
        · (try simp only [decide_eq_true_eq, decide_eq_false_iff_not, Bool.not_eq_true, Bool.not_eq_false, Bool.not_eq_true', Bool.not_eq_false', Bool.and_eq_true, Bool.or_eq_true, Bool.and_eq_false_iff, Bool.or_eq_false_iff, Int.not_lt, Int.not_le, gt_iff_lt, ge_iff_le, ne_eq, Decidable.not_not, beq_iff_eq] at hc)
          have hc1 := hc; clear hc
          refine cw_region ?_
          refine wl_op rfl rfl (ow_vr (vr_move (v := vl) rfl) ?_)
          refine wl_op rfl rfl (ow_fng (vs := [vl]) en_26 rfl hS (law_Sixteen l vl Δl hvl (by simp [maxLen]; omega)) (by repeat (first | exact needs0 | (refine needsC ?_ ?_; · (repeat (first | exact List.mem_cons_self | assumption | refine List.mem_cons_of_mem _ ?_))))) ?_)
          clear hS; rintro v65 _ w ⟨D65, rfl, ho65⟩ hS; (try simp only [List.cons_append, List.nil_append] at hS)
          refine wl_op rfl rfl (ow_vr (vr_move (v := vm) rfl) ?_)
          refine wl_op rfl rfl (ow_fng (vs := [vm]) en_26 rfl hS (law_Sixteen mm vm Δm hvm (by simp [maxLen]; omega)) (by repeat (first | exact needs0 | (refine needsC ?_ ?_; · (repeat (first | exact List.mem_cons_self | assumption | refine List.mem_cons_of_mem _ ?_))))) ?_)
          clear hS; rintro v67 _ w ⟨D67, rfl, ho67⟩ hS; (try simp only [List.cons_append, List.nil_append] at hS)
          refine wl_op rfl rfl (ow_vr (vr_assign (v := v65) rfl) ?_)
          refine wl_op rfl rfl (ow_vr (vr_assign (v := v67) rfl) ?_)
          refine wl_nil ?_
          refine hJK7 _ _ ⟨sixteenL l, sixteenL mm, v65, v67, D65, D67, [D67, D65], _, (reb (reb (reb (reb (reb (reb (reb (reb (reb rfl rfl) rfl) rfl) rfl) rfl) rfl) rfl) rfl) rfl), ?_, hS⟩
          first | exact ⟨⟨ho65.view (by exact fun _ => rfl), ho67.view (by exact fun _ => rfl), by rw [sixteen_length]; omega, by rw [sixteen_length]; omega⟩, by simp, by simp⟩ | exact ⟨⟨hvl, hvm, by omega, by omega⟩, hFl, hFm⟩
        · (try simp only [decide_eq_true_eq, decide_eq_false_iff_not, Bool.not_eq_true, Bool.not_eq_false, Bool.not_eq_true', Bool.not_eq_false', Bool.and_eq_true, Bool.or_eq_true, Bool.and_eq_false_iff, Bool.or_eq_false_iff, Int.not_lt, Int.not_le, gt_iff_lt, ge_iff_le, ne_eq, Decidable.not_not, beq_iff_eq] at hc)
          have hc1 := hc; clear hc
          refine cw_skip ?_
          refine hJK7 _ _ ⟨l, mm, vl, vm, Δl, Δm, [], _, (reb (reb (reb (reb (reb (reb (reb (reb (reb rfl rfl) rfl) rfl) rfl) rfl) rfl) rfl) rfl) rfl), ?_, hS⟩
          first | exact ⟨⟨ho65.view (by exact fun _ => rfl), ho67.view (by exact fun _ => rfl), by rw [sixteen_length]; omega, by rw [sixteen_length]; omega⟩, by simp, by simp⟩ | exact ⟨⟨hvl, hvm, by omega, by omega⟩, hFl, hFm⟩
end Go.Proofs.Ytjcagoighpmdkaa
