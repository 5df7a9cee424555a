/- The laws of chapter 4: pages. -/
import Derived.Test.YtjcagoighpmdkaaSame
import Derived.Test.YtjcagoighpmdkaaPage2
namespace Go.Proofs.Ytjcagoighpmdkaa
open Go Go.RowKit
set_option linter.unusedVariables false
set_option linter.unusedSimpArgs false
attribute [local irreducible] actF WL CW OW PL SW VR LR yes Returns Fn
/-! what a page's bytes tell -/
theorem foldP_flat (cs : List Int) (h : cs.all okN = true) : ∀ c : List UInt8, foldP c cs = c ++ cs.flatMap fun x => putB x.toNat 4 := by
  induction cs with
  | nil => intro c; simp [foldP]
  | cons x l ih =>
    intro c
    simp only [List.all_cons, Bool.and_eq_true, okN, decide_eq_true_eq] at h
    have hx : putI x 4 = putB x.toNat 4 := by rw [putI, if_neg (by omega)]; rfl
    show foldP (c ++ putI x 4) l = _
    rw [ih (by simpa [okN] using h.2), hx, List.flatMap_cons, List.append_assoc]
theorem flat4_length (cs : List Int) : (cs.flatMap fun x => putB x.toNat 4).length = 4 * cs.length := by
  induction cs with
  | nil => rfl
  | cons x l ih => rw [List.flatMap_cons, List.length_append, putB_length, ih, List.length_cons]; omega
theorem cut_flat (z : List UInt8) : ∀ (cs : List Int) (j : Nat) (x : Int), cs[j]? = some x → cutB ((cs.flatMap fun x => putB x.toNat 4) ++ z) (4 * j) (4 * j + 4) = putB x.toNat 4
  | [], j, x, h => by cases h
  | y :: l, 0, x, h => by
    cases h
    rw [List.flatMap_cons, List.append_assoc]
    exact cutB_mid (a := []) rfl rfl (by rw [putB_length]; rfl)
  | y :: l, j + 1, x, h => by
    rw [List.getElem?_cons_succ] at h
    have ih := cut_flat z l j x h
    rw [List.flatMap_cons, List.append_assoc]
    rw [← ih, cutB, cutB, show 4 * (j + 1) + 4 = (putB y.toNat 4).length + (4 * j + 4) by rw [putB_length]; omega, show 4 * (j + 1) = (putB y.toNat 4).length + 4 * j by rw [putB_length]; omega]
    rw [List.take_length_add_append, List.drop_length_add_append]
theorem okN_spec {x : Int} (h : okN x = true) : 0 ≤ x ∧ x < 4294967296 := by simpa [okN] using h
theorem read_all {no v : Int} {cs : List Int} (h : okPg no v cs = true) : noR (allP no v cs) = no ∧ vR (allP no v cs) = v ∧ cellsR (allP no v cs) = cs := by
  obtain ⟨h1, h2, h3, h4⟩ := okPg_spec h
  have e1 : putI no 4 = putB no.toNat 4 := by rw [putI, if_neg (by omega)]; rfl
  have e2 : putI v 4 = putB v.toNat 4 := by rw [putI, if_neg (by omega)]; rfl
  obtain ⟨z, hz⟩ : ∃ z, allP no v cs = (((no :: v :: cs).flatMap fun x => putB x.toNat 4) ++ z) := by
    rw [all_eq h, sealedB, padB, rawP, foldP_flat cs h4, e1, e2]
    exact ⟨List.replicate 20 0 ++ putB (sumB (putB no.toNat 4 ++ putB v.toNat 4 ++ (cs.flatMap fun x => putB x.toNat 4) ++ List.replicate 20 0)) 4, by simp only [List.flatMap_cons, List.append_assoc]⟩
  have at_ : ∀ (j : Nat) (x : Int), (no :: v :: cs)[j]? = some x → okN x = true → (getB (cutB (allP no v cs) (4 * j) (4 * j + 4)) : Int) = x := fun j x hj hx => by
    rw [hz, cut_flat z _ j x hj]
    have := okN_spec hx
    exact get_put (by omega) (by omega) (by omega)
  refine ⟨at_ 0 no rfl (by simp [okN]; omega), at_ 1 v rfl (by simp [okN]; omega), ?_⟩
  apply List.ext_getElem?
  intro j
  rw [cellsR, List.getElem?_map]
  rcases Nat.lt_or_ge j 16 with hj | hj
  · obtain ⟨x, hx⟩ := get_lt (xs := cs) (k := j) (by omega)
    rw [List.getElem?_range hj, hx]
    have := at_ (2 + j) x (by rw [show 2 + j = j + 1 + 1 by omega, List.getElem?_cons_succ, List.getElem?_cons_succ]; exact hx) (List.all_eq_true.1 h4 x (List.mem_of_getElem? hx))
    simp only [Option.map_some, cellR, this]
  · rw [List.getElem?_eq_none (by simp; omega), List.getElem?_eq_none (by omega)]; rfl
theorem getP_pages {no v : Int} {cs : List Int} (h : okPg no v cs = true) : getOkP (pagesB (allP no v cs)) = true := by
  obtain ⟨h1, h2, h3⟩ := read_all h
  have hl := all_length h
  simp only [getOkP, pages_flat hl, h1, h2, h3, h, Bool.and_eq_true, decide_eq_true_eq, and_true]
  exact ⟨rfl, hl⟩
theorem pages_inj {no v m w : Int} {a b : List Int} (h : okPg no v a = true) (h2 : okPg m w b = true) : pagesB (allP no v a) = pagesB (allP m w b) ↔ no = m ∧ v = w ∧ a = b := by
  constructor
  · intro e
    have e2 := congrArg List.flatten e
    rw [pages_flat (all_length h), pages_flat (all_length h2)] at e2
    obtain ⟨x1, x2, x3⟩ := read_all h
    obtain ⟨y1, y2, y3⟩ := read_all h2
    rw [e2] at x1 x2 x3
    exact ⟨x1.symm.trans y1, x2.symm.trans y2, x3.symm.trans y3⟩
  · rintro ⟨rfl, rfl, rfl⟩; rfl
/-! sixteen cells -/
theorem set_atG {α : Type} {xs : List α} {b c : α} {k n : Nat} (hk : xs.length = k) (hn : k < n) : (xs ++ List.replicate (n - k) c).set k b = (xs ++ [b]) ++ List.replicate (n - (k + 1)) c := by
  obtain ⟨r, rfl⟩ : ∃ r, n = k + 1 + r := ⟨n - (k + 1), by omega⟩
  rw [show k + 1 + r - k = r + 1 by omega, show k + 1 + r - (k + 1) = r by omega, List.replicate_succ, List.set_append_right _ _ (by omega), hk]
  simp
theorem at_repG {α : Type} {xs : List α} {c : α} {k n : Nat} (hk : xs.length = k) (hn : k < n) : (xs ++ List.replicate (n - k) c)[k]? = some c := by
  rw [List.getElem?_append_right (by omega), hk, Nat.sub_self, List.getElem?_replicate, if_pos (by omega)]
def sixteenL (l : List Int) : List Int := l.take 16 ++ List.replicate (16 - l.length) 0
theorem sixteen_length (l : List Int) : (sixteenL l).length = 16 := by rw [sixteenL, List.length_append, List.length_take, List.length_replicate]; omega
theorem sixteen_fin {l : List Int} {i : Nat} (h : i ≤ 16) (h2 : i ≤ l.length) (h3 : i = 16 ∨ i = l.length) : l.take i ++ List.replicate (16 - i) 0 = sixteenL l := by
  rw [sixteenL]
  rcases h3 with rfl | rfl
  · rw [show 16 - l.length = 0 by omega]
  · rw [List.take_length, List.take_of_length_le h]
theorem law_Sixteen (l : List Int) (v : Value) (Δ : Chunk) (hv : View 1 encI v l Δ) (hn : l.length ≤ maxLen) : FnG Try.prog 26 [v] [Δ] (fun u Δs => ∃ D, Δs = [D] ∧ Own 3 1 encI u (sixteenL l) D) := by
  refine FnG.mk fun E F w hS hF => ?_
  have hF0 : Δ ∈ F := hF _ (by simp)
  refine returns_enter Try.func26 rfl Try.ntmps26 rfl ?_
  refine cw_seq fun K1 hK1 => ?_
  refine cw_region ?_
  refine wl_op rfl rfl (ow_vr (vr_assign (v := .slice none 0 0) rfl) ?_)
  refine wl_nil ?_
  refine hK1 _ _ ?_
  refine cw_seq fun K2 hK2 => ?_
  refine cw_region ?_
  refine wl_op rfl rfl (ow_makeSlice1 (n := 16) hS Try.underlying55 if_3 rfl rfl rfl (by omega) (by omega) ?_)
  clear hS; intro b5 w hS
  refine wl_op rfl rfl (ow_vr (vr_assign (v := .slice _ _ _) rfl) ?_)
  refine wl_nil ?_
  have ho : Own 3 1 encI (.slice (some ⟨b5, 0, none⟩) 16 16) (l.take 0 ++ List.replicate (16 - 0) 0) [(b5, .cells (List.replicate 16 (.int .i64 0)).toArray 3 (0, 0))] := Own.zeros rfl (by decide)
  generalize hD : [(b5, Obj.cells (List.replicate 16 (Value.int IntKind.i64 0)).toArray 3 (0, 0))] = D0 at ho hS
  clear hD
  refine hK2 _ _ ?_
  refine cw_seq fun K3 hK3 => ?_
  refine cw_seq fun K4 hK4 => ?_
  refine cw_region ?_
  refine wl_op rfl rfl (ow_vr (vr_assign (v := .int .i64 0) rfl) ?_)
  refine wl_nil ?_
  refine hK4 _ _ ?_
  refine cw_block ?_
  refine cw_loop (fun m f w => ∃ (i : Nat) (v3 : Value) (D3 : Chunk) (g : Nat → Value), f = (upd (upd (upd g 0 (v)) 3 (v3)) 4 (.int .i64 (i : Int))) ∧ ((i ≤ 16 ∧ i ≤ l.length) ∧ Own 3 1 encI v3 (l.take i ++ List.replicate (16 - i) 0) D3) ∧ m = 16 - i ∧ Sat E (D3 :: F) w) ⟨0, _, D0, _, (reb (reb (reb rfl rfl) rfl) rfl), ?_, rfl, hS⟩ ?_
  · exact ⟨by omega, ho⟩
  clear hS; rintro m f w ⟨i, v3, D3, g, rfl, hI0, rfl, hS⟩
  obtain ⟨hi, ho3⟩ := hI0
  have htl : (l.take i).length = i := by rw [List.length_take]; omega
  have hxl : (l.take i ++ List.replicate (16 - i) (0 : Int)).length = 16 := by rw [List.length_append, htl, List.length_replicate]; omega
  have hvv := Own.view (by exact fun _ => rfl) ho3
  refine cw_seq fun K5 hK5 => ?_
  refine cw_seq fun K6 hK6 => ?_
  refine cw_region ?_
  refine wl_op rfl rfl (ow_vr (vr_move (v := .int .i64 (i : Int)) rfl) ?_)
  refine wl_op rfl rfl (ow_vr (vr_move (v := v) rfl) ?_)
  first | (refine wl_op rfl rfl (ow_vr (vr_len_sl Try.underlying55 rfl) ?_)) | (refine wl_op rfl rfl (ow_vr (vr_len_v (v := v) Try.underlying55 rfl (by first | assumption | (refine Own.view ?_ (by assumption); exact fun _ => rfl) | exact OwnB.view (by assumption))) ?_))
  refine wl_op rfl rfl (ow_vr (vr_lss rfl rfl) ?_)
  refine wl_op rfl rfl (ow_vr (vr_move (v := .bool _) rfl) ?_)
  refine wl_split 10 rfl (fun hc => ?_) (fun hc => ?_)
  · (try simp only [decide_eq_true_eq, decide_eq_false_iff_not, Bool.not_eq_true, Bool.not_eq_false, Bool.not_eq_true', Bool.not_eq_false', Bool.and_eq_true, Bool.or_eq_true, Bool.and_eq_false_iff, Bool.or_eq_false_iff, Int.not_lt, Int.not_le, gt_iff_lt, ge_iff_le, ne_eq, Decidable.not_not, beq_iff_eq] at hc)
    have hg10 := hc; clear hc
    refine wl_yes rfl rfl rfl rfl rfl (ow_vr (vr_move (v := .int .i64 (i : Int)) rfl) ?_)
    refine wl_yes rfl rfl rfl rfl rfl (ow_vr (vr_move (v := v3) rfl) ?_)
    refine wl_yes rfl rfl rfl rfl rfl (ow_vr (vr_len_v (v := v3) Try.underlying55 rfl hvv) ?_)
    refine wl_yes rfl rfl rfl rfl rfl (ow_vr (vr_lss rfl rfl) ?_)
    refine wl_op rfl rfl (ow_vr (vr_pick (b := true) (v := .bool _) rfl rfl) ?_)
    refine wl_nil ?_
    refine hK6 _ _ ?_
    refine cw_cond rfl rfl (fun hc => ?_) (fun hc => ?_)
    · (try simp only [decide_eq_true_eq, decide_eq_false_iff_not, Bool.not_eq_true, Bool.not_eq_false, Bool.not_eq_true', Bool.not_eq_false', Bool.and_eq_true, Bool.or_eq_true, Bool.and_eq_false_iff, Bool.or_eq_false_iff, Int.not_lt, Int.not_le, gt_iff_lt, ge_iff_le, ne_eq, Decidable.not_not, beq_iff_eq] at hc)
      have hc0 := hc; clear hc
      refine cw_skip ?_
      refine hK5 _ _ ?_
      refine cw_seq fun K7 hK7 => ?_
      refine cw_block ?_
      obtain ⟨x, hx⟩ := get_lt (xs := l) (k := i) (by omega)
      refine cw_region ?_
      refine wl_op rfl rfl (ow_vr (vr_move (v := v3) rfl) ?_)
      refine wl_op rfl rfl (ow_vr (vr_move (v := .int .i64 (i : Int)) rfl) ?_)
      refine wl_op rfl rfl (ow_vr (vr_move (v := v) rfl) ?_)
      refine wl_op rfl rfl (ow_vr (vr_move (v := .int .i64 (i : Int)) rfl) ?_)
      refine wl_op rfl rfl (ow_vr (vr_indexV (v := v) Try.underlying55 sz_3 rfl hv rfl (by omega) (by omega)) ?_)
      refine wl_op rfl rfl (ow_lr (S := Sat _ _) (lr_loadV1 (u := .int .i64 _) Try.underlying3 rfl rfl hv (by repeat (first | exact List.mem_cons_self | assumption | refine List.mem_cons_of_mem _ ?_)) (hx) (by exact fun _ => rfl) (by rfl)) hS ?_)
      refine wl_op rfl rfl (ow_vr (vr_indexV (v := v3) Try.underlying55 sz_3 rfl hvv rfl (by omega) (by omega)) ?_)
      refine wl_op rfl rfl (ow_storeOwn (b' := x) hS sz_3 rfl rfl rfl (by assumption) (by first | exact HasC.here | exact HasC.there (HasC.here) | exact HasC.there (HasC.there (HasC.here)) | exact HasC.there (HasC.there (HasC.there (HasC.here))) | exact HasC.there (HasC.there (HasC.there (HasC.there (HasC.here)))) | exact HasC.there (HasC.there (HasC.there (HasC.there (HasC.there (HasC.here))))) | exact HasC.there (HasC.there (HasC.there (HasC.there (HasC.there (HasC.there (HasC.here)))))) | exact HasC.there (HasC.there (HasC.there (HasC.there (HasC.there (HasC.there (HasC.there (HasC.here))))))) | exact HasC.there (HasC.there (HasC.there (HasC.there (HasC.there (HasC.there (HasC.there (HasC.there (HasC.here))))))))) (at_repG htl (by omega)) (by exact fun _ => rfl) (by decide) rfl ?_)
      clear hS; intro D5_7 w ho5_7 hS
      refine wl_nil ?_
      refine hK7 _ _ ?_
      refine cw_region ?_
      refine wl_op rfl rfl (ow_vr (vr_move (v := .int .i64 (i : Int)) rfl) ?_)
      first | (refine wl_op rfl rfl (ow_vr (vr_addi rfl rfl (by unfold inI64; omega)) ?_)) | (refine wl_op rfl rfl (ow_vr (vr_add rfl rfl) ?_))
      refine wl_op rfl rfl (ow_vr (vr_assign (v := .int .i64 _) rfl) ?_)
      refine wl_nil ?_
      refine thenF_normal ⟨_, ?_, i + 1, v3, D5_7, _, (reb (reb (reb rfl rfl) rfl) rfl), ?_, rfl, hS⟩
      · omega
      · exact ⟨by omega, by rw [take_snoc hx, ← set_atG htl (by omega)]; exact ho5_7⟩
    · (try simp only [decide_eq_true_eq, decide_eq_false_iff_not, Bool.not_eq_true, Bool.not_eq_false, Bool.not_eq_true', Bool.not_eq_false', Bool.and_eq_true, Bool.or_eq_true, Bool.and_eq_false_iff, Bool.or_eq_false_iff, Int.not_lt, Int.not_le, gt_iff_lt, ge_iff_le, ne_eq, Decidable.not_not, beq_iff_eq] at hc)
      have hc0 := hc; clear hc
      refine cw_exit ?_
      refine hK3 _ _ ?_
      refine cw_seq fun K8 hK8 => ?_
      have hfin : l.take i ++ List.replicate (16 - i) 0 = sixteenL l := sixteen_fin (by omega) (by omega) (by omega)
      refine cw_region ?_
      refine wl_op rfl rfl (ow_vr (vr_move (v := v3) rfl) ?_)
      refine wl_op rfl rfl (ow_vr (vr_assign (v := v3) rfl) ?_)
      refine wl_nil ?_
      refine hK8 _ _ ?_
      refine cw_ret ?_
      refine ret_one (fn := Try.f26) (n := 26) (t := 2) (.inl rfl) rfl rfl ?_
      exact ⟨[D3], ⟨D3, rfl, by rw [← hfin]; exact ho3⟩, hS⟩
  · (try simp only [decide_eq_true_eq, decide_eq_false_iff_not, Bool.not_eq_true, Bool.not_eq_false, Bool.not_eq_true', Bool.not_eq_false', Bool.and_eq_true, Bool.or_eq_true, Bool.and_eq_false_iff, Bool.or_eq_false_iff, Int.not_lt, Int.not_le, gt_iff_lt, ge_iff_le, ne_eq, Decidable.not_not, beq_iff_eq] at hc)
    have hg10 := hc; clear hc
    refine wl_noD rfl rfl rfl rfl rfl rfl ?_
    refine wl_noD rfl rfl rfl rfl rfl rfl ?_
    refine wl_noD rfl rfl rfl rfl rfl rfl ?_
    refine wl_noD rfl rfl rfl rfl rfl rfl ?_
    refine wl_op rfl rfl (ow_vr (vr_pick (b := false) (v := .bool _) rfl rfl) ?_)
    refine wl_nil ?_
    refine hK6 _ _ ?_
    refine cw_cond_f rfl rfl (rfl) ?_
    refine cw_exit ?_
    refine hK3 _ _ ?_
    refine cw_seq fun K9 hK9 => ?_
    have hfin : l.take i ++ List.replicate (16 - i) 0 = sixteenL l := sixteen_fin (by omega) (by omega) (by omega)
    refine cw_region ?_
    refine wl_op rfl rfl (ow_vr (vr_move (v := v3) rfl) ?_)
    refine wl_op rfl rfl (ow_vr (vr_assign (v := v3) rfl) ?_)
    refine wl_nil ?_
    refine hK9 _ _ ?_
    refine cw_ret ?_
    refine ret_one (fn := Try.f26) (n := 26) (t := 2) (.inl rfl) rfl rfl ?_
    exact ⟨[D3], ⟨D3, rfl, by rw [← hfin]; exact ho3⟩, hS⟩
def cs0 : List Int := (List.replicate 16 0).set 3 7
theorem alive4 : FnV Try.prog 25 [] (.bool true) := by
  refine FnV.mk fun E F w hS => ?_
  have hok : okPg 3 4 cs0 = true := by decide
  have hgp := getP_pages hok
  have hra := read_all hok
  have hfl := pages_flat (all_length hok)
  have ha1 : atOk 3 4 (pagesB (allP 3 4 cs0)) = true := by simp [atOk, hgp, hfl, hra]
  have ha2 : atOk 3 5 (pagesB (allP 3 4 cs0)) = false := by simp [atOk, hgp, hfl, hra]
  have hfll : (pagesB (allP 3 4 cs0)).flatten.length ≤ 1000000 := by rw [hfl, all_length hok]; omega
  refine returns_enter Try.func25 rfl Try.ntmps25 rfl ?_
  refine cw_seq fun K1 hK1 => ?_
  refine cw_region ?_
  refine wl_op rfl rfl (ow_vr (vr_assign (v := .bool false) rfl) ?_)
  refine wl_nil ?_
  refine hK1 _ _ ?_
  refine cw_seq fun K2 hK2 => ?_
  refine cw_region ?_
  refine wl_op rfl rfl (ow_makeSlice1 (n := 16) hS Try.underlying55 if_3 rfl rfl rfl (by omega) (by omega) ?_)
  clear hS; intro b8 w hS
  refine wl_op rfl rfl (ow_vr (vr_assign (v := .slice _ _ _) rfl) ?_)
  refine wl_nil ?_
  have ho : Own 3 1 encI (.slice (some ⟨b8, 0, none⟩) 16 16) (List.replicate 16 0) [(b8, .cells (List.replicate 16 (.int .i64 0)).toArray 3 (0, 0))] := Own.zeros rfl (by decide)
  generalize hD : [(b8, Obj.cells (List.replicate 16 (Value.int IntKind.i64 0)).toArray 3 (0, 0))] = D0 at ho hS
  clear hD
  generalize Value.slice (some ⟨b8, 0, none⟩) 16 16 = v8 at ho ⊢
  refine hK2 _ _ ?_
  refine cw_seq fun K3 hK3 => ?_
  refine cw_region ?_
  refine wl_op rfl rfl (ow_vr (vr_move (v := v8) rfl) ?_)
  refine wl_op rfl rfl (ow_vr (vr_indexV (v := v8) Try.underlying55 sz_3 rfl (Own.view (by exact fun _ => rfl) ho) rfl (by omega) (by simp)) ?_)
  refine wl_op rfl rfl (ow_storeOwn (b' := 7) hS sz_3 rfl rfl rfl (by assumption) (by first | exact HasC.here | exact HasC.there (HasC.here) | exact HasC.there (HasC.there (HasC.here)) | exact HasC.there (HasC.there (HasC.there (HasC.here))) | exact HasC.there (HasC.there (HasC.there (HasC.there (HasC.here)))) | exact HasC.there (HasC.there (HasC.there (HasC.there (HasC.there (HasC.here))))) | exact HasC.there (HasC.there (HasC.there (HasC.there (HasC.there (HasC.there (HasC.here)))))) | exact HasC.there (HasC.there (HasC.there (HasC.there (HasC.there (HasC.there (HasC.there (HasC.here))))))) | exact HasC.there (HasC.there (HasC.there (HasC.there (HasC.there (HasC.there (HasC.there (HasC.there (HasC.here))))))))) ((rfl : (List.replicate 16 (0 : Int))[(3 : Int).toNat]? = some 0)) (by exact fun _ => rfl) (by decide) rfl ?_)
  clear hS; intro D2_2 w ho2_2 hS
  refine wl_nil ?_
  replace ho2_2 : Own 3 1 encI v8 cs0 D2_2 := ho2_2
  refine hK3 _ _ ?_
  refine cw_seq fun K4 hK4 => ?_
  refine cw_region ?_
  refine wl_op rfl rfl (ow_vr (vr_move (v := v8) rfl) ?_)
  refine wl_op rfl rfl (ow_fng (vs := [.int .i64 _, .int .i64 _, v8]) en_28 rfl hS (page_Put 3 4 cs0 _ _ (Own.view (by exact fun _ => rfl) ho2_2)) (by repeat (first | exact needs0 | (refine needsC ?_ ?_; · (repeat (first | exact List.mem_cons_self | assumption | refine List.mem_cons_of_mem _ ?_))))) ?_)
  clear hS; rintro v13 _ w ⟨vp, Dp, rfl, rfl, hop⟩ hS; (try simp only [List.cons_append, List.nil_append] at hS)
  rw [hok, if_pos rfl] at hop
  refine wl_op rfl rfl (ow_vr (vr_move (v := .tuple _) rfl) ?_)
  refine wl_op rfl rfl (ow_vr (vr_extract (v := vp) rfl rfl) ?_)
  refine wl_op rfl rfl (ow_vr (vr_extract (v := .bool _) rfl rfl) ?_)
  refine wl_op rfl rfl (ow_vr (vr_assign (v := vp) rfl) ?_)
  refine wl_op rfl rfl (ow_vr (vr_assign (v := .bool _) rfl) ?_)
  refine wl_nil ?_
  refine hK4 _ _ ?_
  refine cw_seq fun K5 hK5 => ?_
  refine cw_seq fun K6 hK6 => ?_
  refine cw_region ?_
  refine wl_op rfl rfl (ow_vr (vr_move (v := .bool _) rfl) ?_)
  refine wl_op rfl rfl (ow_vr (vr_not rfl) ?_)
  refine wl_op rfl rfl (ow_vr (vr_move (v := .bool _) rfl) ?_)
  refine wl_known 18 rfl (c := false) (by simp [hok]) ?_
  refine wl_yes rfl rfl rfl rfl rfl (ow_vr (vr_move (v := vp) rfl) ?_)
  first | (refine wl_yes rfl rfl rfl rfl rfl (ow_vr (vr_len_sl Try.underlying57 rfl) ?_)) | (refine wl_yes rfl rfl rfl rfl rfl (ow_vr (vr_len_v (v := vp) Try.underlying57 rfl (by first | assumption | (refine Own.view ?_ (by assumption); exact fun _ => rfl) | exact OwnB.view (by assumption))) ?_))
  refine wl_yes rfl rfl rfl rfl rfl (ow_vr (vr_neq rfl rfl) ?_)
  refine wl_op rfl rfl (ow_vr (vr_pick (b := false) (v := .bool _) rfl rfl) ?_)
  refine wl_nil ?_
  refine hK6 _ _ ?_
  refine cw_cond_f rfl rfl (rfl) ?_
  refine cw_skip ?_
  refine hK5 _ _ ?_
  refine cw_seq fun K7 hK7 => ?_
  refine cw_region ?_
  refine wl_op rfl rfl (ow_vr (vr_move (v := vp) rfl) ?_)
  refine wl_op rfl rfl (ow_fng (vs := [.int .i64 _, .int .i64 _, vp]) en_36 rfl hS (page_At 3 4 (pagesB (allP 3 4 cs0)) _ _ (Own.view (by exact fun _ => rfl) hop) (by simp [pagesB]) hfll) (by repeat (first | exact needs0 | (refine needsC ?_ ?_; · (repeat (first | exact List.mem_cons_self | assumption | refine List.mem_cons_of_mem _ ?_))))) ?_)
  clear hS; rintro v25 _ w ⟨va, Da, rfl, rfl, hoa⟩ hS; (try simp only [List.cons_append, List.nil_append] at hS)
  rw [ha1, if_pos rfl, hfl, hra.2.2] at hoa
  refine wl_op rfl rfl (ow_vr (vr_move (v := .tuple _) rfl) ?_)
  refine wl_op rfl rfl (ow_vr (vr_extract (v := va) rfl rfl) ?_)
  refine wl_op rfl rfl (ow_vr (vr_extract (v := .bool _) rfl rfl) ?_)
  refine wl_op rfl rfl (ow_vr (vr_assign (v := va) rfl) ?_)
  refine wl_op rfl rfl (ow_vr (vr_assign (v := .bool _) rfl) ?_)
  refine wl_nil ?_
  refine hK7 _ _ ?_
  refine cw_seq fun K8 hK8 => ?_
  refine cw_region ?_
  refine wl_op rfl rfl (ow_vr (vr_move (v := vp) rfl) ?_)
  refine wl_op rfl rfl (ow_fng (vs := [.int .i64 _, .int .i64 _, vp]) en_36 rfl hS (page_At 3 5 (pagesB (allP 3 4 cs0)) _ _ (Own.view (by exact fun _ => rfl) hop) (by simp [pagesB]) hfll) (by repeat (first | exact needs0 | (refine needsC ?_ ?_; · (repeat (first | exact List.mem_cons_self | assumption | refine List.mem_cons_of_mem _ ?_))))) ?_)
  clear hS; rintro v30 _ w ⟨vb, Db, rfl, rfl, hob⟩ hS; (try simp only [List.cons_append, List.nil_append] at hS)
  refine wl_op rfl rfl (ow_vr (vr_move (v := .tuple _) rfl) ?_)
  refine wl_op rfl rfl (ow_vr (vr_extract (v := vb) rfl rfl) ?_)
  refine wl_op rfl rfl (ow_vr (vr_extract (v := .bool _) rfl rfl) ?_)
  refine wl_op rfl rfl (ow_vr (vr_assign (v := vb) rfl) ?_)
  refine wl_op rfl rfl (ow_vr (vr_assign (v := .bool _) rfl) ?_)
  refine wl_nil ?_
  refine hK8 _ _ ?_
  refine cw_seq fun K9 hK9 => ?_
  refine cw_region ?_
  refine wl_op rfl rfl (ow_vr (vr_move (v := .bool _) rfl) ?_)
  refine wl_op rfl rfl (ow_vr (vr_move (v := .bool _) rfl) ?_)
  refine wl_known 34 rfl (c := true) (ha1) ?_
  refine wl_yes rfl rfl rfl rfl rfl (ow_vr (vr_move (v := .bool _) rfl) ?_)
  refine wl_yes rfl rfl rfl rfl rfl (ow_vr (vr_not rfl) ?_)
  refine wl_op rfl rfl (ow_vr (vr_pick (b := true) (v := .bool _) rfl rfl) ?_)
  refine wl_op rfl rfl (ow_vr (vr_move (v := .bool _) rfl) ?_)
  refine wl_known 38 rfl (c := true) (by simp [ha2]) ?_
  refine wl_yes rfl rfl rfl rfl rfl (ow_vr (vr_move (v := va) rfl) ?_)
  refine wl_yes rfl rfl rfl rfl rfl (ow_vr (vr_len_v (v := va) Try.underlying55 rfl (Own.view (by exact fun _ => rfl) hoa)) ?_)
  refine wl_yes rfl rfl rfl rfl rfl (ow_vr (vr_eql rfl rfl) ?_)
  refine wl_op rfl rfl (ow_vr (vr_pick (b := true) (v := .bool _) rfl rfl) ?_)
  refine wl_op rfl rfl (ow_vr (vr_move (v := .bool _) rfl) ?_)
  refine wl_known 43 rfl (c := true) (by decide) ?_
  refine wl_yes rfl rfl rfl rfl rfl (ow_vr (vr_move (v := va) rfl) ?_)
  refine wl_yes rfl rfl rfl rfl rfl (ow_vr (vr_indexV (v := va) Try.underlying55 sz_3 rfl (Own.view (by exact fun _ => rfl) hoa) rfl (by omega) (by decide)) ?_)
  refine wl_yes rfl rfl rfl rfl rfl (ow_lr (S := Sat _ _) (lr_loadV1 (u := .int .i64 _) Try.underlying3 rfl rfl (Own.view (by exact fun _ => rfl) hoa) (by repeat (first | exact List.mem_cons_self | assumption | refine List.mem_cons_of_mem _ ?_)) ((rfl : cs0[(3 : Int).toNat]? = some 7)) (by exact fun _ => rfl) (by rfl)) hS ?_)
  refine wl_yes rfl rfl rfl rfl rfl (ow_vr (vr_eql rfl rfl) ?_)
  refine wl_op rfl rfl (ow_vr (vr_pick (b := true) (v := .bool _) rfl rfl) ?_)
  refine wl_op rfl rfl (ow_vr (vr_assign (v := .bool _) rfl) ?_)
  refine wl_nil ?_
  refine hK9 _ _ ?_
  refine cw_ret ?_
  refine ret_one (fn := Try.f25) (n := 49) (t := 0) (.inl rfl) rfl rfl ?_
  exact ⟨rfl, hS.tail1.tail1.tail1.tail1⟩
end Go.Proofs.Ytjcagoighpmdkaa
