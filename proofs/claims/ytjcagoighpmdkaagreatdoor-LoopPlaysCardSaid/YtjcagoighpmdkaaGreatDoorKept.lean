/- Lists of lists: each inner list is the call's own; appends of which the elder one is looked at too; a whole thing is written; a slice cut up to its room. -/
import Derived.Test.YtjcagoighpmdkaaGreatDoorSlice
import Derived.Test.YtjcagoighpmdkaaGreatDoorBytes
namespace Go.Proofs.YtjcagoighpmdkaaGreatDoor
open Go Go.RowKit
set_option linter.unusedVariables false
set_option linter.unusedSimpArgs false
theorem cw_forget {P : Program} {n : Nat} {c : Code} {Q : Exit → (Nat → Value) → World → Prop} {f : Nat → Value} {w : World} {F : (Nat → Value) → Nat → Value} (h : f = F f) (hc : ∀ g, CW P n c Q (F g) w) : CW P n c Q f w := by rw [h]; exact hc f
theorem thenF_exit {K : (Nat → Value) → World → Prop} {Q : Exit → (Nat → Value) → World → Prop} {i : Nat} {f : Nat → Value} {w : World} (h : Q (.exit i) f w) : thenF K Q (.exit i) f w := h
theorem inB_exit {i : Nat} {Q : Exit → (Nat → Value) → World → Prop} {f : Nat → Value} {w : World} (h : Q .normal f w) : inB i Q (.exit i) f w := by
  have : Nat.beq i i = true := by simp
  simp only [inB, this, cond_true]; exact h
theorem inB_other {i j : Nat} {Q : Exit → (Nat → Value) → World → Prop} {f : Nat → Value} {w : World} (e : Nat.beq j i = false) (h : Q (.exit j) f w) : inB i Q (.exit j) f w := by
  simp only [inB, e, cond_false]; exact h
theorem Fn.toM {P : Program} {N : FuncId} {args : List Value} {Γ : List Chunk} {R : Value → List Chunk → Prop} (h : Fn P N args Γ R) : FnM P N args Γ [] R := FnM.mk fun E F w hS _ => h E F w hS
abbrev Sl := Option Addr × Nat × Nat
def slv (s : Sl) : Value := .slice s.1 s.2.1 s.2.2
def encSl (s : Sl) : List Value := [slv s]
section
variable {α : Type} {m : Nat} {enc : α → List Value} {v : Value} {xs : List α} {Δ : Chunk}
theorem Own.sl {T : TypeId} (h : Own T m enc v xs Δ) : ∃ s, v = slv s := by
  rcases h with ⟨rfl, _⟩ | ⟨g, cap, rest, rfl, _⟩
  · exact ⟨(none, 0, 0), rfl⟩
  · exact ⟨(some ⟨g, 0, none⟩, _, _), rfl⟩
theorem View.sl (h : View m enc v xs Δ) : ∃ s, v = slv s := by
  obtain ⟨a, cap, rfl, _⟩ := h
  exact ⟨(a, _, cap), rfl⟩
/-- v0 is the front of v, at the same place. -/
def Pfx (v0 : Value) (xs0 : List α) (v : Value) (xs : List α) : Prop := ∃ a c0 c t, v0 = .slice a xs0.length c0 ∧ xs0.length ≤ c0 ∧ v = .slice a xs.length c ∧ xs = xs0 ++ t
theorem Pfx.view {v0 : Value} {xs0 : List α} (he : ∀ x, (enc x).length = m) (h : Pfx v0 xs0 v xs) (hv : View m enc v xs Δ) : View m enc v0 xs0 Δ := by
  obtain ⟨a, c0, c, t, rfl, hc, rfl, rfl⟩ := h
  obtain ⟨a', cap, h1, h2, h3, h4⟩ := hv
  cases h1
  refine ⟨a, c0, rfl, hc, fun h => ?_, fun ad had => ?_⟩
  · have := h3 h; simp at this; exact this.1
  · rcases h4 ad had with h | ⟨hs, cur, T, fr, hm, ht⟩
    · simp at h; exact .inl h.1
    · refine .inr ⟨hs, cur, T, fr, hm, ?_⟩
      have hl : xs0.length * m ≤ (xs0 ++ t).length * m := Nat.mul_le_mul_right _ (by simp)
      rw [show xs0.length * m = min (xs0.length * m) ((xs0 ++ t).length * m) by omega, ← List.take_take, ht, ← flatMap_len he xs0, List.flatMap_append, List.take_left]
/-- One's own, and the front that was. -/
def OwnP (T : TypeId) (m : Nat) (enc : α → List Value) (v : Value) (xs : List α) (v0 : Value) (xs0 : List α) (Δ : Chunk) : Prop :=
  ∃ D J, Δ = D ++ J ∧ Own T m enc v xs D ∧ (Pfx v0 xs0 v xs ∨ View m enc v0 xs0 J)
theorem OwnP.start {T : TypeId} (h : Own T m enc v xs Δ) : OwnP T m enc v xs v xs Δ := by
  refine ⟨Δ, [], by simp, h, .inl ?_⟩
  rcases h with ⟨rfl, rfl, rfl⟩ | ⟨g, cap, rest, rfl, rfl, h1, h2, h3⟩
  · exact ⟨none, 0, 0, [], rfl, by simp, rfl, rfl⟩
  · exact ⟨_, cap, cap, [], rfl, h1, rfl, by simp⟩
theorem OwnP.view {T : TypeId} {v0 : Value} {xs0 : List α} (he : ∀ x, (enc x).length = m) (h : OwnP T m enc v xs v0 xs0 Δ) : View m enc v xs Δ := by
  obtain ⟨D, J, rfl, h1, h2⟩ := h
  exact (h1.view he).mono fun p hp => List.mem_append.2 (.inl hp)
theorem OwnP.old {T : TypeId} {v0 : Value} {xs0 : List α} (he : ∀ x, (enc x).length = m) (h : OwnP T m enc v xs v0 xs0 Δ) : View m enc v0 xs0 Δ := by
  obtain ⟨D, J, rfl, h1, h2 | h2⟩ := h
  · exact (h2.view he (h1.view he)).mono fun p hp => List.mem_append.2 (.inl hp)
  · exact h2.mono fun p hp => List.mem_append.2 (.inr hp)
theorem pfx_step {T : TypeId} {v0 v' : Value} {xs0 ys : List α} {Δ' Δo J : Chunk} (he : ∀ x, (enc x).length = m) (h0 : Own T m enc v xs Δ) (h : Pfx v0 xs0 v xs ∨ View m enc v0 xs0 J) (hv : View m enc v xs (Δ' ++ Δo)) (ho : Own T m enc v' (xs ++ ys) Δ') :
    Pfx v0 xs0 v' (xs ++ ys) ∨ View m enc v0 xs0 (Δo ++ J) := by
  rcases h with h | h
  · by_cases hx0 : xs0 = []
    · subst hx0
      obtain ⟨a, c0, c, t, rfl, hc, rfl, rfl⟩ := h
      exact .inr ⟨a, c0, rfl, hc, fun _ => rfl, fun _ _ => .inl rfl⟩
    have h' := h
    obtain ⟨a, c0, c, t, rfl, hc, rfl, rfl⟩ := h
    have hne : xs0 ++ t ≠ [] := by simp [hx0]
    obtain ⟨a', cap, h1, h2, h3, h4⟩ := hv
    cases h1
    cases a with
    | none => exact absurd (h3 rfl) hne
    | some ad =>
      obtain ⟨hs, cur, T', fr, hm, ht⟩ := (h4 ad rfl).resolve_left hne
      rcases List.mem_append.1 hm with hm | hm
      · rcases ho with ⟨_, e, _⟩ | ⟨g, cp, rest, e1, e2, e3, e4, e5⟩
        · exact absurd (List.append_eq_nil_iff.1 e).1 hne
        · rw [e2, List.mem_singleton] at hm
          have hb : ad.block = g := congrArg Prod.fst hm
          have hoff : ad.off = 0 := by
            rcases h0 with ⟨e, _⟩ | ⟨_, _, _, e, _⟩
            · cases e
            · cases e; rfl
          left
          have : ad = ⟨g, 0, none⟩ := by cases ad; simp at hoff hb hs; simp [hoff, hb, hs]
          subst this
          exact ⟨_, c0, cp, t ++ ys, rfl, hc, e1, by simp⟩
      · right
        refine (h'.view he (Δ := Δo) ⟨_, c, rfl, h2, h3, fun ad' had => ?_⟩).mono fun p hp => List.mem_append.2 (.inl hp)
        cases had
        exact .inr ⟨hs, cur, T', fr, hm, ht⟩
  · exact .inr (h.mono fun p hp => List.mem_append.2 (.inr hp))
end
section
variable {α : Type} {m : Nat} {enc : α → List Value} {P : Program} {E : World} {Γ : List Chunk} {f : Nat → Value} {w : World} {K : (Nat → Value) → World → Prop} {d : Nat} {ty : TypeId} {pos : String} {af : Array Edge} {g : Option (Nat × Bool)} {v : Value} {xs : List α} {Δ : Chunk}
theorem ow_appendP {t tx e e' by_ : Nat} {x y : Operand} {z u v0 : Value} {ys xs0 : List α} {Δy : Chunk} {U : Chunk → List Chunk} (hS : Sat E Γ w) (ht : P.underlying t = some (.slice e)) (htx : P.underlying tx = some (.slice e')) (hi : infoIs P e m by_ z) (hz : z.cells.size = m) (h0 : 0 < m)
    (hx : ev f x = v) (hy : ev f y = u) (ho : OwnP e m enc v xs v0 xs0 Δ) (hv : View m enc u ys Δy) (hc : HasC Γ Δ U) (hd : Δy ∈ Γ) (he : ∀ x, (enc x).length = m) (h1 : ∀ x, (enc x).all one = true) (hn : xs.length + ys.length ≤ maxLen) (hb : (xs.length + ys.length) * by_ ≤ 140737488355328)
    (h : ∀ v' Δ' w', OwnP e m enc v' (xs ++ ys) v0 xs0 Δ' → Sat E (U Δ') w' → K (upd f d v') w') : OW P ⟨some d, .call ⟨.builtin .append, #[x, y], #[t, tx]⟩, ty, pos, af, g⟩ f w K := by
  have hs := hv.src (P := P) (tx := tx) he h1 hS hd htx
  obtain ⟨D, J, rfl, ho, hp⟩ := ho
  obtain ⟨v', Δ', Δo, w', hr, h5, h6, h7⟩ := run_append_own2 (P := P) (ty' := ty) (Sat.parts.1 (hc.front hS)) ht hi hz h0 ho he hs hn hb (n := 0)
  refine ow_val (v := v') (w' := w') ?_ (h v' (Δ' ++ (Δo ++ J)) w' ⟨Δ', Δo ++ J, rfl, h5, pfx_step he ho hp h7 h5⟩ (hc.fill (h6.perm (by simp [List.append_assoc]))))
  simp only [execOp, resolve, invoke, builtin, Sem.run_bind, Sem.run_pure, Result.andThen_ok, List.map_toArray, List.map_cons, List.map_nil, hx, hy, hr]
/-! a whole thing is written -/
theorem putAt_flat {α : Type} {m : Nat} {enc : α → List Value} (he : ∀ x, (enc x).length = m) : ∀ (xs : List α) (rest : List Value) (j : Nat) (y : α), j < xs.length → putAt (xs.flatMap enc ++ rest) (j * m) (enc y) = (xs.set j y).flatMap enc ++ rest := by
  intro xs rest j y hj
  have h1 : xs.flatMap enc = (xs.take j).flatMap enc ++ enc xs[j] ++ (xs.drop (j + 1)).flatMap enc := by
    conv => lhs; rw [← List.take_append_drop j xs, List.drop_eq_getElem_cons hj]
    rw [List.flatMap_append, List.flatMap_cons, List.append_assoc]
  have h2 : (xs.set j y).flatMap enc = (xs.take j).flatMap enc ++ enc y ++ (xs.drop (j + 1)).flatMap enc := by
    rw [List.set_eq_take_append_cons_drop, if_pos hj, List.flatMap_append, List.flatMap_cons, List.append_assoc]
  have hl : ((xs.take j).flatMap enc).length = j * m := by rw [flatMap_len he, List.length_take]; congr 1; omega
  rw [h1, h2, ← hl, List.append_assoc ((xs.take j).flatMap enc ++ enc xs[j]), putAt_append _ (enc y) _ _ (by rw [he, he]), List.append_assoc _ _ rest]
theorem ow_storeOwnA {T T' : TypeId} {x y : Operand} {j : Nat} {b' : α} {vs : List Value} {U : Chunk → List Chunk} (hS : Sat E Γ w) (hm : szIs P T m) (hx : ev f x = elAt v m j 0) (hy : ev f y = .agg vs.toArray) (hv : enc b' = vs)
    (h1 : vs.all one = true) (ho : Own T' m enc v xs Δ) (hc : HasC Γ Δ U) (hb : j < xs.length) (he : ∀ x, (enc x).length = m)
    (h : ∀ Δ' w', Own T' m enc v (xs.set j b') Δ' → Sat E (U Δ') w' → K f w') : OW P ⟨none, .store T x y, ty, pos, af, g⟩ f w K := by
  subst hv
  rcases ho with ⟨rfl, rfl, rfl⟩ | ⟨gg, cap, rest, rfl, rfl, h2, h3, h4⟩
  · simp at hb
  have hlt : j * m + m ≤ (xs.flatMap enc).length := by
    rw [flatMap_len he]
    have := Nat.mul_le_mul_right m (show j + 1 ≤ xs.length from hb)
    rw [Nat.add_mul] at this; omega
  refine ow_storeA (b := gg) (off := 0 + j * m + 0) hS hm hx hy (he _) h1 hc.has (by rw [List.length_append]; omega) fun w' hw' => ?_
  rw [Nat.zero_add, Nat.add_zero, putAt_flat he _ _ _ _ hb] at hw'
  refine h _ w' (.inr ⟨gg, cap, rest, by rw [List.length_set], rfl, by rw [List.length_set]; exact h2, h3, ?_⟩) hw'
  rw [← h4, List.length_append, List.length_append, flatMap_len he, flatMap_len he, List.length_set]
end
/-! a list with room behind it -/
section
variable {α : Type} {m : Nat} {enc : α → List Value} {P : Program} {f : Nat → Value} {d : Nat} {ty : TypeId} {pos : String} {af : Array Edge} {g : Option (Nat × Bool)} {v : Value} {xs : List α} {Δ : Chunk}
/-- v is xs, and behind it, in its room, lies x. -/
def LentAt (T : TypeId) (m : Nat) (enc : α → List Value) (x : α) (v : Value) (xs : List α) (Δ : Chunk) : Prop := ∃ v', Own T m enc v' (xs ++ [x]) Δ ∧ v = subSl v' m 0 xs.length
theorem LentAt.view {T : TypeId} {x : α} (he : ∀ x, (enc x).length = m) (h : LentAt T m enc x v xs Δ) : View m enc v xs Δ := by
  obtain ⟨v', h, rfl⟩ := h
  have := (h.view he).sub he (l := 0) (h := xs.length) (by omega) (by simp)
  simpa using this
theorem LentAt.full {T : TypeId} {x : α} (he : ∀ x, (enc x).length = m) (h : LentAt T m enc x v xs Δ) : ∃ v' g c, v = .slice (some ⟨g, 0, none⟩) xs.length c ∧ v' = .slice (some ⟨g, 0, none⟩) (xs.length + 1) c ∧ xs.length + 1 ≤ c ∧ View m enc v' (xs ++ [x]) Δ := by
  obtain ⟨v', h, rfl⟩ := h
  have hv := h.view he
  rcases h with ⟨_, e, _⟩ | ⟨g, cap, rest, rfl, rfl, h1, h2, h3⟩
  · simp at e
  · refine ⟨_, g, cap, ?_, by simp, by simpa using h1, hv⟩
    simp only [subSl, Nat.sub_zero, Nat.zero_mul]
    have hc : ¬ cap = 0 := by simp at h1; omega
    rw [if_neg hc]
    simp [Addr.add_lit]
theorem vr_slice_re {T e : TypeId} {x : Operand} {hi : Operand} {a : Option Addr} {n c h : Nat} {k : IntKind} (hu : P.underlying T = some (.slice e)) (hm : szIs P e m) (hx : ev f x = .slice a n c)
    (hhi : ev f hi = .int k h) (h2 : h ≤ c) (h0 : c ≠ 0) (ha : ∀ ad, a = some ad → ad.spot = none) : VR P f ⟨some d, .slice T x none (some hi) none, ty, pos, af, g⟩ (.slice a h c) := by
  intro w
  have i2 : (h : Int) ≤ (c : Int) := by omega
  have e2 : ¬ c < h := by omega
  have e3 : a.map (·.add 0) = a := by
    cases a with
    | none => rfl
    | some ad => have := ha ad rfl; obtain ⟨b, o, s⟩ := ad; simp at this; subst this; simp [Addr.add_lit]
  simp [execOp, hx, hhi, Instr.sliceAt, Instr.slice, Instr.sliceBounds, Instr.sliceBound, asIntOf, run_underlying hu, run_sizeOf' hm, i2, e2, h0, e3]
end
/-! lists of lists -/
section
variable {α : Type} {m : Nat} {enc : α → List Value} {T : TypeId}
def OwnL (T : TypeId) (m : Nat) (enc : α → List Value) : List Sl → List (List α) → Chunk → Prop
  | [], [], Δ => Δ = []
  | s :: vs, xs :: xss, Δ => ∃ D D', Δ = D ++ D' ∧ Own T m enc (slv s) xs D ∧ OwnL T m enc vs xss D'
  | _, _, _ => False
def ViewL (m : Nat) (enc : α → List Value) (vs : List Sl) (xss : List (List α)) (Δ : Chunk) : Prop :=
  vs.length = xss.length ∧ ∀ (k : Nat) s xs, vs[k]? = some s → xss[k]? = some xs → View m enc (slv s) xs Δ
theorem ViewL.nil {Δ : Chunk} : ViewL m enc [] ([] : List (List α)) Δ := ⟨rfl, fun k s xs h => by simp at h⟩
theorem ViewL.mono {vs : List Sl} {xss : List (List α)} {Δ Δ' : Chunk} (h : ViewL m enc vs xss Δ) (hd : ∀ p ∈ Δ, p ∈ Δ') : ViewL m enc vs xss Δ' := ⟨h.1, fun k s xs h1 h2 => (h.2 k s xs h1 h2).mono hd⟩
theorem ViewL.snoc {vs : List Sl} {xss : List (List α)} {Δ : Chunk} {s : Sl} {xs : List α} (h : ViewL m enc vs xss Δ) (hv : View m enc (slv s) xs Δ) : ViewL m enc (vs ++ [s]) (xss ++ [xs]) Δ := by
  refine ⟨by simp [h.1], fun k s' xs' h1 h2 => ?_⟩
  rcases Nat.lt_or_ge k vs.length with hk | hk
  · rw [List.getElem?_append_left hk] at h1
    rw [List.getElem?_append_left (by rw [← h.1]; exact hk)] at h2
    exact h.2 k s' xs' h1 h2
  · rw [List.getElem?_append_right hk] at h1
    rw [List.getElem?_append_right (by rw [← h.1]; exact hk)] at h2
    rcases Nat.eq_zero_or_pos (k - vs.length) with h0 | h0
    · rw [h0] at h1; rw [← h.1, h0] at h2; simp at h1 h2; subst h1; subst h2; exact hv
    · obtain ⟨j, hj⟩ : ∃ j, k - vs.length = j + 1 := ⟨k - vs.length - 1, by omega⟩
      rw [hj] at h1; simp at h1
theorem OwnL.views (he : ∀ x, (enc x).length = m) : ∀ {vs : List Sl} {xss : List (List α)} {Δ : Chunk}, OwnL T m enc vs xss Δ → ViewL m enc vs xss Δ
  | [], [], Δ, h => ViewL.nil
  | s :: vs, xs :: xss, Δ, h => by
    obtain ⟨D, D', rfl, h1, h2⟩ := h
    have h3 := OwnL.views he h2
    refine ⟨by simp [h3.1], fun k s' xs' hk hk' => ?_⟩
    cases k with
    | zero => simp at hk hk'; subst hk; subst hk'; exact (h1.view he).mono fun p hp => List.mem_append.2 (.inl hp)
    | succ k => exact (h3.2 k s' xs' (by simpa using hk) (by simpa using hk')).mono fun p hp => List.mem_append.2 (.inr hp)
  | [], _ :: _, _, h => h.elim
  | _ :: _, [], _, h => h.elim
theorem OwnL.snoc {s : Sl} {xs : List α} {D0 : Chunk} (h0 : Own T m enc (slv s) xs D0) : ∀ {vs : List Sl} {xss : List (List α)} {Δ : Chunk}, OwnL T m enc vs xss Δ → OwnL T m enc (vs ++ [s]) (xss ++ [xs]) (Δ ++ D0)
  | [], [], Δ, h => by subst h; exact ⟨D0, [], by simp, h0, rfl⟩
  | s' :: vs, xs' :: xss, Δ, h => by
    obtain ⟨D, D', rfl, h1, h2⟩ := h
    exact ⟨D, D' ++ D0, by simp, h1, OwnL.snoc h0 h2⟩
  | [], _ :: _, _, h => h.elim
  | _ :: _, [], _, h => h.elim
theorem OwnL.opn : ∀ {vs : List Sl} {xss : List (List α)} {Δ : Chunk} {k : Nat} {s : Sl} {xs : List α}, OwnL T m enc vs xss Δ → vs[k]? = some s → xss[k]? = some xs →
    ∃ A D B, Δ = A ++ D ++ B ∧ Own T m enc (slv s) xs D ∧ ∀ ys D', Own T m enc (slv s) ys D' → OwnL T m enc vs (xss.set k ys) (A ++ D' ++ B)
  | [], _, Δ, k, s, xs, h, hk, hk' => by simp at hk
  | s' :: vs, [], Δ, k, s, xs, h, hk, hk' => h.elim
  | s' :: vs, xs' :: xss, Δ, 0, s, xs, h, hk, hk' => by
    obtain ⟨D, D', rfl, h1, h2⟩ := h
    simp at hk hk'; subst hk; subst hk'
    exact ⟨[], D, D', by simp, h1, fun ys D1 ho => ⟨D1, D', by simp, ho, h2⟩⟩
  | s' :: vs, xs' :: xss, Δ, k + 1, s, xs, h, hk, hk' => by
    obtain ⟨D, D', rfl, h1, h2⟩ := h
    obtain ⟨A, D1, B, rfl, h3, h4⟩ := OwnL.opn h2 (by simpa using hk) (by simpa using hk')
    exact ⟨D ++ A, D1, B, by simp, h3, fun ys D2 ho => ⟨D, A ++ D2 ++ B, by simp, h1, h4 ys D2 ho⟩⟩
theorem OwnL.hd {vs : List Sl} {xss : List (List α)} {Δ : Chunk} {k : Nat} {s : Sl} {xs : List α} (h : OwnL T m enc (vs.drop k) (xss.drop k) Δ) (hk : vs[k]? = some s) (hk' : xss[k]? = some xs) :
    ∃ D D', Δ = D ++ D' ∧ Own T m enc (slv s) xs D ∧ OwnL T m enc (vs.drop (k + 1)) (xss.drop (k + 1)) D' := by
  rw [drop_cons hk, drop_cons hk'] at h
  exact h
/-! marks -/
def markL (mk : Nat → Nat → α) (i a n : Nat) : List α := (List.range n).map fun k => mk i (a + k)
theorem markL_len (mk : Nat → Nat → α) (i a n : Nat) : (markL mk i a n).length = n := by simp [markL]
theorem markL_snoc (mk : Nat → Nat → α) (i a n : Nat) : markL mk i a n ++ [mk i (a + n)] = markL mk i a (n + 1) := by simp [markL, List.range_succ]
theorem markL_app (mk : Nat → Nat → α) (i n k : Nat) : markL mk i 0 n ++ markL mk i n k = markL mk i 0 (n + k) := by
  simp only [markL, List.range_add, List.map_append, List.map_map]
  congr 1
  apply List.map_congr_left; intro a _; simp
theorem markL_get (mk : Nat → Nat → α) (i a n k : Nat) (h : k < n) : (markL mk i a n)[k]? = some (mk i (a + k)) := by simp [markL, h]
/-- All lists marked, each with d more behind it. -/
def marks (mk : Nat → Nat → α) (e : Nat) : Nat → List (List α) → List (List α)
  | _, [] => []
  | i, xs :: xss => markL mk i 0 (xs.length + e) :: marks mk e (i + 1) xss
theorem marks_len (mk : Nat → Nat → α) (e : Nat) : ∀ (xss : List (List α)) (i : Nat), (marks mk e i xss).length = xss.length
  | [], _ => rfl
  | _ :: xss, i => by simp [marks, marks_len mk e xss (i + 1)]
theorem marks_get (mk : Nat → Nat → α) (e : Nat) : ∀ (xss : List (List α)) (i k : Nat) (xs : List α), xss[k]? = some xs → (marks mk e i xss)[k]? = some (markL mk (i + k) 0 (xs.length + e))
  | [], _, k, xs, h => by simp at h
  | x :: xss, i, 0, xs, h => by simp at h; subst h; simp [marks]
  | x :: xss, i, k + 1, xs, h => by
    rw [marks, List.getElem?_cons_succ, marks_get mk e xss (i + 1) k xs (by simpa using h), show i + 1 + k = i + (k + 1) by omega]
theorem marks_get0 (mk : Nat → Nat → α) (e : Nat) {xss : List (List α)} {k : Nat} {xs : List α} (h : xss[k]? = some xs) : (marks mk e 0 xss)[k]? = some (markL mk k 0 (xs.length + e)) := by
  have := marks_get mk e xss 0 k xs h
  simpa using this
/-- The first i are marked. -/
def part_ (mk : Nat → Nat → α) (i : Nat) (xss : List (List α)) : List (List α) := (marks mk 0 0 xss).take i ++ xss.drop i
theorem part_len (mk : Nat → Nat → α) (i : Nat) (xss : List (List α)) : (part_ mk i xss).length = xss.length := by simp [part_, marks_len]; omega
theorem part_get (mk : Nat → Nat → α) {i : Nat} {xss : List (List α)} {xs : List α} (h : xss[i]? = some xs) : (part_ mk i xss)[i]? = some xs := by
  have hi := lt_get h
  rw [part_, List.getElem?_append_right (by simp; omega)]
  simp [marks_len, show i - min i xss.length = 0 by omega]; simpa using h
theorem part_set (mk : Nat → Nat → α) {i : Nat} {xss : List (List α)} {xs : List α} (h : xss[i]? = some xs) : (part_ mk i xss).set i (markL mk i 0 xs.length) = part_ mk (i + 1) xss := by
  have hi := lt_get h
  have hg := marks_get0 mk 0 h
  have hl : ((marks mk 0 0 xss).take i).length = i := by simp [marks_len]; omega
  rw [part_, part_, take_snoc hg, drop_cons h, List.set_append_right _ _ (by omega), hl, Nat.sub_self, List.set_cons_zero, List.append_assoc]; rfl
theorem part_all (mk : Nat → Nat → α) (xss : List (List α)) {i : Nat} (h : xss.length ≤ i) : part_ mk i xss = marks mk 0 0 xss := by
  rw [part_, List.drop_eq_nil_of_le h, List.append_nil, List.take_of_length_le (by rw [marks_len]; exact h)]
theorem part_zero (mk : Nat → Nat → α) (xss : List (List α)) : part_ mk 0 xss = xss := by simp [part_]
/-! what a book keeps of one kind: the lists, and copies -/
def Kept (T To m : Nat) (enc : α → List Value) (vb vw : Value) (xss : List (List α)) (Di D : Chunk) : Prop :=
  xss.length ≤ 250 ∧ (∀ xs ∈ xss, xs.length ≤ 900000) ∧ ∃ vs ws Db Dw Dx Dj J, D = [Db, Dw, Dj, Di].flatten ∧ Di = Dx ++ J ∧ Own To 1 encSl vb vs Db ∧ Own To 1 encSl vw ws Dw ∧ OwnL T m enc vs xss Dx ∧ OwnL T m enc ws xss Dj
theorem Kept.none {To : Nat} : Kept T To m enc (.slice none 0 0) (.slice none 0 0) [] [] [] :=
  ⟨by simp, by simp, [], [], [], [], [], [], [], rfl, rfl, Own.nil, Own.nil, rfl, rfl⟩
def addB (xss : List (List α)) (xs : List α) : List (List α) := if xss.length < 250 then xss ++ [xs] else xss
/-- Marked. -/
def Mrkd (T To m : Nat) (enc : α → List Value) (mk : Nat → Nat → α) (vb : Value) (xss : List (List α)) (D : Chunk) : Prop :=
  xss.length ≤ 250 ∧ (∀ xs ∈ xss, xs.length ≤ 900000) ∧ ∃ vs Db Dx, D = Db ++ Dx ∧ Own To 1 encSl vb vs Db ∧ OwnL T m enc vs (marks mk 0 0 xss) Dx
/-- Grown. -/
def Grwn (m : Nat) (enc : α → List Value) (mk : Nat → Nat → α) (e : Nat) (vb : Value) (xss : List (List α)) (D : Chunk) : Prop :=
  xss.length ≤ 250 ∧ (∀ xs ∈ xss, xs.length ≤ 900000) ∧ ∃ vs, View 1 encSl vb vs D ∧ ViewL m enc vs (marks mk e 0 xss) D
end
end Go.Proofs.YtjcagoighpmdkaaGreatDoor
