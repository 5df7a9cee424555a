/- Slices: what is read through one (View), one that is the call's own (Own), append, slice literals, cutting. -/
import Derived.Test.YtjcagoighpmdkaaGreatDoorMem
import Derived.Deep.AppendSrc
import Derived.Laws.StructEq
namespace Go.Proofs.YtjcagoighpmdkaaGreatDoor
open Go Go.RowKit
set_option linter.unusedVariables false
set_option linter.unusedSimpArgs false

theorem cells_one {v : Value} (h : one v = true) : v.cells = #[v] := by cases v <;> first | rfl | cases h
/-! chunks as a whole -/
def HasC (Γ : List Chunk) (Δ : Chunk) (U : Chunk → List Chunk) : Prop := ∃ A B, Γ = A ++ Δ :: B ∧ U = fun Δ' => A ++ Δ' :: B
theorem HasC.here {Δ : Chunk} {L : List Chunk} : HasC (Δ :: L) Δ (fun Δ' => Δ' :: L) := ⟨[], L, rfl, rfl⟩
theorem HasC.there {c Δ : Chunk} {L : List Chunk} {U : Chunk → List Chunk} (h : HasC L Δ U) : HasC (c :: L) Δ (fun Δ' => c :: U Δ') := by
  obtain ⟨A, B, rfl, rfl⟩ := h
  exact ⟨c :: A, B, rfl, rfl⟩
theorem HasC.has {Γ : List Chunk} {b : Nat} {o : Obj} {U : Chunk → List Chunk} (h : HasC Γ [(b, o)] U) : Has Γ b o (fun o' => U [(b, o')]) := by
  obtain ⟨A, B, rfl, rfl⟩ := h
  exact ⟨A, B, rfl, rfl⟩
theorem HasC.drop {E w : World} {Γ : List Chunk} {Δ : Chunk} {U : Chunk → List Chunk} (h : HasC Γ Δ U) (hS : Sat E Γ w) : Sat E (U []) w := by
  obtain ⟨A, B, rfl, rfl⟩ := h
  exact hS.sub (by simp)
theorem HasC.front {E w : World} {Γ : List Chunk} {Δ : Chunk} {U : Chunk → List Chunk} (hc : HasC Γ Δ U) (hS : Sat E Γ w) : Sat E (Δ :: U []) w := by
  obtain ⟨A, B, rfl, rfl⟩ := hc
  refine hS.perm ?_
  simp only [List.flatten_cons, List.flatten_append, List.nil_append]
  rw [← List.append_assoc, ← List.append_assoc]
  exact List.perm_append_comm.append_right _
theorem HasC.fill {E w : World} {Γ : List Chunk} {Δ Δ' : Chunk} {U : Chunk → List Chunk} (h : HasC Γ Δ U) (hS : Sat E (Δ' :: U []) w) : Sat E (U Δ') w := by
  obtain ⟨A, B, rfl, rfl⟩ := h
  refine hS.perm ?_
  simp only [List.flatten_cons, List.flatten_append, List.nil_append]
  rw [← List.append_assoc, ← List.append_assoc]
  exact List.perm_append_comm.append_right _

/-! lists of things, each m cells -/
theorem flatMap_len {α : Type} {m : Nat} {enc : α → List Value} (he : ∀ x, (enc x).length = m) : ∀ xs : List α, (xs.flatMap enc).length = xs.length * m
  | [] => by simp
  | x :: xs => by rw [List.flatMap_cons, List.length_append, he, flatMap_len he xs, List.length_cons, Nat.add_mul]; omega
theorem flatMap_at {α : Type} {m : Nat} {enc : α → List Value} (he : ∀ x, (enc x).length = m) : ∀ (xs : List α) (i : Nat) (x : α), xs[i]? = some x → ((xs.flatMap enc).drop (i * m)).take m = enc x
  | [], i, x, h => by simp at h
  | y :: ys, 0, x, h => by
    simp at h; subst h
    rw [Nat.zero_mul, List.drop_zero, List.flatMap_cons, ← he y, List.take_left]
  | y :: ys, i + 1, x, h => by
    have hd : ((y :: ys).flatMap enc).drop ((i + 1) * m) = (ys.flatMap enc).drop (i * m) := by
      rw [List.flatMap_cons, show (i + 1) * m = (enc y).length + i * m by rw [he, Nat.add_mul]; omega, ← List.drop_drop, List.drop_left]
    rw [hd]
    exact flatMap_at he ys i x (by simpa using h)
theorem flatMap_dropM {α : Type} {m : Nat} {enc : α → List Value} (he : ∀ x, (enc x).length = m) : ∀ (xs : List α) (i : Nat), (xs.flatMap enc).drop (i * m) = (xs.drop i).flatMap enc
  | [], i => by simp
  | y :: ys, 0 => by simp
  | y :: ys, i + 1 => by
    rw [List.flatMap_cons, show (i + 1) * m = (enc y).length + i * m by rw [he, Nat.add_mul]; omega, ← List.drop_drop, List.drop_left, List.drop_succ_cons]
    exact flatMap_dropM he ys i
theorem flatMap_takeM {α : Type} {m : Nat} {enc : α → List Value} (he : ∀ x, (enc x).length = m) : ∀ (xs : List α) (i : Nat), (xs.flatMap enc).take (i * m) = (xs.take i).flatMap enc
  | [], i => by simp
  | y :: ys, 0 => by simp
  | y :: ys, i + 1 => by
    rw [List.flatMap_cons, show (i + 1) * m = (enc y).length + i * m by rw [he, Nat.add_mul]; omega, List.take_add, List.take_left, List.drop_left, List.take_succ_cons, List.flatMap_cons, flatMap_takeM he ys i]

theorem get_lt {α : Type} {xs : List α} {k : Nat} (h : k < xs.length) : ∃ x, xs[k]? = some x := ⟨xs[k], List.getElem?_eq_getElem h⟩
theorem lt_get {α : Type} {xs : List α} {k : Nat} {x : α} (h : xs[k]? = some x) : k < xs.length := by
  rcases Nat.lt_or_ge k xs.length with h1 | h1
  · exact h1
  · rw [List.getElem?_eq_none h1] at h; cases h
theorem drop_cons {α : Type} {xs : List α} {k : Nat} {x : α} (h : xs[k]? = some x) : xs.drop k = x :: xs.drop (k + 1) := by
  have hk := lt_get h
  rw [List.drop_eq_getElem_cons hk]
  rw [List.getElem?_eq_getElem hk] at h
  cases h; rfl
theorem take_snoc {α : Type} {xs : List α} {k : Nat} {x : α} (h : xs[k]? = some x) : xs.take (k + 1) = xs.take k ++ [x] := by
  rw [List.take_add_one, h]; rfl
/-- v is a slice of the things xs, each m cells by enc; its cells lie in a block of Δ. -/
def View {α : Type} (m : Nat) (enc : α → List Value) (v : Value) (xs : List α) (Δ : Chunk) : Prop :=
  ∃ a cap, v = .slice a xs.length cap ∧ xs.length ≤ cap ∧ (a = none → xs = []) ∧ ∀ ad, a = some ad → xs = [] ∨ (ad.spot = none ∧ ∃ cur T fr, (ad.block, Obj.cells cur T fr) ∈ Δ ∧ (cur.toList.drop ad.off).take (xs.length * m) = xs.flatMap enc)
/-- v is a slice that is the call's own, from its block's beginning; Δ is the block (none if v is nil). -/
def Own {α : Type} (T : TypeId) (m : Nat) (enc : α → List Value) (v : Value) (xs : List α) (Δ : Chunk) : Prop :=
  (v = .slice none 0 0 ∧ xs = [] ∧ Δ = []) ∨
  ∃ g cap rest, v = .slice (some ⟨g, 0, none⟩) xs.length cap ∧ Δ = [(g, .cells (xs.flatMap enc ++ rest).toArray T (0, 0))] ∧ xs.length ≤ cap ∧ cap ≤ maxLen ∧ (xs.flatMap enc ++ rest).length = cap * m
section
variable {α : Type} {m : Nat} {enc : α → List Value} {v : Value} {xs : List α} {Δ : Chunk}
theorem Own.nil {T : TypeId} : Own T m enc (.slice none 0 0) [] [] := .inl ⟨rfl, rfl, rfl⟩
theorem Own.lits {T : TypeId} {b n : Nat} {cs : List Value} (hn : xs.length = n) (he : xs.flatMap enc = cs) (hm : cs.length = n * m) (hl : n ≤ maxLen) : Own T m enc (.slice (some ⟨b, 0, none⟩) n n) xs [(b, .cells cs.toArray T (0, 0))] := by
  subst hn
  exact .inr ⟨b, xs.length, [], rfl, by rw [he, List.append_nil], Nat.le_refl _, hl, by rw [he, List.append_nil]; exact hm⟩
theorem Own.isOne {T : TypeId} (h : Own T m enc v xs Δ) : one v = true := by
  rcases h with ⟨rfl, _, _⟩ | ⟨g, cap, rest, rfl, _⟩ <;> rfl
theorem Own.view {T : TypeId} (he : ∀ x, (enc x).length = m) (h : Own T m enc v xs Δ) : View m enc v xs Δ := by
  rcases h with ⟨rfl, rfl, rfl⟩ | ⟨g, cap, rest, rfl, rfl, h1, h2, h3⟩
  · exact ⟨none, 0, rfl, Nat.le_refl _, fun _ => rfl, fun _ h => (by cases h)⟩
  · refine ⟨_, _, rfl, h1, fun h => (by cases h), fun ad had => ?_⟩
    cases had
    refine .inr ⟨rfl, _, _, _, List.mem_singleton.2 rfl, ?_⟩
    simp only [List.drop_zero, List.toList_toArray]
    rw [← flatMap_len he, List.take_left]
theorem View.single {b cap : Nat} {T : TypeId} {fr : Nat × Nat} {x : α} {cs : List Value} (he : enc x = cs) (hm : cs.length = m) (hc : 1 ≤ cap) : View m enc (.slice (some ⟨b, 0, none⟩) 1 cap) [x] [(b, .cells cs.toArray T fr)] := by
  refine ⟨_, _, rfl, by simpa using hc, fun h => (by cases h), fun ad had => ?_⟩
  cases had
  exact .inr ⟨rfl, _, _, _, List.mem_singleton.2 rfl, by subst hm; simp [he]⟩
theorem View.lits {b n : Nat} {T : TypeId} {fr : Nat × Nat} {cs : List Value} (hn : xs.length = n) (he : xs.flatMap enc = cs) (hm : n * m = cs.length) : View m enc (.slice (some ⟨b, 0, none⟩) n n) xs [(b, .cells cs.toArray T fr)] := by
  subst hn
  refine ⟨_, _, rfl, Nat.le_refl _, fun h => (by cases h), fun ad had => ?_⟩
  cases had
  exact .inr ⟨rfl, _, _, _, List.mem_singleton.2 rfl, by simp [he, hm]⟩
theorem View.len (h : View m enc v xs Δ) : ∃ a cap, v = .slice a xs.length cap := by
  obtain ⟨a, cap, h, _⟩ := h
  exact ⟨a, cap, h⟩
theorem View.mono {Δ' : Chunk} (h : View m enc v xs Δ) (hd : ∀ p ∈ Δ, p ∈ Δ') : View m enc v xs Δ' := by
  obtain ⟨a, cap, h1, h2, h3, h4⟩ := h
  refine ⟨a, cap, h1, h2, h3, fun ad had => ?_⟩
  rcases h4 ad had with h | ⟨hs, cur, T, fr, hm, ht⟩
  · exact .inl h
  · exact .inr ⟨hs, cur, T, fr, hd _ hm, ht⟩
/-- Where the cell n of the j-th thing of a slice lies. -/
def elAt (v : Value) (m j n : Nat) : Value := match v with
  | .slice (some a) _ _ => .pointer (some ⟨a.block, a.off + j * m + n, none⟩)
  | _ => .pointer none
theorem View.at {w : World} {E : World} {Γ : List Chunk} {j : Nat} {x : α} (he : ∀ x, (enc x).length = m) (h : View m enc v xs Δ) (hS : Sat E Γ w) (hd : Δ ∈ Γ) (hx : xs[j]? = some x) :
    ∃ b off l T fr, (∀ n, elAt v m j n = .pointer (some ⟨b, off + n, none⟩)) ∧ w.heap[b]? = some (.cells (l : List Value).toArray T fr) ∧ (l.drop off).take m = enc x := by
  obtain ⟨a, cap, rfl, h2, h3, h4⟩ := h
  have hne : xs ≠ [] := fun e => by subst e; simp at hx
  cases a with
  | none => exact absurd (h3 rfl) hne
  | some ad =>
    obtain ⟨h5, cur, T, fr, hm, ht⟩ := (h4 ad rfl).resolve_left hne
    refine ⟨ad.block, ad.off + j * m, cur.toList, T, fr, fun _ => rfl, ?_, ?_⟩
    · have := hS.mem _ (List.mem_flatten.2 ⟨Δ, hd, hm⟩)
      simpa using this
    · have hj : j < xs.length := by
        rcases Nat.lt_or_ge j xs.length with h | h
        · exact h
        · rw [List.getElem?_eq_none h] at hx; cases hx
      rw [← flatMap_at he xs j x hx, ← ht, ← List.drop_drop, List.drop_take, List.take_take, Nat.min_eq_left]
      have : (j + 1) * m ≤ xs.length * m := Nat.mul_le_mul_right _ hj
      rw [Nat.add_mul] at this
      omega
theorem View.cell {w : World} {E : World} {Γ : List Chunk} (he : ∀ x, (enc x).length = m) (h : View m enc v xs Δ) (hS : Sat E Γ w) (hd : Δ ∈ Γ) {ad : Addr} {n c : Nat} (hv : v = .slice (some ad) n c) :
    ∀ j u, (xs.flatMap enc)[j]? = some u → w.cell? (ad.add j) = some u := by
  intro j u hj
  obtain ⟨a, cap, h1, h2, h3, h4⟩ := h
  rw [hv] at h1; cases h1
  rcases h4 ad rfl with rfl | ⟨h5, cur, T, fr, hm, ht⟩
  · simp at hj
  have hg := hS.mem _ (List.mem_flatten.2 ⟨Δ, hd, hm⟩)
  have hadd : ad.add j = ⟨ad.block, ad.off + j, none⟩ := by
    obtain ⟨b, o, s⟩ := ad
    simp only at h5; subst h5
    unfold Addr.add; split <;> simp_all
  have hl : j < xs.length * m := by
    rw [← flatMap_len he]
    rcases Nat.lt_or_ge j (xs.flatMap enc).length with h | h
    · exact h
    · rw [List.getElem?_eq_none h] at hj; cases hj
  have hc := cell_at (l := cur.toList) (off := ad.off + j) (by simpa using hg)
  rw [hadd, hc, ← hj, ← ht, List.getElem?_take, if_pos hl, List.getElem?_drop]
theorem View.src {P : Program} {w : World} {E : World} {Γ : List Chunk} {tx e' : TypeId} (he : ∀ x, (enc x).length = m) (h1 : ∀ x, (enc x).all one = true) (h : View m enc v xs Δ) (hS : Sat E Γ w) (hd : Δ ∈ Γ) (hk : P.underlying tx = some (.slice e')) :
    Src P m tx v xs.length (xs.flatMap enc) w := by
  obtain ⟨a, cap, rfl⟩ := h.len
  cases a with
  | none =>
    obtain ⟨_, _, hh, _, h3, _⟩ := h
    cases hh
    obtain rfl := h3 rfl
    exact Src.ofNil w hk _
  | some ad =>
    refine Src.ofSlice w hk ad _ cap _ (flatMap_len he xs) (h.cell he hS hd rfl) (fun u hu => ?_)
    obtain ⟨x, _, hx⟩ := List.mem_flatMap.1 hu
    have := List.all_eq_true.1 (h1 x) u hx
    cases u <;> simp [one] at this <;> rfl
end

section
variable {P : Program} {E : World} {Γ : List Chunk} {f : Nat → Value} {w : World} {K : (Nat → Value) → World → Prop} {d : Nat} {ty : TypeId} {pos : String} {af : Array Edge} {g : Option (Nat × Bool)}
variable {α : Type} {m : Nat} {enc : α → List Value} {v : Value} {xs : List α} {Δ : Chunk}

theorem vr_len_v {x : Operand} {t : TypeId} {e : TypeId} (hu : P.underlying t = some (.slice e)) (hx : ev f x = v) (hv : View m enc v xs Δ) : VR P f ⟨some d, .call ⟨.builtin .len, #[x], #[t]⟩, ty, pos, af, g⟩ (.int .i64 (xs.length : Int)) := by
  obtain ⟨a, cap, rfl⟩ := hv.len
  exact vr_len_sl hu hx
theorem vr_indexV {T e : TypeId} {x i : Operand} {k : IntKind} {j : Int} (hu : P.underlying T = some (.slice e)) (hm : szIs P e m) (hx : ev f x = v) (hv : View m enc v xs Δ) (hi : ev f i = .int k j) (h0 : 0 ≤ j) (h1 : j < xs.length) :
    VR P f ⟨some d, .indexAddr T x i, ty, pos, af, g⟩ (elAt v m j.toNat 0) := by
  obtain ⟨a, cap, rfl, h2, h3, h4⟩ := hv
  cases a with
  | none => have := h3 rfl; subst this; simp at h1; omega
  | some ad =>
    have h5 := ((h4 ad rfl).resolve_left (fun e => by subst e; simp at h1; omega)).1
    obtain ⟨b, o, s⟩ := ad
    simp only at h5; subst h5
    exact vr_indexAddr hu hm hx hi h0 h1
theorem vr_fieldAddrV {S i n k j : Nat} {x : Operand} (hf : fieldOff P S i n) (hx : ev f x = elAt v m j k) (hv : View m enc v xs Δ) (hj : j < xs.length) : VR P f ⟨some d, .fieldAddr S x i, ty, pos, af, g⟩ (elAt v m j (k + n)) := by
  obtain ⟨a, cap, rfl, h2, h3, h4⟩ := hv
  cases a with
  | none => have := h3 rfl; subst this; simp at hj
  | some ad => simpa [elAt, Nat.add_assoc] using vr_fieldAddr (d := d) (ty := ty) (pos := pos) (af := af) (g := g) (off := ad.off + j * m + k) hf hx
theorem lr_loadV1 {T : TypeId} {du : TypeDesc} {x : Operand} {j n : Nat} {y : α} {u : Value} (hu : P.underlying T = some du) (hn : notAgg du = true) (hx : ev f x = elAt v m j n) (hv : View m enc v xs Δ) (hd : Δ ∈ Γ) (hy : xs[j]? = some y) (he : ∀ x, (enc x).length = m) (hu1 : (enc y)[n]? = some u) :
    LR P (Sat E Γ) f ⟨some d, .load T x, ty, pos, af, g⟩ u := by
  intro w hS
  obtain ⟨b, off, l, T', fr, h1, h2, h3⟩ := hv.at he hS hd hy
  have hnm : n < m := by
    rw [← he y]
    rcases Nat.lt_or_ge n (enc y).length with h | h
    · exact h
    · rw [List.getElem?_eq_none h] at hu1; cases hu1
  have hc : l[off + n]? = some u := by
    rw [← h3, List.getElem?_take, if_pos hnm, List.getElem?_drop] at hu1
    exact hu1
  have := run_loadVar1 (P := P) hu hn ((cell_at h2).trans hc)
  simp [execOp, hx, h1, Instr.loadAt, Instr.sureAddr, this]
theorem lr_loadVA {T : TypeId} {du : TypeDesc} {x : Operand} {j : Nat} {y : α} {cs : List Value} (hu : P.underlying T = some du) (hn : notAgg du = false) (hm : szIs P T m) (hx : ev f x = elAt v m j 0) (hv : View m enc v xs Δ) (hd : Δ ∈ Γ) (hy : xs[j]? = some y) (he : ∀ x, (enc x).length = m) (hcs : enc y = cs) :
    LR P (Sat E Γ) f ⟨some d, .load T x, ty, pos, af, g⟩ (.agg cs.toArray) := by
  intro w hS
  subst hcs
  obtain ⟨b, off, l, T', fr, h1, h2, h3⟩ := hv.at he hS hd hy
  have := run_loadVarA (P := P) hu hn hm h2 h3 (he y)
  simp [execOp, hx, h1, Instr.loadAt, Instr.sureAddr, this]

theorem putAt_append : ∀ (a b c : List Value) (r : List Value), c.length = b.length → putAt (a ++ c ++ r) a.length b = a ++ b ++ r
  | a, [], c, r, h => by
    have : c = [] := List.eq_nil_of_length_eq_zero h
    subst this; simp [putAt]
  | a, x :: b, [], r, h => by simp at h
  | a, x :: b, y :: c, r, h => by
    have := putAt_append (a ++ [x]) b c r (by simpa using h)
    simp only [putAt]
    rw [show (a ++ y :: c ++ r).set a.length x = a ++ [x] ++ c ++ r by simp]
    simpa using this

theorem run_append_own2 {t tx ty' e by_ : Nat} {z : Value} {u : Value} {n : Nat} {ys : List α} (hS : Sat E (Δ :: Γ) w) (ht : P.underlying t = some (.slice e)) (hi : infoIs P e m by_ z) (hz : z.cells.size = m) (h0 : 0 < m)
    (ho : Own e m enc v xs Δ) (he : ∀ x, (enc x).length = m) (hs : Src P m tx u ys.length (ys.flatMap enc) w) (hn : xs.length + ys.length ≤ maxLen) (hb : (xs.length + ys.length) * by_ ≤ 140737488355328) :
    ∃ v' Δ' Δo w', (Builtin.append_ #[t, tx] ty' #[v, u]).run P w = .ok v' w' ∧ Own e m enc v' (xs ++ ys) Δ' ∧ Sat E (Δ' :: Δo :: Γ) w' ∧ View m enc v xs (Δ' ++ Δo) := by
  obtain ⟨hi1, hi2⟩ := hi
  unfold zeroIs at hi2
  cases hinf : P.info? e with
  | none => rw [hinf] at hi1; cases hi1
  | some i =>
    rw [hinf] at hi1 hi2
    simp only [Option.map_some, Option.some.injEq, Prod.mk.injEq, Option.bind_some] at hi1 hi2
    obtain ⟨rfl, rfl⟩ := hi1
    have hsmall : ((xs.length + ys.length : Nat) : Int) ≤ 9223372036854775807 := by simp only [maxLen] at hn; omega
    have hone : (ys.flatMap enc).all one = true := List.all_eq_true.2 fun c hc => by have := hs.one c hc; cases c <;> simp [Value.oneCell'] at this <;> rfl
    have hly := hs.newsLen
    have hlx := flatMap_len he xs
    have grown : ∀ (old : Nat), old < xs.length + ys.length → ∀ {w1 : World}, w1 = w.drew.alloc (.cells ((xs.flatMap enc ++ ys.flatMap enc).toArray ++ Builtin.zeroCells z.cells (grownCap w (xs.length + ys.length) old e - (xs.length + ys.length))) e) →
        ∃ Δ', Own e i.size enc (.slice (some ⟨w.heap.size, 0, none⟩) (xs.length + ys.length) (grownCap w (xs.length + ys.length) old e)) (xs ++ ys) Δ' ∧ Sat E (Δ' :: Δ :: Γ) w1 ∧ View i.size enc v xs (Δ' ++ Δ) := by
      intro old hold w1 hw1
      have hge := grownCap_ge w (xs.length + ys.length) old e
      have hcm : grownCap w (xs.length + ys.length) old e ≤ maxLen := grownCap_le_maxLen w (xs.length + ys.length) old e hn
      refine ⟨_, .inr ⟨w.heap.size, _, (Builtin.zeroCells z.cells (grownCap w (xs.length + ys.length) old e - (xs.length + ys.length))).toList, by rw [List.length_append], rfl, by rw [List.length_append]; exact hge, hcm, ?_⟩, ?_, (ho.view he).mono fun p hp => List.mem_append.2 (.inr hp)⟩
      · have hzl : ∀ n, (Builtin.zeroCells z.cells n).toList.length = n * i.size := fun n => by rw [← hz, ← size_zeroCells]; rfl
        rw [List.flatMap_append, List.length_append, List.length_append, hlx, hly, hzl, ← Nat.add_mul, ← Nat.add_mul]
        congr 1; omega
      · have h1 : Sat E (Δ :: Γ) w.drew := hS.drew _
        have h2 := h1.alloc (.cells ((xs.flatMap enc ++ ys.flatMap enc).toArray ++ Builtin.zeroCells z.cells (grownCap w (xs.length + ys.length) old e - (xs.length + ys.length))) e)
        rw [hw1]
        have hcells : ((xs ++ ys).flatMap enc ++ (Builtin.zeroCells z.cells (grownCap w (xs.length + ys.length) old e - (xs.length + ys.length))).toList).toArray = (xs.flatMap enc ++ ys.flatMap enc).toArray ++ Builtin.zeroCells z.cells (grownCap w (xs.length + ys.length) old e - (xs.length + ys.length)) := by
          apply Array.ext'; simp
        rw [hcells]
        exact h2
    have ho' := ho
    rcases ho with ⟨rfl, rfl, rfl⟩ | ⟨gg, cap, rest, rfl, rfl, h1, h2, h3⟩
    · by_cases hy0 : ys = []
      · subst hy0
        refine ⟨.slice none 0 0, [], [], w, ?_, .inl ⟨rfl, rfl, rfl⟩, Sat.nilc.2 hS, ho'.view he⟩
        have hk := hs.kind
        have hc := hs.cells
        have hl := hs.len
        simp only [List.flatMap_nil, List.length_nil] at hc hl
        rcases hk with ⟨e', hk⟩ | hk <;> simp [Builtin.append_, run_underlying ht, run_underlying hk, sizeOf, typeInfo, hinf, hl, hc]
      · have hpos : 0 < ys.length := List.length_pos_iff.2 hy0
        have hfit : Builtin.nextslicecap (0 + ys.length) 0 * i.bytes ≤ 281474976710656 := by
          rw [Nat.zero_add, nextslicecap_zero hpos]; simp at hb; omega
        have hr := run_append_grow_src (P := P) w t tx ty' e i z ht hinf hi2 none 0 0 [] (run_firstCells_none _ _ _ _ _) u ys.length _ hs (by omega) (by simpa using hsmall) hfit
        simp only [List.length_nil, Nat.zero_add, List.nil_append, List.flatMap_nil] at grown hr
        obtain ⟨Δ', h5, h6, h7⟩ := grown 0 hpos rfl
        exact ⟨_, Δ', _, _, hr, by simpa using h5, h6, h7⟩
    · by_cases hroom : xs.length + ys.length ≤ cap
      · have hH : Has ([(gg, Obj.cells (xs.flatMap enc ++ rest).toArray e (0, 0))] :: Γ) gg (Obj.cells (xs.flatMap enc ++ rest).toArray e (0, 0)) (fun o' => [(gg, o')] :: Γ) := Has.here
        have hrest : ys.length * i.size ≤ rest.length := by
          rw [List.length_append, hlx] at h3
          have := Nat.mul_le_mul_right i.size hroom
          rw [Nat.add_mul] at this
          omega
        obtain ⟨w', hst, hw'⟩ := run_storeCells (P := P) (ys.flatMap enc) (xs.length * i.size) 0 _ _ _ w hS hH hone (by rw [List.length_append, hlx, hly]; omega)
        refine ⟨.slice (some ⟨gg, 0, none⟩) (xs.length + ys.length) cap, _, [], w', ?_, .inr ⟨gg, cap, rest.drop (ys.length * i.size), by rw [List.length_append], rfl, by rw [List.length_append]; exact hroom, h2, ?_⟩, ?_, ?_⟩
        · have hadd : (⟨gg, 0, none⟩ : Addr).add (xs.length * i.size) = ⟨gg, xs.length * i.size, none⟩ := by simp [Addr.add_lit]
          rcases hs.kind with ⟨e', hk⟩ | hk <;> simp [Builtin.append_, run_underlying ht, run_underlying hk, sizeOf, typeInfo, hinf, hs.len, hroom, hs.cells, hadd, hst]
        · rw [List.length_append, hlx] at h3
          rw [List.flatMap_append, List.length_append, List.length_append, List.length_drop, hlx, hly]
          omega
        · have hp := putAt_append (xs.flatMap enc) (ys.flatMap enc) (rest.take (ys.length * i.size)) (rest.drop (ys.length * i.size)) (by rw [List.length_take, hly]; omega)
          rw [List.append_assoc (xs.flatMap enc), List.take_append_drop, hlx] at hp
          simp only [Nat.add_zero] at hw'
          rw [hp] at hw'
          rw [List.flatMap_append]
          exact hw'.perm (by simp)
        · refine ⟨_, _, rfl, h1, fun h => (by cases h), fun ad had => ?_⟩
          cases had
          refine .inr ⟨rfl, _, _, _, List.mem_append.2 (.inl (List.mem_singleton.2 rfl)), ?_⟩
          simp only [List.drop_zero, List.toList_toArray]
          rw [← hlx, List.flatMap_append, List.append_assoc, List.take_left]
      · have hc : ∀ j u, (xs.flatMap enc)[j]? = some u → w.drew.cell? ((⟨gg, 0, none⟩ : Addr).add j) = some u := by
          have hv : View i.size enc (.slice (some ⟨gg, 0, none⟩) xs.length cap) xs [(gg, Obj.cells (xs.flatMap enc ++ rest).toArray e (0, 0))] := Own.view (T := e) he (.inr ⟨gg, cap, rest, rfl, rfl, h1, h2, h3⟩)
          exact hv.cell he (hS.drew _) (by simp) rfl
        have hold := run_firstCells_some (P := P) w.drew i.size xs.length ⟨gg, 0, none⟩ xs.length cap _ hlx hc
        have hr := run_append_grow_src (P := P) w t tx ty' e i z ht hinf hi2 (some ⟨gg, 0, none⟩) xs.length cap _ hold u ys.length _ hs (by omega) hsmall (growslice_fits (by omega) hb)
        obtain ⟨Δ', h5, h6, h7⟩ := grown cap (by omega) rfl
        exact ⟨_, Δ', _, _, hr, h5, h6, h7⟩
theorem ow_append {t tx e e' by_ : Nat} {x y : Operand} {z u : Value} {ys : List α} {Δy : Chunk} {U : Chunk → List Chunk} (hS : Sat E Γ w) (ht : P.underlying t = some (.slice e)) (htx : P.underlying tx = some (.slice e')) (hi : infoIs P e m by_ z) (hz : z.cells.size = m) (h0 : 0 < m)
    (hx : ev f x = v) (hy : ev f y = u) (ho : Own e m enc v xs Δ) (hv : View m enc u ys Δy) (hc : HasC Γ Δ U) (hd : Δy ∈ Γ) (he : ∀ x, (enc x).length = m) (h1 : ∀ x, (enc x).all one = true) (hn : xs.length + ys.length ≤ maxLen) (hb : (xs.length + ys.length) * by_ ≤ 140737488355328)
    (h : ∀ v' Δ' w', Own e m enc v' (xs ++ ys) Δ' → Sat E (U Δ') w' → K (upd f d v') w') : OW P ⟨some d, .call ⟨.builtin .append, #[x, y], #[t, tx]⟩, ty, pos, af, g⟩ f w K := by
  have hs := hv.src (P := P) (tx := tx) he h1 hS hd htx
  obtain ⟨v', Δ', Δo, w', hr, h5, h6, _⟩ := run_append_own2 (P := P) (ty' := ty) (hc.front hS) ht hi hz h0 ho he hs hn hb (n := 0)
  refine ow_val (v := v') (w' := w') ?_ (h v' Δ' w' h5 (hc.fill h6.front1.tail1))
  simp only [execOp, resolve, invoke, builtin, Sem.run_bind, Sem.run_pure, Result.andThen_ok, List.map_toArray, List.map_cons, List.map_nil, hx, hy, hr]
/-- The old one is looked at later too. -/
theorem ow_append_keep {t tx e e' by_ : Nat} {x y : Operand} {z u : Value} {ys : List α} {Δy : Chunk} {U : Chunk → List Chunk} (hS : Sat E Γ w) (ht : P.underlying t = some (.slice e)) (htx : P.underlying tx = some (.slice e')) (hi : infoIs P e m by_ z) (hz : z.cells.size = m) (h0 : 0 < m)
    (hx : ev f x = v) (hy : ev f y = u) (ho : Own e m enc v xs Δ) (hv : View m enc u ys Δy) (hc : HasC Γ Δ U) (hd : Δy ∈ Γ) (he : ∀ x, (enc x).length = m) (h1 : ∀ x, (enc x).all one = true) (hn : xs.length + ys.length ≤ maxLen) (hb : (xs.length + ys.length) * by_ ≤ 140737488355328)
    (h : ∀ v' Δ' w', View m enc v xs Δ' → View m enc v' (xs ++ ys) Δ' → Sat E (U Δ') w' → K (upd f d v') w') : OW P ⟨some d, .call ⟨.builtin .append, #[x, y], #[t, tx]⟩, ty, pos, af, g⟩ f w K := by
  have hs := hv.src (P := P) (tx := tx) he h1 hS hd htx
  obtain ⟨v', Δ', Δo, w', hr, h5, h6, h7⟩ := run_append_own2 (P := P) (ty' := ty) (hc.front hS) ht hi hz h0 ho he hs hn hb (n := 0)
  refine ow_val (v := v') (w' := w') ?_ (h v' (Δ' ++ Δo) w' h7 ((h5.view he).mono fun p hp => List.mem_append.2 (.inl hp)) (hc.fill (Sat.parts.2 h6)))
  simp only [execOp, resolve, invoke, builtin, Sem.run_bind, Sem.run_pure, Result.andThen_ok, List.map_toArray, List.map_cons, List.map_nil, hx, hy, hr]

/-! slice literals -/
theorem ow_buildSlice {T e len : Nat} {parts : Array (Nat × Operand)} {z : Value} {base cs : List Value} {vs : List (Nat × Value)} (hS : Sat E Γ w) (hu : P.underlying T = some (.slice e)) (hm : szIs P e m) (hz : zeroIs P e z)
    (hbase : (Array.range (len * m)).map (z.cells[· % z.cells.size]!) = base.toArray) (hp : ¬ len * m > 2 ^ 24) (hpos : ¬ len * m = 0)
    (hv : parts.toList.map (fun x => (x.1, ev f x.2)) = vs) (hf : Instr.fill (fun i => some (i * m, m)) base.toArray vs = some cs.toArray)
    (h : ∀ b w', Sat E ([(b, .cells cs.toArray e (0, 0))] :: Γ) w' → K (upd f d (.slice (some ⟨b, 0, none⟩) len len)) w') : OW P ⟨some d, .buildSlice T len parts, ty, pos, af, g⟩ f w K := by
  refine ow_val (v := .slice (some ⟨w.heap.size, 0, none⟩) len len) (w' := { w with heap := w.heap.push (.cells cs.toArray e) }) ?_ (h _ _ (hS.alloc _))
  have hv' : (parts.map fun (i, x) => (i, ev f x)).toList = vs := by rw [← hv]; simp
  simp only [execOp, Instr.buildSlice, Sem.run_bind, run_underlying hu, Result.andThen_ok, run_sizeOf' hm, hp, hpos, if_false, run_zeroValue' hz, Sem.run_pure, hbase, hv', hf]
  simp [newRow]

theorem fold_set (off : Nat) : ∀ (c : List Value) (j : Nat) (pre old post : List Value), pre.length = off + j → old.length = c.length →
    (c.zipIdx j).foldl (fun (cs : Array Value) (x : Value × Nat) => cs.setIfInBounds (off + x.2) x.1) (pre ++ old ++ post).toArray = (pre ++ c ++ post).toArray
  | [], j, pre, old, post, h1, h2 => by
    have : old = [] := List.eq_nil_of_length_eq_zero h2
    subst this; simp
  | x :: c, j, pre, [], post, h1, h2 => by simp at h2
  | x :: c, j, pre, y :: old, post, h1, h2 => by
    rw [List.zipIdx_cons, List.foldl_cons]
    have hset : ((pre ++ y :: old ++ post).toArray.setIfInBounds (off + j) x) = (pre ++ [x] ++ old ++ post).toArray := by
      apply Array.ext'
      rw [Array.toList_setIfInBounds]
      simp [← h1]
    rw [hset, show pre ++ [x] ++ old ++ post = (pre ++ [x]) ++ old ++ post from rfl, fold_set off c (j + 1) (pre ++ [x]) old post (by simp [h1]; omega) (by simpa using h2)]
    simp
theorem fill_dense : ∀ (vs : List Value) (i : Nat) (pre base : List Value), (∀ u ∈ vs, u.cells.size = m) → pre.length = i * m → base.length = vs.length * m →
    Instr.fill (fun i => some (i * m, m)) (pre ++ base).toArray ((vs.zipIdx i).map fun x => (x.2, x.1)) = some (pre ++ vs.flatMap fun u => u.cells.toList).toArray
  | [], i, pre, base, _, h1, h2 => by
    have : base = [] := List.eq_nil_of_length_eq_zero (by simpa using h2)
    subst this; simp [Instr.fill]
  | u :: vs, i, pre, base, h0, h1, h2 => by
    have hu : u.cells.size = m := h0 u (by simp)
    have hb : m ≤ base.length := by rw [h2, List.length_cons, Nat.add_mul]; omega
    have hfold : (u.cells.zipIdx.foldl (fun cs (x : Value × Nat) => cs.setIfInBounds (i * m + x.2) x.1) (pre ++ base).toArray) = (pre ++ u.cells.toList ++ base.drop m).toArray := by
      rw [← Array.foldl_toList, Array.toList_zipIdx]
      have := fold_set (i * m) u.cells.toList 0 pre (base.take m) (base.drop m) (by simp [h1]) (by simp [hu]; omega)
      rw [List.append_assoc pre, List.take_append_drop] at this
      exact this
    have hc1 : ¬ (i * m + m > (pre ++ base).toArray.size) := by simp [h1]; omega
    have ih := fill_dense vs (i + 1) (pre ++ u.cells.toList) (base.drop m) (fun x hx => h0 x (by simp [hx])) (by simp [h1, hu, Nat.add_mul]) (by rw [List.length_drop, h2, List.length_cons, Nat.add_mul]; omega)
    rw [List.zipIdx_cons, List.map_cons, Instr.fill]
    simp only [hu, ne_eq, not_true_eq_false, decide_false, Bool.false_or, hc1, Bool.false_eq_true, if_false]
    rw [hfold, ih]
    simp
/-- All places are written, from the first one on. -/
theorem ow_buildSliceD {T e len by_ : Nat} {parts : Array (Nat × Operand)} {z : Value} {cs vs : List Value} (hS : Sat E Γ w) (hu : P.underlying T = some (.slice e)) (hi : infoIs P e m by_ z) (hz : z.cells.size = m)
    (hp : ¬ len * m > 2 ^ 24) (hpos : ¬ len * m = 0) (hn : vs.length = len) (hv : parts.toList.map (fun x => (x.1, ev f x.2)) = (vs.zipIdx 0).map fun x => (x.2, x.1)) (hm : ∀ u ∈ vs, u.cells.size = m) (hcs : vs.flatMap (fun u => u.cells.toList) = cs)
    (h : ∀ b w', Sat E ([(b, .cells cs.toArray e (0, 0))] :: Γ) w' → K (upd f d (.slice (some ⟨b, 0, none⟩) len len)) w') : OW P ⟨some d, .buildSlice T len parts, ty, pos, af, g⟩ f w K := by
  have hsz : szIs P e m := by
    have := hi.1
    unfold szIs
    cases hinf : P.info? e with
    | none => rw [hinf] at this; cases this
    | some i => rw [hinf] at this; simp at this; simp [this.1]
  have hbl : ((Array.range (len * m)).map (z.cells[· % z.cells.size]!)).toList.length = vs.length * m := by simp [hn]
  refine ow_buildSlice (base := ((Array.range (len * m)).map (z.cells[· % z.cells.size]!)).toList) hS hu hsz hi.2 (by apply Array.ext'; rfl) hp hpos hv ?_ h
  have := fill_dense (m := m) vs 0 [] ((Array.range (len * m)).map (z.cells[· % z.cells.size]!)).toList hm (by simp) hbl
  rw [List.nil_append, List.nil_append, hcs] at this
  exact this

/-! cutting -/
def subSl (v : Value) (m l h : Nat) : Value := match v with
  | .slice a n cap => .slice (if cap = l then a else a.map (·.add (l * m))) (h - l) (cap - l)
  | v => v
theorem View.sub {l h : Nat} (he : ∀ x, (enc x).length = m) (hv : View m enc v xs Δ) (h1 : l ≤ h) (h2 : h ≤ xs.length) : View m enc (subSl v m l h) ((xs.drop l).take (h - l)) Δ := by
  obtain ⟨a, cap, rfl, h3, h4, h5⟩ := hv
  have hlen : ((xs.drop l).take (h - l)).length = h - l := by rw [List.length_take, List.length_drop]; omega
  refine ⟨if cap = l then a else a.map (·.add (l * m)), cap - l, by rw [hlen]; rfl, by rw [hlen]; omega, ?_, ?_⟩
  · intro hn
    apply List.eq_nil_of_length_eq_zero
    rw [hlen]
    split at hn
    · omega
    · cases a with
      | none => have := h4 rfl; subst this; simp at h2; omega
      | some ad => cases hn
  · intro ad had
    split at had
    · left
      apply List.eq_nil_of_length_eq_zero
      rw [hlen]; omega
    · cases a with
      | none => cases had
      | some a0 =>
        rcases h5 a0 rfl with rfl | ⟨h6, cur, T, fr, hm, ht⟩
        · exact .inl (by simp)
        · obtain ⟨b, o, sp⟩ := a0
          simp only at h6; subst h6
          simp only [Option.map_some, Option.some.injEq, Addr.add_lit] at had
          subst had
          refine .inr ⟨rfl, cur, T, fr, hm, ?_⟩
          simp only at ht ⊢
          rw [hlen, ← flatMap_takeM he, ← flatMap_dropM he, ← ht, List.drop_take, List.take_take, List.drop_drop]
          congr 1
          have := Nat.mul_le_mul_right m h2
          rw [Nat.sub_mul, Nat.min_eq_left (by omega)]
theorem vr_slice_v {T e : TypeId} {x : Operand} {lo hi : Option Operand} {l h : Nat} (hu : P.underlying T = some (.slice e)) (hm : szIs P e m) (hx : ev f x = v) (hv : View m enc v xs Δ)
    (hlo : (match lo with | some o => ∃ k, ev f o = .int k (l : Int) | none => l = 0)) (hhi : (match hi with | some o => ∃ k, ev f o = .int k (h : Int) | none => h = xs.length)) (h1 : l ≤ h) (h2 : h ≤ xs.length) :
    VR P f ⟨some d, .slice T x lo hi none, ty, pos, af, g⟩ (subSl v m l h) := by
  intro w
  obtain ⟨a, cap, rfl, h3, h4, h5⟩ := hv
  have i1 : (l : Int) ≤ (h : Int) := by omega
  have i2 : (h : Int) ≤ (cap : Int) := by omega
  have i3 : (l : Int) ≤ (xs.length : Int) := by omega
  have i4 : (xs.length : Int) ≤ (cap : Int) := by omega
  have e1 : ¬ h < l := by omega
  have e2 : ¬ cap < h := by omega
  have e3 : ¬ cap < l := by omega
  have e4 : ¬ xs.length < l := by omega
  cases lo with
  | none =>
    simp only at hlo; subst hlo
    cases hi with
    | none => simp only at hhi; subst hhi; simp [execOp, hx, Instr.sliceAt, Instr.slice, Instr.sliceBounds, run_underlying hu, run_sizeOf' hm, subSl]
    | some o => obtain ⟨k, hk⟩ := hhi; simp [execOp, hx, hk, Instr.sliceAt, Instr.slice, Instr.sliceBounds, Instr.sliceBound, asIntOf, run_underlying hu, run_sizeOf' hm, i2, e2, subSl]
  | some o' =>
    obtain ⟨k', hk'⟩ := hlo
    cases hi with
    | none => simp only at hhi; subst hhi; simp [execOp, hx, hk', Instr.sliceAt, Instr.slice, Instr.sliceBounds, Instr.sliceBound, asIntOf, run_underlying hu, run_sizeOf' hm, i1, i3, i4, e1, e3, e4, subSl]
    | some o => obtain ⟨k, hk⟩ := hhi; simp [execOp, hx, hk, hk', Instr.sliceAt, Instr.slice, Instr.sliceBounds, Instr.sliceBound, asIntOf, run_underlying hu, run_sizeOf' hm, i1, i2, e1, e2, h1, h2, subSl]

/-! a thing is written -/
theorem flatMap_set {α : Type} {m : Nat} {enc : α → List Value} (he : ∀ x, (enc x).length = m) : ∀ (xs : List α) (j n : Nat) (y y' : α) (u : Value), xs[j]? = some y → n < m → enc y' = (enc y).set n u → (xs.flatMap enc).set (j * m + n) u = (xs.set j y').flatMap enc
  | [], j, n, y, y', u, h, _, _ => by simp at h
  | x :: xs, 0, n, y, y', u, h, hn, hy => by
    simp at h; subst h
    rw [Nat.zero_mul, Nat.zero_add, List.flatMap_cons, List.set_append_left _ _ (by rw [he]; exact hn), List.set_cons_zero, List.flatMap_cons, hy]
  | x :: xs, j + 1, n, y, y', u, h, hn, hy => by
    rw [List.flatMap_cons, List.set_append_right _ _ (by rw [he, Nat.add_mul]; omega), List.set_cons_succ, List.flatMap_cons, he]
    congr 1
    rw [← flatMap_set he xs j n y y' u (by simpa using h) hn hy]
    congr 1
    rw [Nat.add_mul]; omega
theorem ow_storeOwn {T T' : TypeId} {x y : Operand} {j n : Nat} {b b' : α} {u : Value} {U : Chunk → List Chunk} (hS : Sat E Γ w) (hm : szIs P T 1) (hx : ev f x = elAt v m j n) (hy : ev f y = u) (h1 : one u = true)
    (ho : Own T' m enc v xs Δ) (hc : HasC Γ Δ U) (hb : xs[j]? = some b) (he : ∀ x, (enc x).length = m) (hn : n < m) (hb' : enc b' = (enc b).set n u)
    (h : ∀ Δ' w', Own T' m enc v (xs.set j b') Δ' → Sat E (U Δ') w' → K f w') : OW P ⟨none, .store T x y, ty, pos, af, g⟩ f w K := by
  rcases ho with ⟨rfl, rfl, rfl⟩ | ⟨gg, cap, rest, rfl, rfl, h2, h3, h4⟩
  · simp at hb
  have hj : j < xs.length := by
    rcases Nat.lt_or_ge j xs.length with h | h
    · exact h
    · rw [List.getElem?_eq_none h] at hb; cases hb
  have hlt : j * m + n < (xs.flatMap enc).length := by
    rw [flatMap_len he]
    have := Nat.mul_le_mul_right m (show j + 1 ≤ xs.length from hj)
    rw [Nat.add_mul] at this; omega
  refine ow_store1 (b := gg) (off := 0 + j * m + n) hS hm hx hy h1 hc.has (by rw [List.length_append]; omega) fun w' hw' => ?_
  rw [Nat.zero_add, List.set_append_left _ _ hlt, flatMap_set he xs j n b b' u hb hn hb'] at hw'
  refine h _ w' (.inr ⟨gg, cap, rest, by rw [List.length_set], rfl, by rw [List.length_set]; exact h2, h3, ?_⟩) hw'
  rw [← h4, List.length_append, List.length_append, flatMap_len he, flatMap_len he, List.length_set]

/-- A slice compared with nil. -/
def nilS : Value → Bool
  | .slice none _ _ => true
  | _ => false
theorem View.nilS (hv : View m enc v xs Δ) (h : nilS v = true) : xs = [] := by
  obtain ⟨a, cap, rfl, h2, h3, h4⟩ := hv
  cases a with
  | none => exact h3 rfl
  | some a => cases h
theorem vr_eqnilS {T t' e : TypeId} {x : Operand} (hu : P.underlying T = some (.slice e)) (hx : ev f x = v) (hv : View m enc v xs Δ) : VR P f ⟨some d, .binOp .eql T x (.const (.slice none 0 0)) t', ty, pos, af, g⟩ (.bool (Go.Proofs.YtjcagoighpmdkaaGreatDoor.nilS v)) := by
  obtain ⟨a, cap, rfl⟩ := hv.len
  refine vr_eqlg hx rfl rfl (fun w => ?_) (fun w => run_equal fun n => by rw [Op.equalIn, Sem.run_bind, run_underlying hu]; cases a <;> rfl)
  simp [eqGuard, run_underlying hu]
/-- T{} of a slice type. -/
theorem Own.empty {T : TypeId} {b : Nat} : Own T m enc (.slice (some ⟨b, 0, none⟩) 0 0) [] [(b, .cells ([] : List Value).toArray T (0, 0))] :=
  .inr ⟨b, 0, [], rfl, by simp, Nat.le_refl _, by unfold maxLen; omega, by simp⟩
theorem ow_buildSlice0 {T e : Nat} (hS : Sat E Γ w) (hu : P.underlying T = some (.slice e)) (hm : szIs P e m)
    (h : ∀ v Δ w', Own e m enc v ([] : List α) Δ → Sat E (Δ :: Γ) w' → K (upd f d v) w') : OW P ⟨some d, .buildSlice T 0 #[], ty, pos, af, g⟩ f w K := by
  refine ow_val (v := .slice (some ⟨w.heap.size, 0, none⟩) 0 0) (w' := { w with heap := w.heap.push (.cells #[] e) }) ?_ (h _ _ _ Own.empty (hS.alloc _))
  simp [execOp, Instr.buildSlice, run_underlying hu, run_sizeOf' hm, Instr.fill, newRow, Sem.run]
  rw [Array.eq_empty_of_size_eq_zero (xs := Array.map _ (Array.range 0)) (by simp)]
/-! contracts over blocks that are only looked at (they lie anywhere) -/
def FnG (P : Program) (N : FuncId) (args : List Value) (needs : List Chunk) (R : Value → List Chunk → Prop) : Prop :=
  ∀ E F w, Sat E F w → (∀ D ∈ needs, D ∈ F) → Returns P N args.toArray w (fun v w' => ∃ Δ, R v Δ ∧ Sat E (Δ ++ F) w')
theorem FnG.mk {N : FuncId} {args : List Value} {needs : List Chunk} {R : Value → List Chunk → Prop} (h : ∀ E F w, Sat E F w → (∀ D ∈ needs, D ∈ F) → Returns P N args.toArray w (fun v w' => ∃ Δ, R v Δ ∧ Sat E (Δ ++ F) w')) : FnG P N args needs R := h
theorem needs0 {Γ : List Chunk} : ∀ D ∈ ([] : List Chunk), D ∈ Γ := fun _ h => by cases h
theorem needsC {Γ : List Chunk} {a : Chunk} {l : List Chunk} (h : a ∈ Γ) (t : ∀ D ∈ l, D ∈ Γ) : ∀ D ∈ a :: l, D ∈ Γ := fun D hd => by
  rcases List.mem_cons.1 hd with rfl | hd
  · exact h
  · exact t D hd
theorem needs1 {Γ : List Chunk} {a : Chunk} (h : a ∈ Γ) : ∀ D ∈ [a], D ∈ Γ := fun _ hd => by simp at hd; subst hd; exact h
theorem needs2 {Γ : List Chunk} {a b : Chunk} (h : a ∈ Γ) (h' : b ∈ Γ) : ∀ D ∈ [a, b], D ∈ Γ := fun _ hd => by simp at hd; rcases hd with rfl | rfl <;> assumption
theorem needs3 {Γ : List Chunk} {a b c : Chunk} (h : a ∈ Γ) (h' : b ∈ Γ) (h'' : c ∈ Γ) : ∀ D ∈ [a, b, c], D ∈ Γ := fun _ hd => by simp at hd; rcases hd with rfl | rfl | rfl <;> assumption
theorem ow_fng {N : Nat} {args : Array Operand} {ats : Array TypeId} {vs : List Value} {needs : List Chunk} {R : Value → List Chunk → Prop} (hb : Enters P N) (ha : (args.toList.map (ev f)) = vs) (hS : Sat E Γ w) (hF : FnG P N vs needs R) (hn : ∀ D ∈ needs, D ∈ Γ)
    (h : ∀ v Δ w', R v Δ → Sat E (Δ ++ Γ) w' → K (upd f d v) w') : OW P ⟨some d, .call ⟨.value (.func N), args, ats⟩, ty, pos, af, g⟩ f w K :=
  ow_call hb ha ((hF E Γ w hS hn).mono fun v w' ⟨Δ, h1, h2⟩ => h v Δ w' h1 h2)

/-! contracts over blocks that are written, and others that are only looked at -/
def FnM (P : Program) (N : FuncId) (args : List Value) (Γ needs : List Chunk) (R : Value → List Chunk → Prop) : Prop :=
  ∀ E F w, Sat E (Γ ++ F) w → (∀ D ∈ needs, D ∈ F) → Returns P N args.toArray w (fun v w' => ∃ Δ, R v Δ ∧ Sat E (Δ ++ F) w')
theorem FnM.mk {N : FuncId} {args : List Value} {Γ needs : List Chunk} {R : Value → List Chunk → Prop} (h : ∀ E F w, Sat E (Γ ++ F) w → (∀ D ∈ needs, D ∈ F) → Returns P N args.toArray w (fun v w' => ∃ Δ, R v Δ ∧ Sat E (Δ ++ F) w')) : FnM P N args Γ needs R := h
theorem ow_fnm {N : Nat} {args : Array Operand} {ats : Array TypeId} {vs : List Value} {F needs : List Chunk} {R : Value → List Chunk → Prop} (hb : Enters P N) (ha : (args.toList.map (ev f)) = vs) (hS : Sat E (Γ ++ F) w) (hF : FnM P N vs Γ needs R) (hn : ∀ D ∈ needs, D ∈ F)
    (h : ∀ v Δ w', R v Δ → Sat E (Δ ++ F) w' → K (upd f d v) w') : OW P ⟨some d, .call ⟨.value (.func N), args, ats⟩, ty, pos, af, g⟩ f w K :=
  ow_call hb ha ((hF E F w hS hn).mono fun v w' ⟨Δ, h1, h2⟩ => h v Δ w' h1 h2)
theorem ow_fnm0 {N : Nat} {args : Array Operand} {ats : Array TypeId} {vs : List Value} {F needs : List Chunk} {R : Value → List Chunk → Prop} (hb : Enters P N) (ha : (args.toList.map (ev f)) = vs) (hS : Sat E (Γ ++ F) w) (hF : FnM P N vs Γ needs R) (hn : ∀ D ∈ needs, D ∈ F)
    (h : ∀ v Δ w', R v Δ → Sat E (Δ ++ F) w' → K f w') : OW P ⟨none, .call ⟨.value (.func N), args, ats⟩, ty, pos, af, g⟩ f w K :=
  ow_call0 hb ha ((hF E F w hS hn).mono fun v w' ⟨Δ, h1, h2⟩ => h v Δ w' h1 h2)
theorem Sat.opn4 {a b c e : Chunk} {L : List Chunk} : Sat E ([[a, b, c, e].flatten] ++ L) w ↔ Sat E (a :: b :: c :: e :: L) w :=
  ⟨fun h => h.perm (by simp), fun h => h.perm (by simp)⟩
theorem Sat.back3 {a b c e : Chunk} {L : List Chunk} (h : Sat E (a :: b :: c :: e :: L) w) : Sat E (b :: c :: e :: a :: L) w :=
  h.perm (flat_swap.trans (flat_cons (flat_swap.trans (flat_cons flat_swap))))

/-! structs compared -/
theorem run_part1 {t : TypeId} {du : TypeDesc} {xs : Array Value} {off : Nat} {u : Value} (hu : P.underlying t = some du) (hn : notAgg du = true) (hx : xs[off]? = some u) : (part t xs off).run P w = .ok u w := by
  cases du <;> simp [notAgg] at hn <;> simp [part, isAgg, run_underlying hu, hx]
theorem eqf_step {dd : Nat} {xs ys : Array Value} {fd : Field} {fs : List Field} {a b : Value} {r s : Bool} (hn : (fd.name == "_") = false) (hpa : (part fd.type xs fd.offset).run P w = .ok a w) (hpb : (part fd.type ys fd.offset).run P w = .ok b w)
    (he : (Op.equalIn dd fd.type a b).run P w = .ok r w) (hr : (Op.eqFields dd xs ys fs).run P w = .ok s w) : (Op.eqFields dd xs ys (fd :: fs)).run P w = .ok (r && s) w := by
  have hne : fd.name ≠ "_" := by simpa using hn
  cases r <;> simp [Op.eqFields, hne, Sem.run_bind, hpa, hpb, he, hr]
theorem eqf_nil {dd : Nat} {xs ys : Array Value} : (Op.eqFields dd xs ys []).run P w = .ok true w := rfl
/-- Comparing two structs of a type gives b, for 'x == y' and 'x != y'. -/
theorem vr_eql_st {T t' : TypeId} {x y : Operand} {xs ys : Array Value} {b : Bool} (hm : P.eqGuardType P.depth T = false) (hx : ev f x = .agg xs) (hy : ev f y = .agg ys) (he : ∀ w, (Op.equalIn 10000 T (.agg xs) (.agg ys)).run P w = .ok b w) :
    VR P f ⟨some d, .binOp .eql T x y t', ty, pos, af, g⟩ (.bool b) := by
  intro w
  simp only [execOp, hx, hy, Sem.run_bind, run_eqGuard_agg w .eql T x y xs ys hm, Result.andThen_ok, run_eql_struct, he, Sem.run_pure]
theorem vr_neq_st {T t' : TypeId} {x y : Operand} {xs ys : Array Value} {b : Bool} (hm : P.eqGuardType P.depth T = false) (hx : ev f x = .agg xs) (hy : ev f y = .agg ys) (he : ∀ w, (Op.equalIn 10000 T (.agg xs) (.agg ys)).run P w = .ok b w) :
    VR P f ⟨some d, .binOp .neq T x y t', ty, pos, af, g⟩ (.bool (!b)) := by
  intro w
  simp only [execOp, hx, hy, Sem.run_bind, run_eqGuard_agg w .neq T x y xs ys hm, Result.andThen_ok, run_neq_struct, he, Sem.run_pure]
/-- A struct of single cells, all of them given. -/
theorem fill_ones (pl : Nat → Option (Nat × Nat)) : ∀ (vs : List Value) (i : Nat) (pre base : List Value), vs.all one = true → (∀ j, j < i + vs.length → pl j = some (j, 1)) → pre.length = i → base.length = vs.length →
    Instr.fill pl (pre ++ base).toArray ((vs.zipIdx i).map fun x => (x.2, x.1)) = some (pre ++ vs).toArray
  | [], i, pre, base, _, _, h1, h2 => by
    have : base = [] := List.eq_nil_of_length_eq_zero (by simpa using h2)
    subst this; simp [Instr.fill]
  | u :: vs, i, pre, [], h0, hp, h1, h2 => by simp at h2
  | u :: vs, i, pre, b :: base, h0, hp, h1, h2 => by
    simp only [List.all_cons, Bool.and_eq_true] at h0
    have hu := cells_one h0.1
    have ih := fill_ones pl vs (i + 1) (pre ++ [u]) base h0.2 (fun j hj => hp j (by simp only [List.length_cons]; omega)) (by simp [h1]) (by simpa using h2)
    rw [List.zipIdx_cons, List.map_cons, Instr.fill, hp i (by simp)]
    simp only [hu]
    have hset : ((pre ++ b :: base).toArray.setIfInBounds i u) = (pre ++ [u] ++ base).toArray := by
      apply Array.ext'
      rw [Array.toList_setIfInBounds]
      simp [← h1]
    have hsz : ¬ (pre ++ b :: base).toArray.size < i + 1 := by simp [h1]
    simp only [List.size_toArray, List.length_cons, List.length_nil, Nat.zero_add, ne_eq, not_true_eq_false, decide_false, Bool.false_or, gt_iff_lt, hsz]
    rw [show (Array.foldl (fun cs x => cs.setIfInBounds (i + x.snd) x.fst) (pre ++ b :: base).toArray #[u].zipIdx) = (pre ++ b :: base).toArray.setIfInBounds i u by simp]
    rw [hset]
    simp only [List.size_toArray] at hsz
    simp only [hsz, decide_false, Bool.false_eq_true, if_false]
    rw [ih]; simp
theorem vr_build1 {T : TypeId} {parts : Array (Nat × Operand)} {z : Value} {pl : List (Nat × Nat)} {ps : List (Nat × Value)} {vs : List Value} (hz : zeroIs P T z) (hp : placesIs P T pl) (hzc : Nat.beq vs.length z.cells.toList.length = true) (hpl : pl = (List.range vs.length).map fun i => (i, 1))
    (hv : parts.toList.map (fun x => (x.1, ev f x.2)) = ps) (hps : ps = (vs.zipIdx 0).map fun x => (x.2, x.1)) (h1 : vs.all one = true) : VR P f ⟨some d, .build T parts, ty, pos, af, g⟩ (.agg vs.toArray) := by
  subst hps
  refine vr_build (cs := vs) hz hp hv ?_
  have := fill_ones (pl.toArray[·]?) vs 0 [] z.cells.toList h1 (fun j hj => by subst hpl; have hj : j < vs.length := (by simpa using hj); simp [hj]) rfl (Nat.eq_of_beq_eq_true hzc).symm
  simpa using this
end
end Go.Proofs.YtjcagoighpmdkaaGreatDoor
