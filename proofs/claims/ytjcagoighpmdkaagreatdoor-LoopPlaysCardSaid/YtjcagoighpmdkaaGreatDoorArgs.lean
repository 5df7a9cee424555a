/- What a law's arguments are: slices read off the form's own reading. -/
import Derived.Test.YtjcagoighpmdkaaGreatDoorRow
import Derived.Test.YtjcagoighpmdkaaGreatDoorFacts
namespace Go.Proofs.YtjcagoighpmdkaaGreatDoor
open Go Go.RowKit Go.ChangeShapes Go.WideShapes Go.ChangeAt Go.Deep
set_option linter.unusedVariables false
section
variable {P : Program} {W : World} {base : Nat} {H : Type} {enc' : TypeId × Value → H} {spare : Nat → Bool} {held : Bool}
theorem view_of_trod {α : Type} [Inhabited α] {m : Nat} {enc : α → List Value} {good : α → Prop} {t e : TypeId} {fuel : Nat} {cs : List Value} {x : DataW H × List MemPlace} (he : ∀ y, (enc y).length = m) (hm : 0 < m) (ht : P.underlying t = some (.slice e)) (hc : P.cellsOf e = m)
    (hel : ∀ cs x n, DataW.trod enc' P W base spare held n e cs = some x → ∃ y : α, cs = enc y ∧ good y) (h : DataW.trod enc' P W base spare held fuel t cs = some x) :
    ∃ v, ∃ xs : List α, cs = [v] ∧ View m enc v xs (Sat.all W) ∧ (∀ y ∈ xs, good y) ∧ xs.length ≤ maxLen := by
  rcases open_slice ht h with ⟨rfl, _⟩ | ⟨a, len, cap, k, n, D, Pl, rfl, _, hl, hm', hk, _, hx⟩
  · exact ⟨_, [], rfl, ⟨none, 0, rfl, Nat.le_refl _, fun _ => rfl, fun _ h => (by cases h)⟩, by simp, by simp⟩
  have hlk : len ≤ k := by rw [hk]; split <;> omega
  rw [hc] at hx
  obtain ⟨V, hV⟩ := choose_lt (α := α) (n := len) (p := fun i y => W.cells? base (a.add (i * m)) m = some (enc y) ∧ good y) (fun i hi => by
    obtain ⟨cs', h1, h2⟩ := hx i (by omega)
    obtain ⟨y, rfl, hg⟩ := hel _ _ _ h2
    exact ⟨y, h1, hg⟩)
  have hlen : ((List.range len).map V).length = len := by simp
  refine ⟨_, (List.range len).map V, rfl, ⟨some a, cap, by rw [hlen], by rw [hlen]; exact hl, fun h => (by cases h), ?_⟩, ?_, by rw [hlen]; omega⟩
  · intro ad had
    cases had
    rcases Nat.eq_zero_or_pos len with rfl | hpos
    · left; rfl
    right
    have hcell : ∀ j, j < len * m → W.cell? (a.add j) = (((List.range len).map V).flatMap enc)[j]? := by
      intro j hj
      have hi : j / m < len := Nat.div_lt_of_lt_mul (by rw [Nat.mul_comm]; exact hj)
      have hr : j % m < m := Nat.mod_lt _ hm
      obtain ⟨_, _, h3⟩ := World.cells?_some (hV (j / m) hi).1
      have h4 := h3 (j % m) hr
      have hdm : j / m * m + j % m = j := by rw [Nat.mul_comm]; exact Nat.div_add_mod j m
      have hadd : (a.add (j / m * m)).add (j % m) = a.add j := by
        unfold Addr.add
        by_cases z1 : j / m * m = 0 <;> by_cases z2 : j % m = 0 <;> by_cases z3 : j = 0 <;> simp [z1, z2, z3] <;> omega
      rw [hadd] at h4
      have h5 := flatMap_at he ((List.range len).map V) (j / m) (V (j / m)) (by simp [hi])
      rw [h4, ← h5, List.getElem?_take, if_pos hr, List.getElem?_drop, hdm]
    have h0 : 0 < len * m := Nat.mul_pos hpos hm
    have hfl : (((List.range len).map V).flatMap enc).length = len * m := by rw [flatMap_len he, hlen]
    have hsome : ∀ j, j < len * m → ∃ u, W.cell? (a.add j) = some u := fun j hj => by rw [hcell j hj]; exact ⟨_, List.getElem?_eq_getElem (by rw [hfl]; exact hj)⟩
    obtain ⟨u0, hu0⟩ := hsome 0 h0
    have ha0 : a.add 0 = a := by simp [Addr.add]
    rw [ha0] at hu0
    have hheap : ∃ cur T fr, W.heap[a.block]? = some (.cells cur T fr) ∧ a.spot = none := by
      unfold World.cell? at hu0
      split at hu0
      · rename_i c T fr hg
        split at hu0
        · cases hu0
        · rename_i hsp; exact ⟨c, T, fr, hg, by simpa using hsp⟩
      · cases hu0
    obtain ⟨cur, T, fr, hg, hsp⟩ := hheap
    refine ⟨hsp, cur, T, fr, Sat.mem_all.2 hg, ?_⟩
    rw [hlen]
    have hget : ∀ j, j < len * m → cur.toList[a.off + j]? = (((List.range len).map V).flatMap enc)[j]? := by
      intro j hj
      rw [← hcell j hj]
      have hadd : a.add j = ⟨a.block, a.off + j, none⟩ := by
        obtain ⟨b, o, s⟩ := a
        simp only at hsp; subst hsp
        unfold Addr.add; split <;> simp_all
      rw [hadd]
      simp [World.cell?, hg]
    apply List.ext_getElem?
    intro j
    rcases Nat.lt_or_ge j (len * m) with hj | hj
    · rw [List.getElem?_take, if_pos hj, List.getElem?_drop, hget j hj]
    · rw [List.getElem?_take, if_neg (by omega), List.getElem?_eq_none (by rw [hfl]; exact hj)]
  · intro y hy
    obtain ⟨i, hi, rfl⟩ := List.mem_map.1 hy
    exact (hV i (by simpa using hi)).2
theorem open_view {α : Type} [Inhabited α] {m : Nat} {enc : α → List Value} {good : α → Prop} {r : Reach} {b0 : Nat} {t e : TypeId} {v : Value} {d : DataW H} {p : List MemPlace} (he : ∀ y, (enc y).length = m) (hm : 0 < m) (ht : P.underlying t = some (.slice e)) (hc : P.cellsOf e = m)
    (hel : ∀ cs x n, DataW.trod enc' P W base spare held n e cs = some x → ∃ y : α, cs = enc y ∧ good y) (hval : Value.okWide P W r b0 t v) (h : DataW.Trod enc' P W base spare held t v d p) :
    ∃ xs : List α, View m enc v xs (Sat.all W) ∧ (∀ y ∈ xs, good y) ∧ xs.length ≤ 9223372036854775807 := by
  obtain ⟨a, len, cap, rfl⟩ := okWide_slice ht hval
  obtain ⟨fuel, hf⟩ := h
  obtain ⟨v, xs, h1, h2, h3, h4⟩ := view_of_trod he hm ht hc hel hf
  simp [Value.cells] at h1
  subst h1
  exact ⟨xs, h2, h3, h4⟩
/-- Ints, strings. -/
theorem el_int {e : TypeId} {fuel : Nat} {cs : List Value} {x : DataW H × List MemPlace} (ht : P.underlying e = some (.int .i64)) (h : DataW.trod enc' P W base spare held fuel e cs = some x) : ∃ y : Int, cs = encI y ∧ inI64 y := by
  obtain ⟨n, rfl, _, hw⟩ := DataW.trod_int ht h
  exact ⟨n, rfl, i64_of_wf hw⟩
theorem el_str {e : TypeId} {fuel : Nat} {cs : List Value} {x : DataW H × List MemPlace} (ht : P.underlying e = some .string) (h : DataW.trod enc' P W base spare held fuel e cs = some x) : ∃ y : List UInt8, cs = encS y ∧ y.length ≤ 9223372036854775807 := by
  obtain ⟨s, rfl, _, hs⟩ := DataW.trod_string ht h
  exact ⟨s.data.toList, rfl, str_of_wf hs⟩
end
theorem law_ofG {N : FuncId} {args : List Value} {needs : List Chunk} (h : FnG Tryz.prog N args needs (fun u Δs => u = .bool true ∧ Δs = [])) (W : World) (hn : ∀ D ∈ needs, D = Sat.all W) : Calls Tryz.prog N args.toArray W (fun e w' => e = .returned (.bool true) ∧ Below W.heap.size W w') := by
  refine Calls.mono (h W [Sat.all W] W (Sat.init W) (fun D hD => by simp [hn D hD])) ?_
  rintro e w' ⟨v, he, Δ, ⟨rfl, rfl⟩, hS⟩
  exact ⟨he, hS.done⟩
end Go.Proofs.YtjcagoighpmdkaaGreatDoor
