/- For every entry, every bytes, every changes and every entries, flittinglaw6.EntryTells returns true, and its arguments read as they did. No condition. -/
import Derived.Test.YtjcagoighpmdkaaLawEntryTells
import Derived.Test.YtjcagoighpmdkaaArgsC
namespace Go.Proofs.Ytjcagoighpmdkaa
open Go Go.RowKit Go.ChangeShapes Go.WideShapes Go.ChangeAt
open Go.ChangeMaps (open_string shut_string)
set_option linter.unusedVariables false
section
variable {P : Program} {W : World} {base : Nat} {H : Type} {enc' : TypeId × Value → H} {spare : Nat → Bool} {held : Bool}
theorem el_entr {e : TypeId} {fs : Array Field} {fuel : Nat} {cs : List Value} {x : DataW H × List MemPlace} (hs : P.underlying e = some (.struct fs)) (hi : intFields P fs = true) (hc : P.cellsOf e = fs.size) (h2 : fs.size = 5)
    (h : DataW.trod enc' P W base spare held fuel e cs = some x) : ∃ y : Entr, cs = encE y := by
  obtain ⟨ns, rfl, hl, hb⟩ := trod_ints hs hi hc h
  obtain ⟨a, b, c, d, f, rfl⟩ := list5 (hl.trans h2)
  exact ⟨⟨a, b, c, d, f⟩, rfl⟩
instance : Inhabited Entr := ⟨⟨0, 0, 0, 0, 0⟩⟩
end
set_option maxRecDepth 100000 in
theorem entry_tells_lifted (os : Os) (started : os.Started) (H : Type) (enc : TypeId × Value → H) :
    ReturnsInHanded {} Try.checked os 3 .any (Rows.entryTellsSpec.pre6 enc Try.prog Try.f3 Rows.entryTellsRow.domain false) (Rows.entryTellsSpec.post enc Try.prog Try.f3 false true false false) := by
  refine returnsInHanded_of_change (C := Try.checked) rowOwn started (by kernel_rfl) Try.func3
    (ChangeSpec.witness6 (enc := enc) (C := Try.checked) false ⟨#[], #[.agg #[.int .i64 0, .int .i64 0, .int .i64 0, .int .i64 0, .int .i64 0], .string ⟨#[]⟩, .int .i64 0, .int .i64 0, .slice none 0 0, .slice none 0 0], []⟩ 8 (by kernel_rfl) (by kernel_rfl) (by kernel_rfl) (by kernel_rfl)) ?_
  intro W base args ds gs before hval0 hW hcnd _
  have hval : ∀ (j : Nat) t v, Try.f3.params[j]? = some t → args[j]? = some v → Value.okWide Try.prog W .any base t v := hval0
  have hW' := hW
  obtain ⟨p, q, hA0, hV, rfl, hfz, hnd⟩ := hW
  have hA : DataW.TrodAll enc Try.prog W 0 (fun _ => true) true Try.f3.params.toList args.toList ds p := hA0
  rw [Try.params3] at hA hval
  obtain ⟨v0, vs0, d0, ds0, p0, q0, hargs, rfl, rfl, h0, r0⟩ := trodAll_cons hA
  obtain ⟨v1, vs1, d1, ds1, p1, q1, rfl, rfl, rfl, h1, r1⟩ := trodAll_cons r0
  obtain ⟨v2, vs2, d2, ds2, p2, q2, rfl, rfl, rfl, h2, r2⟩ := trodAll_cons r1
  obtain ⟨v3, vs3, d3, ds3, p3, q3, rfl, rfl, rfl, h3, r3⟩ := trodAll_cons r2
  obtain ⟨v4, vs4, d4, ds4, p4, q4, rfl, rfl, rfl, h4, r4⟩ := trodAll_cons r3
  obtain ⟨v5, vs5, d5, ds5, p5, q5, rfl, rfl, rfl, h5, r5⟩ := trodAll_cons r4
  obtain ⟨rfl, rfl, rfl⟩ := trodAll_nil r5
  obtain rfl : args = #[v0, v1, v2, v3, v4, v5] := by cases args; simp_all
  obtain ⟨rfl, rfl⟩ := trodVars_none hV
  have k0 := h0
  have lt0 : ∀ x ∈ p0, x.block < W.heap.size := by obtain ⟨m, hm⟩ := k0; exact DataW.trod_lt m _ _ _ hm
  obtain ⟨ns0, rfl, hl0, w0⟩ := open_ints_st Try.underlying23 (by kernel_rfl) (by kernel_rfl) (hval 0 23 v0 rfl rfl) h0
  obtain ⟨a0_0, a0_1, a0_2, a0_3, a0_4, rfl⟩ := list5 hl0
  simp only [List.forall_mem_cons, List.not_mem_nil, false_implies, implies_true, and_true] at w0
  have k1 := h1
  have lt1 : ∀ x ∈ p1, x.block < W.heap.size := by obtain ⟨m, hm⟩ := k1; exact DataW.trod_lt m _ _ _ hm
  obtain ⟨a1, rfl, rfl, rfl, w1⟩ := open_string Try.underlying9 (hval 1 9 v1 rfl rfl) h1
  have k2 := h2
  have lt2 : ∀ x ∈ p2, x.block < W.heap.size := by obtain ⟨m, hm⟩ := k2; exact DataW.trod_lt m _ _ _ hm
  obtain ⟨a2, rfl, rfl, rfl, w2⟩ := open_int Try.underlying3 (hval 2 3 v2 rfl rfl) h2
  have w2 := i64_of_wf w2
  have k3 := h3
  have lt3 : ∀ x ∈ p3, x.block < W.heap.size := by obtain ⟨m, hm⟩ := k3; exact DataW.trod_lt m _ _ _ hm
  obtain ⟨a3, rfl, rfl, rfl, w3⟩ := open_int Try.underlying3 (hval 3 3 v3 rfl rfl) h3
  have w3 := i64_of_wf w3
  have k4 := h4
  have lt4 : ∀ x ∈ p4, x.block < W.heap.size := by obtain ⟨m, hm⟩ := k4; exact DataW.trod_lt m _ _ _ hm
  have v4sl := h4
  have k5 := h5
  have lt5 : ∀ x ∈ p5, x.block < W.heap.size := by obtain ⟨m, hm⟩ := k5; exact DataW.trod_lt m _ _ _ hm
  have v5sl := h5
  clear hA0 hval0
  have main : Calls Try.prog 3 #[.agg #[.int .i64 a0_0, .int .i64 a0_1, .int .i64 a0_2, .int .i64 a0_3, .int .i64 a0_4], .string a1, .int .i64 a2, .int .i64 a3, v4, v5] W (fun e w' => e = .returned (.bool true) ∧ Below W.heap.size W w') := by
    obtain ⟨l4, hv4, hg4, hn4⟩ := open_view (α := Int × Int) (m := 2) (enc := encC) (good := fun _ => True) (fun _ => rfl) (by decide) Try.underlying24 (by kernel_rfl) (fun cs x n h => by obtain ⟨y, hy, _⟩ := el_pair Try.underlying71 (by kernel_rfl) (by kernel_rfl) rfl h; exact ⟨y, hy, trivial⟩) (hval 4 24 v4 rfl rfl) h4
    obtain ⟨l5, hv5, hg5, hn5⟩ := open_view (α := Entr) (m := 5) (enc := encE) (good := fun _ => True) (fun _ => rfl) (by decide) Try.underlying25 (by kernel_rfl) (fun cs x n h => by obtain ⟨y, hy⟩ := el_entr Try.underlying23 (by kernel_rfl) (by kernel_rfl) rfl h; exact ⟨y, hy, trivial⟩) (hval 5 25 v5 rfl rfl) h5
    exact law_ofG (entry_tells (⟨a0_0, a0_1, a0_2, a0_3, a0_4⟩ : Entr) a1.data.toList a2 a3 l4 l5 v4 v5 _ _ hv4 hv5 w2 (str_of_wf w1) hn4 hn5) W (by simp)
  refine main.mono fun e W' ⟨he, bel⟩ => ?_
  subst he
  exact ⟨_, rfl, _, _, _, [], _, [], hW', trodAll_mk1 (shut_bool Try.underlying4 _), (trodAll_cons_mk (Below.trod rowLaid (by kernel_rfl) (of_decide_eq_true (by kernel_rfl)) k0 bel lt0) (trodAll_cons_mk (Below.trod rowLaid (by kernel_rfl) (of_decide_eq_true (by kernel_rfl)) k1 bel lt1) (trodAll_cons_mk (Below.trod rowLaid (by kernel_rfl) (of_decide_eq_true (by kernel_rfl)) k2 bel lt2) (trodAll_cons_mk (Below.trod rowLaid (by kernel_rfl) (of_decide_eq_true (by kernel_rfl)) k3 bel lt3) (trodAll_cons_mk (Below.trod rowLaid (by kernel_rfl) (of_decide_eq_true (by kernel_rfl)) k4 bel lt4) (trodAll_cons_mk (Below.trod rowLaid (by kernel_rfl) (of_decide_eq_true (by kernel_rfl)) k5 bel lt5) trodAll_mk0)))))), rfl, bel.frame _, fun h => by cases h⟩

theorem entry_tells_over : Rows.entryTellsRow.holds Try.pinned (OpenSpec.ofChange Rows.entryTellsSpec) :=
  OpenClaim.holds_of_wide 3 Try.f3 rfl rfl rfl rfl rfl rfl rfl ⟨rfl, rfl, rfl, rfl, rfl⟩ rfl rfl rfl rfl rfl (by kernel_rfl) Try.func3 (by kernel_rfl)
    (of_decide_eq_true (by kernel_rfl)) (by unfold Func.isWrapper; first | (rw [if_pos (by decide +kernel)]; kernel_rfl) | (rw [if_neg (by decide +kernel)]; exact ⟨rfl, rfl⟩))
    (fun os started H enc _ => entry_tells_lifted os started H enc)
/-- The statement. -/
theorem entry_tells_holds : Rows.EntryTellsSaid := entry_tells_over
#print axioms entry_tells_holds
end Go.Proofs.Ytjcagoighpmdkaa
