/- For every groups of changes, and every cut, flittinglaw6.EntryGroups returns true, and its arguments read as they did. No condition. -/
import Derived.Test.YtfekgjdahckdhaaLawEntry
namespace Go.Proofs.Ytfekgjdahckdhaa
open Go Go.RowKit Go.ChangeShapes Go.WideShapes Go.ChangeAt
open Go.ChangeMaps (open_string shut_string)
set_option linter.unusedVariables false
set_option maxRecDepth 100000 in
theorem entry_groups_lifted (os : Os) (started : os.Started) (H : Type) (enc : TypeId × Value → H) :
    ReturnsInHanded {} Try.checked os 6 .any (Rows.entryGroupsSpec.pre6 enc Try.prog Try.f6 Rows.entryGroupsRow.domain false) (Rows.entryGroupsSpec.post enc Try.prog Try.f6 false true false false) := by
  refine returnsInHanded_of_change (C := Try.checked) rowOwn started (by kernel_rfl) Try.func6
    (ChangeSpec.witness6 (enc := enc) (C := Try.checked) false ⟨#[], #[.slice none 0 0, .int .i64 0], []⟩ 8 (by kernel_rfl) (by kernel_rfl) (by kernel_rfl) (by kernel_rfl)) ?_
  intro W base args ds gs before hval0 hW hcnd _
  have hval : ∀ (j : Nat) t v, Try.f6.params[j]? = some t → args[j]? = some v → Value.okWide Try.prog W .any base t v := hval0
  have hW' := hW
  obtain ⟨p, q, hA0, hV, rfl, hfz, hnd⟩ := hW
  have hA : DataW.TrodAll enc Try.prog W 0 (fun _ => true) true Try.f6.params.toList args.toList ds p := hA0
  rw [Try.params6] at hA hval
  obtain ⟨v0, vs0, d0, ds0, p0, q0, hargs, rfl, rfl, h0, r0⟩ := trodAll_cons hA
  obtain ⟨v1, vs1, d1, ds1, p1, q1, rfl, rfl, rfl, h1, r1⟩ := trodAll_cons r0
  obtain ⟨rfl, rfl, rfl⟩ := trodAll_nil r1
  obtain rfl : args = #[v0, v1] := by cases args; simp_all
  obtain ⟨rfl, rfl⟩ := trodVars_none hV
  have k0 := h0
  have lt0 : ∀ x ∈ p0, x.block < W.heap.size := by obtain ⟨m, hm⟩ := k0; exact DataW.trod_lt m _ _ _ hm
  have v0sl := h0
  have k1 := h1
  have lt1 : ∀ x ∈ p1, x.block < W.heap.size := by obtain ⟨m, hm⟩ := k1; exact DataW.trod_lt m _ _ _ hm
  obtain ⟨a1, rfl, rfl, rfl, w1⟩ := open_int Try.underlying3 (hval 1 3 v1 rfl rfl) h1
  have w1 := i64_of_wf w1
  clear hA0 hval0
  have main : Calls Try.prog 6 #[v0, .int .i64 a1] W (fun e w' => e = .returned (.bool true) ∧ Below W.heap.size W w') := by
    obtain ⟨l, hv, hg, hn⟩ := open_view (α := VL) (m := 1) (enc := fun y => [y.1]) (good := fun y => View 2 encC y.1 y.2 (Sat.all W) ∧ y.2.length ≤ maxLen) (fun _ => rfl) (by decide) Try.underlying32 (by kernel_rfl) (fun cs x n h => by obtain ⟨v, xs, rfl, h1, h2, h3⟩ := view_of_trod (α := Ch) (m := 2) (enc := encC) (good := fun _ => True) (fun _ => rfl) (by decide) Try.underlying35 (by kernel_rfl) (fun cs x n h => by obtain ⟨y, hy, _⟩ := el_pair Try.underlying70 (by kernel_rfl) (by kernel_rfl) rfl h; exact ⟨y, hy, trivial⟩) h; exact ⟨(v, xs), rfl, h1, h3⟩) (hval 0 32 v0 rfl rfl) h0
    exact law_ofG (entry_groups l a1 v0 _ hv (fun y hy => (hg y hy).1) hn (fun y hy => (hg y hy).2) w1) W (by simp)
  refine main.mono fun e W' ⟨he, bel⟩ => ?_
  subst he
  exact ⟨_, rfl, _, _, _, [], _, [], hW', trodAll_mk1 (shut_bool Try.underlying4 _), (trodAll_cons_mk (Below.trod rowLaid (by kernel_rfl) (of_decide_eq_true (by kernel_rfl)) k0 bel lt0) (trodAll_cons_mk (Below.trod rowLaid (by kernel_rfl) (of_decide_eq_true (by kernel_rfl)) k1 bel lt1) trodAll_mk0)), rfl, bel.frame _, fun h => by cases h⟩

theorem entry_groups_over : Rows.entryGroupsRow.holds Try.pinned (OpenSpec.ofChange Rows.entryGroupsSpec) :=
  OpenClaim.holds_of_wide 6 Try.f6 rfl rfl rfl rfl rfl rfl rfl ⟨rfl, rfl, rfl, rfl, rfl⟩ rfl rfl rfl rfl rfl (by kernel_rfl) Try.func6 (by kernel_rfl)
    (of_decide_eq_true (by kernel_rfl)) (by unfold Func.isWrapper; first | (rw [if_pos (by decide +kernel)]; kernel_rfl) | (rw [if_neg (by decide +kernel)]; exact ⟨rfl, rfl⟩))
    (fun os started H enc _ => entry_groups_lifted os started H enc)
/-- The statement. -/
theorem entry_groups_holds : Rows.EntryGroupsSaid := entry_groups_over
#print axioms entry_groups_holds
end Go.Proofs.Ytfekgjdahckdhaa
