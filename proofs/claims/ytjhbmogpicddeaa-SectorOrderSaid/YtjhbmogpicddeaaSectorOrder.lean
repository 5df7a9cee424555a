/- For every texts, and what is kept, flittinglaw2.SectorOrder returns true, and its arguments read as they did. No condition. -/
import Derived.Test.YtjhbmogpicddeaaLawSector1
import Derived.Test.YtjhbmogpicddeaaArgs
namespace Go.Proofs.Ytjhbmogpicddeaa
open Go Go.RowKit Go.ChangeShapes Go.WideShapes Go.ChangeAt
open Go.ChangeMaps (open_string shut_string)
set_option linter.unusedVariables false
set_option maxRecDepth 100000 in
theorem sector_order_lifted (os : Os) (started : os.Started) (H : Type) (enc : TypeId × Value → H) :
    ReturnsInHanded {} Try.checked os 3 .any (Rows.sectorOrderSpec.pre6 enc Try.prog Try.f3 Rows.sectorOrderRow.domain false) (Rows.sectorOrderSpec.post enc Try.prog Try.f3 false true false false) := by
  refine returnsInHanded_of_change (C := Try.checked) rowOwn started (by kernel_rfl) Try.func3
    (ChangeSpec.witness6 (enc := enc) (C := Try.checked) false ⟨#[], #[.slice none 0 0, .slice none 0 0], []⟩ 8 (by kernel_rfl) (by kernel_rfl) (by kernel_rfl) (by kernel_rfl)) ?_
  intro W base args ds gs before hval0 hW hcnd _
  have hval : ∀ (j : Nat) t v, Try.f3.params[j]? = some t → args[j]? = some v → Value.okWide Try.prog W .any base t v := hval0
  have hW' := hW
  obtain ⟨p, q, hA0, hV, rfl, hfz, hnd⟩ := hW
  have hA : DataW.TrodAll enc Try.prog W 0 (fun _ => true) true Try.f3.params.toList args.toList ds p := hA0
  rw [Try.params3] at hA hval
  obtain ⟨v0, vs0, d0, ds0, p0, q0, hargs, rfl, rfl, h0, r0⟩ := trodAll_cons hA
  obtain ⟨v1, vs1, d1, ds1, p1, q1, rfl, rfl, rfl, h1, r1⟩ := trodAll_cons r0
  obtain ⟨rfl, rfl, rfl⟩ := trodAll_nil r1
  obtain rfl : args = #[v0, v1] := by cases args; simp_all
  obtain ⟨rfl, rfl⟩ := trodVars_none hV
  have k0 := h0
  have lt0 : ∀ x ∈ p0, x.block < W.heap.size := by obtain ⟨m, hm⟩ := k0; exact DataW.trod_lt m _ _ _ hm
  have v0sl := h0
  have k1 := h1
  have lt1 : ∀ x ∈ p1, x.block < W.heap.size := by obtain ⟨m, hm⟩ := k1; exact DataW.trod_lt m _ _ _ hm
  have v1sl := h1
  clear hA0 hval0
  have main : Calls Try.prog 3 #[v0, v1] W (fun e w' => e = .returned (.bool true) ∧ Below W.heap.size W w') := by
    obtain ⟨l0, hv0, hg0, hn0⟩ := open_view (α := List UInt8) (m := 1) (enc := encS) (good := fun y => y.length ≤ 9223372036854775807) (fun _ => rfl) (by decide) Try.underlying22 (by kernel_rfl) (fun cs x n h => el_str Try.underlying9 h) (hval 0 22 v0 rfl rfl) h0
    obtain ⟨l1, hv1, hg1, hn1⟩ := open_view (α := Int) (m := 1) (enc := encI) (good := inI64) (fun _ => rfl) (by decide) Try.underlying23 (by kernel_rfl) (fun cs x n h => el_int Try.underlying3 h) (hval 1 23 v1 rfl rfl) h1
    exact law_ofG (sector_order l0 v0 _ hv0 hg0 hn0 l1 v1 _ hv1 hn1) W (by simp)
  refine main.mono fun e W' ⟨he, bel⟩ => ?_
  subst he
  exact ⟨_, rfl, _, _, _, [], _, [], hW', trodAll_mk1 (shut_bool Try.underlying4 _), (trodAll_cons_mk (Below.trod rowLaid (by kernel_rfl) (of_decide_eq_true (by kernel_rfl)) k0 bel lt0) (trodAll_cons_mk (Below.trod rowLaid (by kernel_rfl) (of_decide_eq_true (by kernel_rfl)) k1 bel lt1) trodAll_mk0)), rfl, bel.frame _, fun h => by cases h⟩

theorem sector_order_over : Rows.sectorOrderRow.holds Try.pinned (OpenSpec.ofChange Rows.sectorOrderSpec) :=
  OpenClaim.holds_of_wide 3 Try.f3 rfl rfl rfl rfl rfl rfl rfl ⟨rfl, rfl, rfl, rfl, rfl⟩ rfl rfl rfl rfl rfl (by kernel_rfl) Try.func3 (by kernel_rfl)
    (of_decide_eq_true (by kernel_rfl)) (by unfold Func.isWrapper; first | (rw [if_pos (by decide +kernel)]; kernel_rfl) | (rw [if_neg (by decide +kernel)]; exact ⟨rfl, rfl⟩))
    (fun os started H enc _ => sector_order_lifted os started H enc)
/-- The statement. -/
theorem sector_order_holds : Rows.SectorOrderSaid := sector_order_over
#print axioms sector_order_holds
end Go.Proofs.Ytjhbmogpicddeaa
