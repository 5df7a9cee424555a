/- For every size, head and deeds, flittinglaw7.LoopPlays returns true, and its arguments read as they did. Condition: the package-level variable errors.errorType holds what the program's text lays there (the card ties it). -/
import Derived.Test.YtjcagoighpmdkaaGreatDoorLawLoop4
import Derived.Test.YtjcagoighpmdkaaGreatDoorLaid
import Derived.Test.YtjcagoighpmdkaaGreatDoorArgsC
namespace Go.Proofs.YtjcagoighpmdkaaGreatDoor
open Go Go.RowKit Go.ChangeShapes Go.WideShapes Go.ChangeAt
open Go.ChangeMaps (open_string shut_string)
set_option linter.unusedVariables false
section
variable {W : World} {base : Nat} {H : Type} {enc' : TypeId × Value → H} {spare : Nat → Bool} {held : Bool}
theorem five {α : Type} {xs : List α} (h : xs.length = 5) : ∃ a b c d e, xs = [a, b, c, d, e] := by
  match xs, h with
  | [a, b, c, d, e], _ => exact ⟨a, b, c, d, e, rfl⟩
instance : Inhabited OpR := ⟨⟨0, 0, 0, .slice none 0 0, [], .slice none 0 0, []⟩⟩
theorem el_op {fuel : Nat} {cs : List Value} {x : DataW H × List MemPlace} (h : DataW.trod enc' Tryz.prog W base spare held fuel 40 cs = some x) :
    ∃ y : OpR, cs = encOp y ∧ View 2 encC y.vL y.cs (Sat.all W) ∧ View 1 encI y.vK y.ks (Sat.all W) ∧ y.cs.length ≤ maxLen ∧ y.ks.length ≤ maxLen := by
  obtain ⟨xs, m, rfl, rfl, hl, hlen, hf⟩ := DataW.trod_struct Tryz.underlying40 h
  have hcl : cs.length = 5 := hl.trans (by kernel_rfl)
  have hxl : xs.length = 5 := hlen
  obtain ⟨c0, c1, c2, c3, c4, rfl⟩ := five hcl
  obtain ⟨x0, x1, x2, x3, x4, rfl⟩ := five hxl
  have hcI : Tryz.prog.cellsOf 3 = 1 := by kernel_rfl
  have hcC : Tryz.prog.cellsOf 28 = 1 := by kernel_rfl
  have hcK : Tryz.prog.cellsOf 38 = 1 := by kernel_rfl
  have e0 : DataW.trod enc' Tryz.prog W base spare held m 3 (([c0, c1, c2, c3, c4].drop 0).take (Tryz.prog.cellsOf 3)) = some x0 := hf 0 _ rfl
  have e1 : DataW.trod enc' Tryz.prog W base spare held m 3 (([c0, c1, c2, c3, c4].drop 1).take (Tryz.prog.cellsOf 3)) = some x1 := hf 1 _ rfl
  have e2 : DataW.trod enc' Tryz.prog W base spare held m 3 (([c0, c1, c2, c3, c4].drop 2).take (Tryz.prog.cellsOf 3)) = some x2 := hf 2 _ rfl
  have e3 : DataW.trod enc' Tryz.prog W base spare held m 28 (([c0, c1, c2, c3, c4].drop 3).take (Tryz.prog.cellsOf 28)) = some x3 := hf 3 _ rfl
  have e4 : DataW.trod enc' Tryz.prog W base spare held m 38 (([c0, c1, c2, c3, c4].drop 4).take (Tryz.prog.cellsOf 38)) = some x4 := hf 4 _ rfl
  rw [hcI] at e0 e1 e2
  rw [hcC] at e3
  rw [hcK] at e4
  obtain ⟨k0, q0, _⟩ := el_int Tryz.underlying3 e0
  obtain ⟨k1, q1, _⟩ := el_int Tryz.underlying3 e1
  obtain ⟨k2, q2, _⟩ := el_int Tryz.underlying3 e2
  obtain ⟨vL, cs, q3, g1, _, g2⟩ := view_of_trod (α := Ch) (m := 2) (enc := encC) (good := fun _ => True) (fun _ => rfl) (by decide) Tryz.underlying28 (by kernel_rfl) (fun cs x n h => by obtain ⟨y, hy, _⟩ := el_pair Tryz.underlying55 (by kernel_rfl) (by kernel_rfl) rfl h; exact ⟨y, hy, trivial⟩) e3
  obtain ⟨vK, ks, q4, g3, _, g4⟩ := view_of_trod (α := Int) (m := 1) (enc := encI) (good := inI64) (fun _ => rfl) (by decide) Tryz.underlying38 (by kernel_rfl) (fun cs x n h => el_int Tryz.underlying3 h) e4
  simp only [List.drop_zero, List.drop_succ_cons, List.take_succ_cons, List.take_zero, encI, List.cons.injEq, and_true] at q0 q1 q2 q3 q4
  subst q0 q1 q2 q3 q4
  exact ⟨⟨k0, k1, k2, _, cs, _, ks⟩, rfl, g1, g3, g2, g4⟩
end
set_option maxRecDepth 100000 in
theorem loop_plays_lifted (os : Os) (started : os.Started) (H : Type) (enc : TypeId × Value → H) :
    ReturnsInHanded {} Tryz.checked os 3 .any (fun w args => (Rows.loopPlaysSpec.pre enc Tryz.prog Tryz.f3 [] false w args ∧ laidMetH Tryz.prog laidL w) ∧ sizedMet enc Tryz.prog Tryz.f3 (OpenSpec.ofChange Rows.loopPlaysSpec) false w args) (Rows.loopPlaysSpec.post enc Tryz.prog Tryz.f3 false true false false) := by
  refine returnsInHanded_of_change_and (C := Tryz.checked) (X := fun w _ => laidMetH Tryz.prog laidL w) (fun _ _ _ hh h => h.of_heap hh) rowOwn started (by kernel_rfl) Tryz.func3
    (ChangeSpec.witness_at (enc := enc) (C := Tryz.checked) (os := os) (X := fun w _ => laidMetH Tryz.prog laidL w) false (laidWorld os) #[.int .i64 0, .int .i64 0, .slice none 0 0] 8 rfl (by kernel_rfl) (by kernel_rfl) (by kernel_rfl) (by kernel_rfl) (by kernel_rfl) (laidWorld_met os _)) ?_
  intro W base args ds gs before hval0 hW _ _ hL _
  have hG : Glob (Sat.all W) := glob_of_laid hL
  have hval : ∀ (j : Nat) t v, Tryz.f3.params[j]? = some t → args[j]? = some v → Value.okWide Tryz.prog W .any base t v := hval0
  have hW' := hW
  obtain ⟨p, q, hA0, hV, rfl, hfz, hnd⟩ := hW
  have hA : DataW.TrodAll enc Tryz.prog W 0 (fun _ => true) true Tryz.f3.params.toList args.toList ds p := hA0
  rw [Tryz.params3] at hA hval
  obtain ⟨v0, vs0, d0, ds0, p0, q0, hargs, rfl, rfl, h0, r0⟩ := trodAll_cons hA
  obtain ⟨v1, vs1, d1, ds1, p1, q1, rfl, rfl, rfl, h1, r1⟩ := trodAll_cons r0
  obtain ⟨v2, vs2, d2, ds2, p2, q2, rfl, rfl, rfl, h2, r2⟩ := trodAll_cons r1
  obtain ⟨rfl, rfl, rfl⟩ := trodAll_nil r2
  obtain rfl : args = #[v0, v1, v2] := by cases args; simp_all
  obtain ⟨rfl, rfl⟩ := trodVars_none hV
  have k0 := h0
  have lt0 : ∀ x ∈ p0, x.block < W.heap.size := by obtain ⟨m, hm⟩ := k0; exact DataW.trod_lt m _ _ _ hm
  obtain ⟨a0, rfl, rfl, rfl, w0⟩ := open_int Tryz.underlying3 (hval 0 3 v0 rfl rfl) h0
  have w0 := i64_of_wf w0
  have k1 := h1
  have lt1 : ∀ x ∈ p1, x.block < W.heap.size := by obtain ⟨m, hm⟩ := k1; exact DataW.trod_lt m _ _ _ hm
  obtain ⟨a1, rfl, rfl, rfl, w1⟩ := open_int Tryz.underlying3 (hval 1 3 v1 rfl rfl) h1
  have w1 := i64_of_wf w1
  have k2 := h2
  have lt2 : ∀ x ∈ p2, x.block < W.heap.size := by obtain ⟨m, hm⟩ := k2; exact DataW.trod_lt m _ _ _ hm
  have v2sl := h2
  clear hA0 hval0
  have main : Calls Tryz.prog 3 #[.int .i64 a0, .int .i64 a1, v2] W (fun e w' => e = .returned (.bool true) ∧ Below W.heap.size W w') := by
    obtain ⟨l, hv, hg, hn⟩ := open_view (α := OpR) (m := 5) (enc := encOp) (good := fun y => View 2 encC y.vL y.cs (Sat.all W) ∧ View 1 encI y.vK y.ks (Sat.all W) ∧ y.cs.length ≤ maxLen ∧ y.ks.length ≤ maxLen) (fun _ => rfl) (by decide) Tryz.underlying22 (by kernel_rfl) (fun cs x n h => el_op h) (hval 2 22 v2 rfl rfl) h2
    exact law_ofG (loop_plays a0 a1 l v2 _ _ hv (fun y hy => hg y hy) hG hn) W (by simp)
  refine main.mono fun e W' ⟨he, bel⟩ => ?_
  subst he
  exact ⟨_, rfl, _, _, _, [], _, [], hW', trodAll_mk1 (shut_bool Tryz.underlying4 _), (trodAll_cons_mk (Below.trod rowLaid (by kernel_rfl) (of_decide_eq_true (by kernel_rfl)) k0 bel lt0) (trodAll_cons_mk (Below.trod rowLaid (by kernel_rfl) (of_decide_eq_true (by kernel_rfl)) k1 bel lt1) (trodAll_cons_mk (Below.trod rowLaid (by kernel_rfl) (of_decide_eq_true (by kernel_rfl)) k2 bel lt2) trodAll_mk0))), rfl, bel.frame _, fun h => by cases h⟩

theorem loop_plays_over : Rows.loopPlaysRow.holds Tryz.pinned (OpenSpec.ofChange Rows.loopPlaysSpec) :=
  OpenClaim.holds_of_wide 3 Tryz.f3 rfl rfl rfl rfl rfl rfl rfl ⟨rfl, rfl, rfl, rfl, rfl⟩ rfl rfl rfl rfl rfl (by kernel_rfl) Tryz.func3 (by kernel_rfl)
    (of_decide_eq_true (by kernel_rfl)) (by unfold Func.isWrapper; first | (rw [if_pos (by decide +kernel)]; kernel_rfl) | (rw [if_neg (by decide +kernel)]; exact ⟨rfl, rfl⟩))
    (fun os started H enc _ => loop_plays_lifted os started H enc)
/-- The statement. -/
theorem loop_plays_holds : Rows.LoopPlaysCardSaid :=
  Claim7.holds_tied_plain_at .later [] [.handle] true (true, "e6509df99361cb01f45a27310ba80f771ffb12061af6bf2730d74cd3d61dbee4") true
    loop_plays_over (fun _ h => by cases h) (by kernel_rfl) (fun _ h => by cases h) loopPlays_row_tie rfl ⟨rfl, rfl⟩ (by kernel_rfl) rfl
    (fun f fn hf hfn => by
      obtain rfl : f = 3 := Option.some.inj ((show Tryz.prog.funcNamed "flitting/flittinglaw7.LoopPlays" = some 3 by kernel_rfl).symm.trans hf) |>.symm
      obtain rfl : fn = Tryz.f3 := (Option.some.inj (Tryz.func3.symm.trans hfn)).symm
      refine ⟨by kernel_rfl, fun j t ht => ?_⟩
      have hm : t ∈ Tryz.f3.params.toList := by
        have := List.mem_of_getElem? (l := Tryz.f3.params.toList) (i := j) (a := t) (by simpa using ht)
        exact this
      have ha : (Tryz.f3.params.toList.all fun t => !(Tryz.prog.wantsStandIn t)) = true := by kernel_rfl
      have := List.all_eq_true.1 ha t hm
      have h2 : Tryz.prog.wantsStandIn t = false := by simpa using this
      exact h2)
    (by kernel_rfl)
#print axioms loop_plays_holds
end Go.Proofs.YtjcagoighpmdkaaGreatDoor
