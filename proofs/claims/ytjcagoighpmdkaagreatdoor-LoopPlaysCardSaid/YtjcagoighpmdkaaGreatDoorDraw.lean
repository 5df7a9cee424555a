/- A region whose order is drawn: whatever the order, it does what it does in one order ('PL'), if each operation that only reads yields the same wherever it comes ('S' holds meanwhile), and what acts comes in one line. Over any program. -/
import Derived.Test.YtjcagoighpmdkaaGreatDoorMem
namespace Go.Proofs.YtjcagoighpmdkaaGreatDoor
open Go Go.RowKit
set_option linter.unusedVariables false
set_option linter.unusedSimpArgs false

section
variable {P : Program} {ops : Array Oper} {Q : Exit → Act → World → Prop} {md : Region.Mode} {S : World → Prop} {bar : Nat → Bool}

/-- One of 'bar' has come up. -/
def Bd (bar : Nat → Bool) (listed : Array Bool) : Prop := ∃ k, bar k = true ∧ listed.getD k false = true
theorem Bd.set {listed : Array Bool} {i : Nat} (h : Bd bar listed) : Bd bar (listed.setIfInBounds i true) := by
  obtain ⟨k, h1, h2⟩ := h
  exact ⟨k, h1, getD_set_true h2⟩
theorem Bd.unset {listed : Array Bool} {i : Nat} (hi : bar i = false) (h : Bd bar (listed.setIfInBounds i true)) : Bd bar listed := by
  obtain ⟨k, h1, h2⟩ := h
  have hne : i ≠ k := fun e => by subst e; rw [hi] at h1; cases h1
  rw [getD_set_ne false hne] at h2
  exact ⟨k, h1, h2⟩

/-- The world has grown: what was there is there. -/
def Gr (w w2 : World) : Prop := Below w.heap.size w w2
theorem Gr.refl (w : World) : Gr w w := Below.refl _ _
theorem Gr.trans {a b c : World} (h : Gr a b) (k : Gr b c) : Gr a c :=
  ⟨k.os.trans h.os, k.tape.trans h.tape, k.output.trans h.output, Nat.le_trans h.size k.size, fun i hi => (k.block i (Nat.lt_of_lt_of_le hi h.size)).trans (h.block i hi)⟩

/-- Whatever order is picked from here on, in whatever world this one has grown to; behind each operation S holds, till one of 'bar' has come up. -/
def AnyB (P : Program) (md : Region.Mode) (ops : Array Oper) (Q : Exit → Act → World → Prop) (S : World → Prop) (bar : Nat → Bool) : Nat → Array Bool → Act → World → Prop
  | 0, listed, a, w => Region.ready md ops listed = [] ∧ ∀ w2, Gr w w2 → Q .normal a w2
  | fuel + 1, listed, a, w => ∀ w2, Gr w w2 → (Region.ready md ops listed = [] → Q .normal a w2) ∧
      ∀ i ∈ Region.ready md ops listed, wpOp P ops Q i (fun a' w' => (Bd bar (listed.setIfInBounds i true) ∨ S w') ∧ AnyB P md ops Q S bar fuel (listed.setIfInBounds i true) a' w') a w2

theorem AnyB.any : ∀ (fuel : Nat) (listed : Array Bool) (a : Act) (w : World), AnyB P md ops Q S bar fuel listed a w → wpAny P md ops Q fuel listed a w
  | 0, _, _, _, h => ⟨h.1, h.2 _ (Gr.refl _)⟩
  | fuel + 1, _, _, _, h => ⟨(h _ (Gr.refl _)).1, fun i hi => wpOp_mono (fun a' w' h' => AnyB.any fuel _ a' w' h'.2) ((h _ (Gr.refl _)).2 i hi)⟩
theorem AnyB.grow : ∀ (fuel : Nat) (listed : Array Bool) (a : Act) (w w2 : World), AnyB P md ops Q S bar fuel listed a w → Gr w w2 → AnyB P md ops Q S bar fuel listed a w2
  | 0, _, _, _, _, h, hg => ⟨h.1, fun w3 h3 => h.2 w3 (hg.trans h3)⟩
  | _ + 1, _, _, _, _, h, hg => fun w3 h3 => h w3 (hg.trans h3)

/-- In this state o yields v in each world that meets S: at once, or by a call behind which the world has only grown. -/
def YieldsG (P : Program) (ops : Array Oper) (S : World → Prop) (o : Oper) (v : Value) (a : Act) : Prop :=
  (Region.wanted o (yielded ops a.tmps) = true ∧ ∀ w, S w → (execOp a.eval o).run P w = .ok (.value v) w ∨
    ∃ N args, (execOp a.eval o).run P w = .ok (.enter N args) w ∧ Calls P N args w (fun e w' => e = .returned v ∧ Gr w w')) ∨
  (Region.wanted o (yielded ops a.tmps) = false ∧ v = undef)
theorem YieldsG.wpOp {i : Nat} {o : Oper} {v : Value} {a : Act} (hi : ops[i]? = some o) (hy : YieldsG P ops S o v a)
    {K : Act → World → Prop} {w : World} (hS : S w) (h : ∀ w2, Gr w w2 → K (a.put o.dst v) w2) : wpOp P ops Q i K a w := by
  unfold Go.wpOp
  simp only [hi]
  rcases hy with ⟨hw, hv⟩ | ⟨hw, rfl⟩
  · rw [if_pos hw]
    refine .inl ?_
    unfold Oper.wp
    rcases hv w hS with hv | ⟨N, args, hv, hc⟩
    · rw [hv]; exact h _ (Gr.refl _)
    · rw [hv]
      simp only [Oper.upon]
      refine Calls.mono hc ?_
      rintro e w' ⟨rfl, hg⟩
      exact h _ hg
  · rw [if_neg (by rw [hw]; simp)]
    exact h _ (Gr.refl _)
theorem YieldsG.of_same {o : Oper} {v : Value} {a b : Act} (hy : YieldsG P ops S o v a) (h1 : execOp b.eval o = execOp a.eval o) (h2 : Region.wanted o (yielded ops b.tmps) = Region.wanted o (yielded ops a.tmps)) : YieldsG P ops S o v b := by
  unfold YieldsG at *
  rw [h1, h2]
  exact hy
/-- One operation 'oj', apart from 'oi': whether 'oi''s value is already there makes no difference to it, and it makes none to 'oi'. -/
theorem wpOp_putG {j : Nat} {oi oj : Oper} {v : Value} (hj : ops[j]? = some oj) (hap : oi.apart ops oj = true)
    (hsi : ∀ cs b, oi.op ≠ .select cs b) (hsj : ∀ cs b, oj.op ≠ .select cs b)
    (hQ : ∀ c a w, Q (.panic c) (a.put oi.dst v) w → Q (.panic c) a w) {K : Act → World → Prop} {a : Act} {w : World}
    (hy : YieldsG P ops S oi v a) (h : wpOp P ops Q j K (a.put oi.dst v) w) :
    wpOp P ops Q j (fun a' w' => YieldsG P ops S oi v a' ∧ K (a'.put oi.dst v) w') a w := by
  obtain ⟨h1, h2, h3⟩ := Oper.apart_spec hap
  have keep : ∀ (a : Act), YieldsG P ops S oi v a → ∀ u, YieldsG P ops S oi v (a.put oj.dst u) := fun a hy u =>
    hy.of_same (execOp_put oi hsi a oj.dst u h3) (wanted_put oi a oj.dst u h3)
  have keepD : ∀ d, YieldsG P ops S oi v { a with defers := d :: a.defers } := fun d => hy.of_same rfl rfl
  unfold wpOp at *
  simp only [hj] at *
  rw [wanted_put oj a oi.dst v h1] at h
  split
  · rename_i hw
    simp only [hw, if_true] at h
    rcases h with h | ⟨hasks, hlets⟩
    case inr => exact .inr ⟨by unfold Oper.asks at *; rw [execOp_put oj hsj a oi.dst v h1] at hasks; exact hasks, hlets⟩
    refine .inl ?_
    unfold Oper.wp at *
    rw [execOp_put oj hsj a oi.dst v h1] at h
    generalize (execOp a.eval oj).run P w = r at *
    cases r with
    | ok n w' =>
      cases n <;> simp only [Oper.upon] at h ⊢
      case value u => exact ⟨keep a hy u, by rw [← Act.put_comm a v u h2]; exact h⟩
      case skip => exact ⟨keep a hy _, by rw [← Act.put_comm a v undef h2]; exact h⟩
      case defer d =>
        refine ⟨keep _ (keepD d) _, ?_⟩
        rw [← Act.put_comm _ v undef h2, ← Act.put_defers]
        exact h
      case enter f args =>
        refine Calls.mono h fun e w'' he => ?_
        cases e with
        | returned u => exact ⟨keep a hy u, by rw [← Act.put_comm a v u h2]; exact he⟩
        | panicked c => exact hQ _ _ _ he
        | outgrown => exact he
      case row row args => exact Rows.mono h fun u w'' he => ⟨keep a hy u, by rw [← Act.put_comm a v u h2]; exact he⟩
    | halt x w' =>
      cases x <;> simp only [Oper.upon] at h ⊢
      case panic u => exact hQ _ _ _ h
  · rename_i hw
    simp only [hw] at h
    exact ⟨keep a hy _, by rw [← Act.put_comm a v undef h2]; exact h⟩

/-- Operation j waits for operation i by an edge of its own. -/
def waitsFor (md : Region.Mode) (ops : Array Oper) (j i : Nat) : Bool := ((ops[j]?).map fun o => o.after.any fun e => Region.binds md e && e.on == i).getD false
theorem not_ready_of_waits {listed : Array Bool} {i j : Nat} (hw : waitsFor md ops j i = true) (hi : i ∈ Region.ready md ops listed) : j ∉ Region.ready md ops listed := by
  intro hj
  obtain ⟨_, oj, hoj, hall⟩ := mem_ready.1 hj
  simp only [waitsFor, hoj, Option.map_some, Option.getD_some, Array.any_eq_true', Bool.and_eq_true, beq_iff_eq] at hw
  obtain ⟨e, he, hb, rfl⟩ := hw
  have h1 := hall e he hb
  have h0 := (mem_ready.1 hi).1
  cases hl : listed[e.on]? with
  | none => rw [Array.getD_eq_getD_getElem?, hl] at h1; simp at h1
  | some b => rw [Array.getD_eq_getD_getElem?, hl] at h0 h1; simp at h0 h1; rw [h0] at h1; cases h1

/-- An operation that may come up is taken first: it yields the same in every world that meets S'. -/
theorem AnyB.first {i : Nat} {oi : Oper} {v : Value} (hSg : ∀ w w2, S w → Gr w w2 → S w2) (hi : ops[i]? = some oi) (hsel : Region.noSelect ops = true) (hQ : ∀ c a w, Q (.panic c) (a.put oi.dst v) w → Q (.panic c) a w)
    (hbi : bar i = false) (S' : World → Prop) (hS' : (∀ w, S' w) ∨ (S' = S ∧ ∀ j, bar j = true → waitsFor md ops j i = true)) :
    ∀ (fuel : Nat) (listed : Array Bool) (a : Act) (w : World), (∀ j oj, ops[j]? = some oj → j ≠ i → listed.getD j true = false → (∀ e ∈ oj.after, Region.binds md e = true → e.on ≠ i) → oi.apart ops oj = true) →
      i ∈ Region.ready md ops listed → YieldsG P ops S' oi v a → ((∀ w, S' w) ∨ ¬ Bd bar listed) → (Bd bar listed ∨ S w) →
      AnyB P md ops Q S bar fuel (listed.setIfInBounds i true) (a.put oi.dst v) w → AnyB P md ops Q S bar (fuel + 1) listed a w := by
  have hns := Region.noSelect_spec hsel
  have met : ∀ listed w, ((∀ w, S' w) ∨ ¬ Bd bar listed) → (Bd bar listed ∨ S w) → S' w := fun listed w h1 h2 => by
    rcases h1 with h1 | h1
    · exact h1 w
    · rcases hS' with h | ⟨rfl, _⟩
      · exact h w
      · exact h2.resolve_left h1
  intro fuel
  induction fuel with
  | zero =>
    intro listed a w _ hr hy hB hS H w2 hg
    have hS2 : Bd bar listed ∨ S w2 := hS.imp id fun h => hSg _ _ h hg
    refine ⟨fun h => (by rw [h] at hr; cases hr), fun j hj => ?_⟩
    by_cases hji : j = i
    · subst hji; exact YieldsG.wpOp hi hy (met _ _ hB hS2) fun w3 h3 => ⟨hS2.imp Bd.set fun h => hSg _ _ h h3, AnyB.grow _ _ _ _ _ H (hg.trans h3)⟩
    · have := ready_mono hj hji
      rw [H.1] at this; cases this
  | succ fuel ih =>
    intro listed a w hfree hr hy hB hS H w2 hg
    have hS2 : Bd bar listed ∨ S w2 := hS.imp id fun h => hSg _ _ h hg
    refine ⟨fun h => (by rw [h] at hr; cases hr), fun j hj => ?_⟩
    by_cases hji : j = i
    · subst hji; exact YieldsG.wpOp hi hy (met _ _ hB hS2) fun w3 h3 => ⟨hS2.imp Bd.set fun h => hSg _ _ h h3, AnyB.grow _ _ _ _ _ H (hg.trans h3)⟩
    · have h1 := (H w2 hg).2 j (ready_mono hj hji)
      obtain ⟨hjun, oj, hoj, hall⟩ := mem_ready.1 hj
      have hnot : ∀ e ∈ oj.after, Region.binds md e = true → e.on ≠ i := fun e he hb heq => by
        have hw : waitsFor md ops j i = true := by
          simp only [waitsFor, hoj, Option.map_some, Option.getD_some, Array.any_eq_true', Bool.and_eq_true, beq_iff_eq]
          exact ⟨e, he, hb, heq⟩
        exact not_ready_of_waits hw hr hj
      have h2 := wpOp_putG hoj (hfree j oj hoj hji hjun hnot) (fun cs b => hns i oi cs b hi) (fun cs b => hns j oj cs b hoj) hQ hy h1
      refine wpOp_mono (fun a' w' h3 => ?_) h2
      obtain ⟨hy', hS3, H3⟩ := h3
      have hS4 : Bd bar (listed.setIfInBounds j true) ∨ S w' := by
        rcases hS3 with h | h
        · rw [Array.setIfInBounds_comm _ _ (Ne.symm hji)] at h
          exact .inl (h.unset hbi)
        · exact .inr h
      have hB' : (∀ w, S' w) ∨ ¬ Bd bar (listed.setIfInBounds j true) := by
        rcases hB with h | h
        · exact .inl h
        · rcases hS' with h' | ⟨_, hw⟩
          · exact .inl h'
          · refine .inr fun hbd => h ?_
            have hbj : bar j = false := by
              cases hbj : bar j with
              | false => rfl
              | true => exact absurd hj (not_ready_of_waits (hw j hbj) hr)
            exact hbd.unset hbj
      refine ⟨hS4, ih (listed.setIfInBounds j true) a' w' ?_ (ready_mono hr (Ne.symm hji)) hy' hB' hS4 ?_⟩
      · intro k ok hk hki hun hno
        refine hfree k ok hk hki ?_ hno
        by_cases hjk : j = k
        · subst hjk; exact hjun
        · rw [getD_set_ne true hjk] at hun; exact hun
      · rw [Array.setIfInBounds_comm _ _ hji]; exact H3
end

/-! ### The plan -/
/-- A plan: number and kind: 0: yields the same in every world; 1: .. in every world that meets S; 2: comes up alone, and keeps S; 3: comes up alone, and may break S; 4: a call that yields the same in every world, behind which the world has only grown; 5: .. in every world that meets S. -/
abbrev Plan := List (Nat × Nat)
def barOf (p : Plan) (j : Nat) : Bool := p.any fun x => x.1 == j && x.2 == 3
def barredB (p : Plan) (listed : Array Bool) : Bool := p.any fun x => x.2 == 3 && listed.getD x.1 false
def planGo (n : Nat) (ops : Array Oper) (all : Plan) : Plan → Array Bool → Bool
  | [], listed => (Region.ready .any ops listed).isEmpty
  | (i, k) :: rest, listed =>
    (match ops[i]? with | some o => Opr.okN n o | none => false) &&
    (match k with
     | 0 => (Region.ready .any ops listed).contains i && Region.free .any ops listed i && !barOf all i
     | 1 => (Region.ready .any ops listed).contains i && Region.free .any ops listed i && !barOf all i && !barredB all listed && all.all (fun x => x.2 != 3 || waitsFor .any ops x.1 i)
     | 2 | 3 => (Region.ready .any ops listed) == [i]
     | 4 => (Region.ready .any ops listed).contains i && Region.free .any ops listed i && !barOf all i
     | 5 => (Region.ready .any ops listed).contains i && Region.free .any ops listed i && !barOf all i && !barredB all listed && all.all (fun x => x.2 != 3 || waitsFor .any ops x.1 i)
     | _ => false) &&
    planGo n ops all rest (listed.setIfInBounds i true)
def planOk (n : Nat) (ops : Array Oper) (p : Plan) : Bool := Region.noSelect ops && p.length == ops.size && planGo n ops p p (Array.replicate ops.size false)

section
variable {P : Program} {n : Nat} {ops : Array Oper} {Q : Exit → (Nat → Value) → World → Prop} {S : World → Prop}

def yes (n : Nat) (ops : Array Oper) (o : Oper) (f : Nat → Value) : Bool := Region.wanted o (yielded ops (actF n f).tmps)
def PL (P : Program) (n : Nat) (ops : Array Oper) (S : World → Prop) (Q : Exit → (Nat → Value) → World → Prop) : Plan → (Nat → Value) → World → Prop
  | [], f, w => ∀ w2, Gr w w2 → Q .normal f w2
  | (i, k) :: rest, f, w => ∃ o, ops[i]? = some o ∧ (match k with
    | 0 => ∃ v, ((yes n ops o f = true ∧ ∀ w, (execOp (ev f) o).run P w = .ok (.value v) w) ∨ (yes n ops o f = false ∧ v = undef)) ∧ PL P n ops S Q rest (updo f o.dst v) w
    | 1 => ∃ v, ((yes n ops o f = true ∧ ∀ w, S w → (execOp (ev f) o).run P w = .ok (.value v) w) ∨ (yes n ops o f = false ∧ v = undef)) ∧ PL P n ops S Q rest (updo f o.dst v) w
    | 2 => (yes n ops o f = true ∧ ∀ w2, Gr w w2 → OW P o f w2 (fun f' w' => S w' ∧ PL P n ops S Q rest f' w')) ∨ (yes n ops o f = false ∧ PL P n ops S Q rest (updo f o.dst undef) w)
    | 3 => (yes n ops o f = true ∧ ∀ w2, Gr w w2 → OW P o f w2 (PL P n ops S Q rest)) ∨ (yes n ops o f = false ∧ PL P n ops S Q rest (updo f o.dst undef) w)
    | 4 => ∃ v, ((yes n ops o f = true ∧ ∀ w, ∃ N args, (execOp (ev f) o).run P w = .ok (.enter N args) w ∧ Calls P N args w (fun e w' => e = .returned v ∧ Gr w w')) ∨ (yes n ops o f = false ∧ v = undef)) ∧ PL P n ops S Q rest (updo f o.dst v) w
    | _ => ∃ v, ((yes n ops o f = true ∧ ∀ w, S w → ∃ N args, (execOp (ev f) o).run P w = .ok (.enter N args) w ∧ Calls P N args w (fun e w' => e = .returned v ∧ Gr w w')) ∨ (yes n ops o f = false ∧ v = undef)) ∧ PL P n ops S Q rest (updo f o.dst v) w)

theorem okN_dst {o : Oper} (h : Opr.okN n o = true) : dstLt n o.dst = true := by simp only [Opr.okN, Bool.and_eq_true] at h; exact h.1.2
theorem barOf_spec {p : Plan} {listed : Array Bool} (h : barredB p listed = false) : ¬ Bd (barOf p) listed := by
  rintro ⟨k, h1, h2⟩
  simp only [barOf, List.any_eq_true, Bool.and_eq_true, beq_iff_eq] at h1
  obtain ⟨x, hx, rfl, h3⟩ := h1
  have : barredB p listed = true := by
    simp only [barredB, List.any_eq_true, Bool.and_eq_true, beq_iff_eq]
    exact ⟨x, hx, h3, h2⟩
  rw [this] at h; cases h

theorem PL.sound (all : Plan) (hSg : ∀ w w2, S w → Gr w w2 → S w2) (hsel : Region.noSelect ops = true) (hQ : ∀ c f w, ¬ Q (.panic c) f w) : ∀ (p : Plan) (listed : Array Bool) (f : Nat → Value) (w : World), planGo n ops all p listed = true →
    (∀ x ∈ p, x.2 = 3 → barOf all x.1 = true) → (Bd (barOf all) listed ∨ S w) → (PL P n ops S Q p f w) → listed.size = ops.size → AnyB P .any ops (QF n Q) S (barOf all) p.length listed (actF n f) w := by
  intro p
  induction p with
  | nil =>
    intro listed f w hp _ _ h _
    simp only [planGo, List.isEmpty_iff] at hp
    exact ⟨hp, fun w2 hg => ⟨f, rfl, h w2 hg⟩⟩
  | cons x rest ih =>
    obtain ⟨i, k⟩ := x
    intro listed f w hp hb hS h hsz
    simp only [planGo, Bool.and_eq_true] at hp
    obtain ⟨⟨hok, hk⟩, hrest⟩ := hp
    unfold PL at h
    obtain ⟨o, ho, h⟩ := h
    rw [ho] at hok
    have hok : Opr.okN n o = true := hok
    have hd := okN_dst hok
    have hb' : ∀ x ∈ rest, x.2 = 3 → barOf all x.1 = true := fun x hx => hb x (List.mem_cons_of_mem _ hx)
    have hsz' : (listed.setIfInBounds i true).size = ops.size := by simpa using hsz
    have hil : i < listed.size := by rw [hsz]; exact (Array.getElem?_eq_some_iff.1 ho).1
    have hQ' : ∀ (v : Value) c a w, QF n Q (.panic c) (a.put o.dst v) w → QF n Q (.panic c) a w := fun v c a w ⟨f, _, h⟩ => absurd h (hQ c f w)
    have solo : ∀ (S2 : Bool), (Region.ready .any ops listed == [i]) = true → (S2 = false → barOf all i = true) →
        ((yes n ops o f = true ∧ ∀ w2, Gr w w2 → OW P o f w2 (fun f' w' => (S2 = true → S w') ∧ PL P n ops S Q rest f' w')) ∨ (yes n ops o f = false ∧ PL P n ops S Q rest (updo f o.dst undef) w)) →
        AnyB P .any ops (QF n Q) S (barOf all) (rest.length + 1) listed (actF n f) w := by
      intro S2 hr hbar h w2 hg
      have hS2w : Bd (barOf all) listed ∨ S w2 := hS.imp id fun h => hSg _ _ h hg
      have hr : Region.ready .any ops listed = [i] := by simpa using hr
      refine ⟨(fun h0 => by rw [hr] at h0; cases h0), fun j hj => ?_⟩
      rw [hr] at hj
      obtain rfl : j = i := by simpa using hj
      have hset : S2 = false → Bd (barOf all) (listed.setIfInBounds j true) := fun e => ⟨j, hbar e, by simp [Array.getD, hil]⟩
      unfold wpOp
      simp only [ho]
      rcases h with ⟨hy, hO⟩ | ⟨hy, hn⟩
      · have hy' : Region.wanted o (yielded ops (actF n f).tmps) = true := hy
        rw [if_pos hy']
        refine .inl (oper_wp_of hok (K := fun f' w' => (S2 = true → S w') ∧ PL P n ops S Q rest f' w') (fun f' w' ⟨h1, h2⟩ => ?_) (hO w2 hg))
        have hS' : Bd (barOf all) (listed.setIfInBounds j true) ∨ S w' := by
          cases S2 with
          | true => exact .inr (h1 rfl)
          | false => exact .inl (hset rfl)
        exact ⟨hS', ih _ f' w' hrest hb' hS' h2 hsz'⟩
      · have hy' : Region.wanted o (yielded ops (actF n f).tmps) = false := hy
        rw [if_neg (by rw [hy']; simp), actF_put hd]
        have hS' := hS2w.imp (Bd.set (i := j)) id
        exact ⟨hS', AnyB.grow _ _ _ _ _ (ih _ _ w hrest hb' (hS.imp (Bd.set (i := j)) id) hn hsz') hg⟩
    have take : ∀ (S' : World → Prop) (v : Value), ((∀ w, S' w) ∨ (S' = S ∧ ∀ j, barOf all j = true → waitsFor .any ops j i = true)) → ((∀ w, S' w) ∨ ¬ Bd (barOf all) listed) →
        (Region.ready .any ops listed).contains i = true → Region.free .any ops listed i = true → barOf all i = false →
        ((yes n ops o f = true ∧ ∀ w, S' w → (execOp (ev f) o).run P w = .ok (.value v) w ∨ ∃ N args, (execOp (ev f) o).run P w = .ok (.enter N args) w ∧ Calls P N args w (fun e w' => e = .returned v ∧ Gr w w')) ∨ (yes n ops o f = false ∧ v = undef)) → PL P n ops S Q rest (updo f o.dst v) w →
        AnyB P .any ops (QF n Q) S (barOf all) (rest.length + 1) listed (actF n f) w := by
      intro S' v hS1 hB hr hfree hbi hy hn
      refine AnyB.first hSg ho hsel (hQ' v) hbi S' hS1 _ _ _ _ (Region.free_spec ho hfree) (by simpa using hr) ?_ hB hS ?_
      · rcases hy with ⟨h1, h2⟩ | ⟨h1, h2⟩
        · exact .inl ⟨h1, fun w hw => by rw [execOp_actF hok]; exact h2 w hw⟩
        · exact .inr ⟨h1, h2⟩
      · rw [actF_put hd]
        exact ih _ _ w hrest hb' (hS.imp Bd.set id) hn hsz'
    match k with
    | 0 =>
      simp only [Bool.and_eq_true, Bool.not_eq_true'] at hk
      obtain ⟨v, hy, hn⟩ := h
      exact take (fun _ => True) v (.inl fun _ => trivial) (.inl fun _ => trivial) hk.1.1 hk.1.2 hk.2 (hy.imp (fun ⟨a, b⟩ => ⟨a, fun w _ => .inl (b w)⟩) id) hn
    | 1 =>
      simp only [Bool.and_eq_true, Bool.not_eq_true', List.all_eq_true] at hk
      obtain ⟨v, hy, hn⟩ := h
      refine take S v (.inr ⟨rfl, fun j hj => ?_⟩) (.inr (barOf_spec hk.1.2)) hk.1.1.1.1 hk.1.1.1.2 hk.1.1.2 (hy.imp (fun ⟨a, b⟩ => ⟨a, fun w hw => .inl (b w hw)⟩) id) hn
      simp only [barOf, List.any_eq_true, Bool.and_eq_true, beq_iff_eq] at hj
      obtain ⟨x, hx, rfl, h3⟩ := hj
      have := hk.2 x hx
      rw [h3] at this
      simpa using this
    | 2 => exact solo true hk (fun h => by cases h) (h.imp (fun ⟨a, b⟩ => ⟨a, fun w2 hg => (b w2 hg).mono fun _ _ ⟨x, y⟩ => ⟨fun _ => x, y⟩⟩) id)
    | 3 => exact solo false hk (fun _ => hb (i, 3) (by simp) rfl) (h.imp (fun ⟨a, b⟩ => ⟨a, fun w2 hg => (b w2 hg).mono fun _ _ x => ⟨(fun e => by cases e), x⟩⟩) id)
    | 4 =>
      simp only [Bool.and_eq_true, Bool.not_eq_true'] at hk
      obtain ⟨v, hy, hn⟩ := h
      exact take (fun _ => True) v (.inl fun _ => trivial) (.inl fun _ => trivial) hk.1.1 hk.1.2 hk.2 (hy.imp (fun ⟨a, b⟩ => ⟨a, fun w _ => .inr (b w)⟩) id) hn
    | 5 =>
      simp only [Bool.and_eq_true, Bool.not_eq_true', List.all_eq_true] at hk
      obtain ⟨v, hy, hn⟩ := h
      refine take S v (.inr ⟨rfl, fun j hj => ?_⟩) (.inr (barOf_spec hk.1.2)) hk.1.1.1.1 hk.1.1.1.2 hk.1.1.2 (hy.imp (fun ⟨a, b⟩ => ⟨a, fun w hw => .inr (b w hw)⟩) id) hn
      simp only [barOf, List.any_eq_true, Bool.and_eq_true, beq_iff_eq] at hj
      obtain ⟨x, hx, rfl, h3⟩ := hj
      have := hk.2 x hx
      rw [h3] at this
      simpa using this
    | _ + 6 => simp at hk

theorem pl_nil {E : World} {Γ : List Chunk} {f : Nat → Value} {w : World} (hS : Sat E Γ w) (h : ∀ w2, Sat E Γ w2 → Q .normal f w2) : PL P n ops S Q [] f w := fun w2 hg => h w2 (hS.below hg)
theorem yes_none {o : Oper} {f : Nat → Value} (hg : o.guard = none) : yes n ops o f = true := by unfold yes Region.wanted; rw [hg]
theorem yes_some {o : Oper} {f : Nat → Value} {j : Nat} {want : Bool} {s : Nat} (hg : o.guard = some (j, want)) (hd : (ops[j]?).bind (·.dst) = some s) (hlt : Nat.blt s n = true) (hv : f s = .bool want) : yes n ops o f = true :=
  wanted_is ⟨j, want, s, want, hg, hd, hlt, hv, by simp⟩
theorem yes_not {o : Oper} {f : Nat → Value} {j : Nat} {want : Bool} {s : Nat} {b : Bool} (hg : o.guard = some (j, want)) (hd : (ops[j]?).bind (·.dst) = some s) (hlt : Nat.blt s n = true) (hv : f s = .bool b) (hb : b = !want) : yes n ops o f = false :=
  wanted_is ⟨j, want, s, b, hg, hd, hlt, hv, by subst hb; cases want <;> rfl⟩
theorem yes_un {o : Oper} {f : Nat → Value} {j : Nat} {want : Bool} {s : Nat} (hg : o.guard = some (j, want)) (hd : (ops[j]?).bind (·.dst) = some s) (hlt : Nat.blt s n = true) (hv : f s = undef) : yes n ops o f = false :=
  wanted_undef hg hd hlt hv
/-- Number i yields the same in every world. -/
theorem pl_take {i : Nat} {d : Nat} {op : Op} {ty : TypeId} {pos : String} {af : Array Edge} {g : Option (Nat × Bool)} {v : Value} {rest : Plan} {f : Nat → Value} {w : World} (ho : ops[i]? = some ⟨some d, op, ty, pos, af, g⟩) (hy : yes n ops ⟨some d, op, ty, pos, af, g⟩ f = true) (hr : VR P f ⟨some d, op, ty, pos, af, g⟩ v) (h : PL P n ops S Q rest (upd f d v) w) : PL P n ops S Q ((i, 0) :: rest) f w :=
  ⟨_, ho, v, .inl ⟨hy, hr⟩, h⟩
theorem pl_load {i : Nat} {d : Nat} {op : Op} {ty : TypeId} {pos : String} {af : Array Edge} {g : Option (Nat × Bool)} {v : Value} {rest : Plan} {f : Nat → Value} {w : World} (ho : ops[i]? = some ⟨some d, op, ty, pos, af, g⟩) (hy : yes n ops ⟨some d, op, ty, pos, af, g⟩ f = true) (hr : LR P S f ⟨some d, op, ty, pos, af, g⟩ v) (h : PL P n ops S Q rest (upd f d v) w) : PL P n ops S Q ((i, 1) :: rest) f w :=
  ⟨_, ho, v, .inl ⟨hy, hr⟩, h⟩
theorem pl_act {E : World} {Γ : List Chunk} {i : Nat} {o : Oper} {rest : Plan} {f : Nat → Value} {w : World} (hS : Sat E Γ w) (ho : ops[i]? = some o) (hy : yes n ops o f = true) (h : ∀ w2, Sat E Γ w2 → OW P o f w2 (fun f' w' => S w' ∧ PL P n ops S Q rest f' w')) : PL P n ops S Q ((i, 2) :: rest) f w :=
  ⟨o, ho, .inl ⟨hy, fun w2 hg => h w2 (hS.below hg)⟩⟩
theorem pl_end {E : World} {Γ : List Chunk} {i : Nat} {o : Oper} {rest : Plan} {f : Nat → Value} {w : World} (hS : Sat E Γ w) (ho : ops[i]? = some o) (hy : yes n ops o f = true) (h : ∀ w2, Sat E Γ w2 → OW P o f w2 (PL P n ops S Q rest)) : PL P n ops S Q ((i, 3) :: rest) f w :=
  ⟨o, ho, .inl ⟨hy, fun w2 hg => h w2 (hS.below hg)⟩⟩
/-- A call that yields the same in every world. -/
theorem pl_quiet {i N : Nat} {d : Nat} {args : Array Operand} {ats : Array TypeId} {ty : TypeId} {pos : String} {af : Array Edge} {g : Option (Nat × Bool)} {vs : List Value} {v : Value} {rest : Plan} {f : Nat → Value} {w : World} (ho : ops[i]? = some ⟨some d, .call ⟨.value (.func N), args, ats⟩, ty, pos, af, g⟩)
    (hy : yes n ops ⟨some d, .call ⟨.value (.func N), args, ats⟩, ty, pos, af, g⟩ f = true) (hb : Enters P N) (ha : (args.toList.map (ev f)) = vs) (hF : FnV P N vs v) (h : PL P n ops S Q rest (upd f d v) w) : PL P n ops S Q ((i, 4) :: rest) f w := by
  refine ⟨_, ho, v, .inl ⟨hy, fun w' => ⟨N, vs.toArray, ?_, ?_⟩⟩, h⟩
  · have hargs : args.map (ev f) = vs.toArray := by subst ha; exact Array.ext' (by simp)
    simp [execOp, resolve, ev, Deferred.ofValue, invoke, hargs, run_callFunc hb]
  · refine Calls.mono (hF w' [Sat.all w'] w' (Sat.init w')) ?_
    rintro e w2 ⟨u, he, Δ, ⟨rfl, rfl⟩, hS⟩
    exact ⟨he, Sat.done (Γ := []) hS⟩
theorem split_off {α : Type} : ∀ (l L : List α), l.Nodup → (∀ x ∈ l, x ∈ L) → ∃ R, L.Perm (l ++ R)
  | [], L, _, _ => ⟨L, by simp⟩
  | a :: l, L, hn, h => by
    obtain ⟨s, t, rfl⟩ := List.append_of_mem (h a (by simp))
    simp only [List.nodup_cons] at hn
    obtain ⟨R, hR⟩ := split_off l (s ++ t) hn.2 (fun x hx => by
      have := h x (by simp [hx])
      simp only [List.mem_append, List.mem_cons] at this ⊢
      rcases this with h1 | rfl | h1
      · exact .inl h1
      · exact absurd hx hn.1
      · exact .inr h1)
    exact ⟨R, List.perm_middle.trans (hR.cons a)⟩
/-- A function that only looks at what is known, and yields v: the world has only grown. -/
theorem Fn.grow {P : Program} {N : FuncId} {vs : List Value} {v : Value} {Γ0 F : List Chunk} {E w : World} (h : Fn P N vs Γ0 (fun u Δ => u = v ∧ Δ = Γ0)) (hS : Sat E (Γ0 ++ F) w) : Calls P N vs.toArray w (fun e w' => e = .returned v ∧ Gr w w') := by
  have hnd0 : (Γ0.flatten.map Prod.fst).Nodup := hS.nd.sublist ((by rw [List.flatten_append]; exact List.sublist_append_left _ _ : Γ0.flatten.Sublist (Γ0 ++ F).flatten).map _)
  have hnd : Γ0.flatten.Nodup := by
    have := hnd0
    rw [List.Nodup, List.pairwise_map] at this
    exact this.imp fun hne e => hne (by rw [e])
  obtain ⟨R, hR⟩ := split_off Γ0.flatten (Sat.all w) hnd (fun p hp => Sat.mem_all.2 (hS.mem p (by rw [List.flatten_append]; exact List.mem_append.2 (.inl hp))))
  have hw : Sat w (Γ0 ++ [R]) w := (Sat.init w).perm (by simp only [List.flatten_cons, List.flatten_nil, List.append_nil, List.flatten_append]; exact hR)
  refine Calls.mono (h w [R] w hw) ?_
  rintro e w2 ⟨u, he, Δ, ⟨rfl, rfl⟩, hS2⟩
  refine ⟨he, Sat.done (Γ := []) (hS2.perm ?_)⟩
  simp only [List.nil_append, List.flatten_cons, List.flatten_nil, List.append_nil, List.flatten_append]
  exact hR.symm
/-- A call of a function value that only looks, and yields the same in every world that meets S. -/
theorem pl_quietV {i N : Nat} {d : Nat} {x : Operand} {cap : Array Value} {args : Array Operand} {ats : Array TypeId} {ty : TypeId} {pos : String} {af : Array Edge} {g : Option (Nat × Bool)} {vs : List Value} {v : Value} {Γ0 : List Chunk} {rest : Plan} {f : Nat → Value} {w : World} (ho : ops[i]? = some ⟨some d, .call ⟨.value x, args, ats⟩, ty, pos, af, g⟩)
    (hy : yes n ops ⟨some d, .call ⟨.value x, args, ats⟩, ty, pos, af, g⟩ f = true) (hb : Enters P N) (hx : ev f x = .func (.func N) #[] cap) (ha : (args.toList.map (ev f)) ++ cap.toList = vs) (hF : Fn P N vs Γ0 (fun u Δ => u = v ∧ Δ = Γ0)) (hs : ∀ w, S w → ∃ E F, Sat E (Γ0 ++ F) w) (h : PL P n ops S Q rest (upd f d v) w) : PL P n ops S Q ((i, 5) :: rest) f w := by
  refine ⟨_, ho, v, .inl ⟨hy, fun w' hw' => ⟨N, vs.toArray, ?_, ?_⟩⟩, h⟩
  · have hargs : args.map (ev f) ++ cap = vs.toArray := by subst ha; exact Array.ext' (by simp)
    simp [execOp, resolve, hx, Deferred.ofValue, invoke, hargs, run_callFunc hb]
  · obtain ⟨E, F, hS⟩ := hs w' hw'
    exact hF.grow hS
/-- Number i's guard says no. -/
theorem pl_no {i k : Nat} {o : Oper} {rest : Plan} {f : Nat → Value} {w : World} (ho : ops[i]? = some o) (hy : yes n ops o f = false) (h : PL P n ops S Q rest (updo f o.dst undef) w) : PL P n ops S Q ((i, k) :: rest) f w := by
  match k with
  | 0 => exact ⟨o, ho, undef, .inr ⟨hy, rfl⟩, h⟩
  | 1 => exact ⟨o, ho, undef, .inr ⟨hy, rfl⟩, h⟩
  | 2 => exact ⟨o, ho, .inr ⟨hy, h⟩⟩
  | 3 => exact ⟨o, ho, .inr ⟨hy, h⟩⟩
  | 4 => exact ⟨o, ho, undef, .inr ⟨hy, rfl⟩, h⟩
  | _ + 5 => exact ⟨o, ho, undef, .inr ⟨hy, rfl⟩, h⟩
theorem pl_noD {i k d0 : Nat} {op : Op} {ty : TypeId} {pos : String} {af : Array Edge} {g : Option (Nat × Bool)} {rest : Plan} {f : Nat → Value} {w : World} (ho : ops[i]? = some ⟨some d0, op, ty, pos, af, g⟩) (hy : yes n ops ⟨some d0, op, ty, pos, af, g⟩ f = false) (h : PL P n ops S Q rest (upd f d0 undef) w) : PL P n ops S Q ((i, k) :: rest) f w :=
  pl_no ho hy h
theorem pl_split {p : Plan} {f : Nat → Value} {w : World} (s : Nat) {b : Bool} (hs : f s = .bool b) (h1 : b = true → PL P n ops S Q p (upd f s (.bool true)) w) (h2 : b = false → PL P n ops S Q p (upd f s (.bool false)) w) : PL P n ops S Q p f w := by
  cases b with
  | true => have := h1 rfl; rwa [upd_self hs] at this
  | false => have := h2 rfl; rwa [upd_self hs] at this
theorem pl_known {p : Plan} {f : Nat → Value} {w : World} (s : Nat) {b c : Bool} (hs : f s = .bool b) (hb : b = c) (h : PL P n ops S Q p (upd f s (.bool c)) w) : PL P n ops S Q p f w := by
  subst hb; rwa [upd_self hs] at h

/-! ### The plan's check by bits: the same, quicker for the kernel -/
def bitsOf (l : List Nat) : Nat := l.foldl (fun m t => m ||| 2 ^ t) 0
theorem bitsOf_go (l : List Nat) (m k : Nat) : (l.foldl (fun m t => m ||| 2 ^ t) m).testBit k = (m.testBit k || decide (k ∈ l)) := by
  induction l generalizing m with
  | nil => simp
  | cons t l ih =>
    rw [List.foldl_cons, ih, Nat.testBit_or, Nat.testBit_two_pow]
    by_cases h : t = k
    · subst h; simp
    · have : ¬ k = t := fun e => h e.symm
      simp [h, this]
theorem bitsOf_spec (l : List Nat) (k : Nat) : (bitsOf l).testBit k = decide (k ∈ l) := by unfold bitsOf; rw [bitsOf_go]; simp
def afs (o : Oper) : List Nat := (o.after.toList.filter (Region.binds .any)).map (·.on)
def infoOf (ops : Array Oper) (o : Oper) : Nat × Nat × Nat := (bitsOf (afs o), bitsOf (o.looksAt ops), match o.dst with | some d => 2 ^ d | none => 0)
def allI (p : Nat → Nat × Nat × Nat → Bool) : Nat → List (Nat × Nat × Nat) → Bool
  | _, [] => true
  | j, x :: l => p j x && allI p (j + 1) l
theorem allI_spec {p : Nat → Nat × Nat × Nat → Bool} : ∀ (l : List (Nat × Nat × Nat)) (j : Nat), allI p j l = true → ∀ i x, l[i]? = some x → p (j + i) x = true
  | [], _, _, i, x, h => by simp at h
  | y :: l, j, h, i, x, hx => by
    simp only [allI, Bool.and_eq_true] at h
    cases i with
    | zero => simp at hx; subst hx; exact h.1
    | succ i => have := allI_spec l (j + 1) h.2 i x (by simpa using hx); rw [show j + (i + 1) = j + 1 + i by omega]; exact this
def sub (a m : Nat) : Bool := Nat.beq (a &&& m) a
def planF (info : List (Nat × Nat × Nat)) (barM : Nat) (bars : List Nat) : Plan → Nat → Bool
  | [], m => allI (fun j x => m.testBit j || !sub x.1 m) 0 info
  | (i, k) :: rest, m =>
    (match info[i]? with
     | none => false
     | some (af, lk, ds) =>
       !m.testBit i && sub af m &&
       (match k with
        | 0 => allI (fun j x => Nat.beq j i || m.testBit j || x.1.testBit i || (Nat.beq (ds &&& x.2.1) 0 && Nat.beq (ds &&& x.2.2) 0 && Nat.beq (x.2.2 &&& lk) 0)) 0 info && !barM.testBit i
        | 1 => allI (fun j x => Nat.beq j i || m.testBit j || x.1.testBit i || (Nat.beq (ds &&& x.2.1) 0 && Nat.beq (ds &&& x.2.2) 0 && Nat.beq (x.2.2 &&& lk) 0)) 0 info && !barM.testBit i && Nat.beq (barM &&& m) 0 &&
            bars.all (fun b => match info[b]? with | some x => x.1.testBit i | none => false)
        | 2 | 3 => allI (fun j x => Nat.beq j i || m.testBit j || !sub x.1 m) 0 info
        | 4 => allI (fun j x => Nat.beq j i || m.testBit j || x.1.testBit i || (Nat.beq (ds &&& x.2.1) 0 && Nat.beq (ds &&& x.2.2) 0 && Nat.beq (x.2.2 &&& lk) 0)) 0 info && !barM.testBit i
        | 5 => allI (fun j x => Nat.beq j i || m.testBit j || x.1.testBit i || (Nat.beq (ds &&& x.2.1) 0 && Nat.beq (ds &&& x.2.2) 0 && Nat.beq (x.2.2 &&& lk) 0)) 0 info && !barM.testBit i && Nat.beq (barM &&& m) 0 &&
            bars.all (fun b => match info[b]? with | some x => x.1.testBit i | none => false)
        | _ => false)) &&
    planF info barM bars rest (m ||| 2 ^ i)
def barsOf (p : Plan) : List Nat := (p.filter fun x => x.2 == 3).map (·.1)
def planFast (n : Nat) (ops : Array Oper) (p : Plan) : Bool :=
  Region.noSelect ops && p.length == ops.size && ops.toList.all (Opr.okN n) && planF (ops.toList.map (infoOf ops)) (bitsOf (barsOf p)) (barsOf p) p 0

theorem sub_spec {a m : Nat} (h : sub a m = true) (k : Nat) (hk : a.testBit k = true) : m.testBit k = true := by
  have h1 : a &&& m = a := Nat.eq_of_beq_eq_true h
  have := congrArg (fun x => x.testBit k) h1
  simp only [Nat.testBit_and, hk, Bool.true_and] at this
  exact this
theorem sub_of {a m : Nat} (h : ∀ k, a.testBit k = true → m.testBit k = true) : sub a m = true := by
  have : a &&& m = a := Nat.eq_of_testBit_eq fun k => by
    rw [Nat.testBit_and]
    cases ha : a.testBit k with
    | false => rfl
    | true => simp [h k ha]
  unfold sub; rw [this]; simp
theorem and_zero {a b k : Nat} (h : Nat.beq (a &&& b) 0 = true) (ha : a.testBit k = true) : b.testBit k = false := by
  have h1 : a &&& b = 0 := Nat.eq_of_beq_eq_true h
  have := congrArg (fun x => x.testBit k) h1
  simpa [Nat.testBit_and, ha] using this

def Rep (ops : Array Oper) (m : Nat) (listed : Array Bool) : Prop := listed.size = ops.size ∧ ∀ k, k < ops.size → listed.getD k false = m.testBit k
theorem Rep.true' {m : Nat} {listed : Array Bool} (h : Rep ops m listed) {k : Nat} (hk : k < ops.size) : listed.getD k true = m.testBit k := by
  rw [← h.2 k hk]
  simp [Array.getD, h.1, hk]
theorem Rep.set {m i : Nat} {listed : Array Bool} (h : Rep ops m listed) (hi : i < ops.size) : Rep ops (m ||| 2 ^ i) (listed.setIfInBounds i true) := by
  refine ⟨by simpa using h.1, fun k hk => ?_⟩
  rw [Nat.testBit_or, Nat.testBit_two_pow]
  by_cases e : i = k
  · subst e; simp [h.1, hi]
  · rw [getD_set_ne false e, h.2 k hk]; simp [e]
theorem ready_iff {m : Nat} {listed : Array Bool} (h : Rep ops m listed) (he : ∀ (j : Nat) (o : Oper), ops[j]? = some o → ∀ k ∈ afs o, k < ops.size) {i : Nat} {o : Oper} (ho : ops[i]? = some o) :
    i ∈ Region.ready .any ops listed ↔ m.testBit i = false ∧ sub (bitsOf (afs o)) m = true := by
  have hi : i < ops.size := (Array.getElem?_eq_some_iff.1 ho).1
  rw [mem_ready, h.true' hi]
  constructor
  · rintro ⟨h0, o', ho', hall⟩
    rw [ho] at ho'; cases ho'
    refine ⟨h0, sub_of fun k hk => ?_⟩
    rw [bitsOf_spec, decide_eq_true_iff] at hk
    have hlt := he i o ho k hk
    simp only [afs, List.mem_map, List.mem_filter] at hk
    obtain ⟨e, ⟨hm, hb⟩, rfl⟩ := hk
    rw [← h.2 _ hlt]
    exact hall e (by simpa using hm) hb
  · rintro ⟨h0, hs⟩
    refine ⟨h0, o, ho, fun e hm hb => ?_⟩
    have hk : e.on ∈ afs o := by
      simp only [afs, List.mem_map, List.mem_filter]
      exact ⟨e, ⟨by simpa using hm, hb⟩, rfl⟩
    rw [h.2 _ (he i o ho _ hk)]
    exact sub_spec hs _ (by rw [bitsOf_spec]; simpa using hk)
theorem waits_of_bit {i j : Nat} {oj : Oper} (hj : ops[j]? = some oj) (h : (bitsOf (afs oj)).testBit i = true) : waitsFor .any ops j i = true := by
  rw [bitsOf_spec, decide_eq_true_iff] at h
  simp only [afs, List.mem_map, List.mem_filter] at h
  obtain ⟨e, ⟨hm, hb⟩, rfl⟩ := h
  simp only [waitsFor, hj, Option.map_some, Option.getD_some, Array.any_eq_true', Bool.and_eq_true, beq_iff_eq]
  exact ⟨e, by simpa using hm, hb, rfl⟩
theorem nodup_range_filter {n : Nat} {p : Nat → Bool} {i : Nat} (hi : i < n) (hp : p i = true) (hu : ∀ j, j < n → p j = true → j = i) : (List.range n).filter p = [i] := by
  have hnd : ((List.range n).filter p).Nodup := List.nodup_range.filter _
  have hm : ∀ x, x ∈ (List.range n).filter p ↔ x = i := by
    intro x
    rw [List.mem_filter, List.mem_range]
    exact ⟨fun h => hu x h.1 h.2, fun h => by subst h; exact ⟨hi, hp⟩⟩
  match hl : (List.range n).filter p with
  | [] => have := (hm i).2 rfl; rw [hl] at this; cases this
  | [x] => have := (hm x).1 (by rw [hl]; simp); rw [this]
  | x :: y :: l =>
    have h1 := (hm x).1 (by rw [hl]; simp)
    have h2 := (hm y).1 (by rw [hl]; simp)
    rw [hl] at hnd
    simp only [List.nodup_cons, List.mem_cons, not_or] at hnd
    exact absurd (h1.trans h2.symm) hnd.1.1
theorem info_get {i : Nat} {x : Nat × Nat × Nat} (h : (ops.toList.map (infoOf ops))[i]? = some x) : ∃ o, ops[i]? = some o ∧ x = infoOf ops o := by
  rw [List.getElem?_map] at h
  cases ho : ops.toList[i]? with
  | none => rw [ho] at h; cases h
  | some o => rw [ho] at h; cases h; exact ⟨o, by simpa using ho, rfl⟩
theorem planF_sound (all : Plan) (hok : ops.toList.all (Opr.okN n) = true) (he : ∀ (j : Nat) (o : Oper), ops[j]? = some o → ∀ k ∈ afs o, k < ops.size) (hlen : ∀ x ∈ all, x.2 = 3 → x.1 < ops.size) : ∀ (p : Plan) (m : Nat) (listed : Array Bool), Rep ops m listed →
    planF (ops.toList.map (infoOf ops)) (bitsOf (barsOf all)) (barsOf all) p m = true → planGo n ops all p listed = true := by
  have hbar : ∀ j, barOf all j = (bitsOf (barsOf all)).testBit j := by
    intro j
    rw [bitsOf_spec, Bool.eq_iff_iff, decide_eq_true_iff]
    simp only [barOf, barsOf, List.any_eq_true, List.mem_map, List.mem_filter, Bool.and_eq_true, beq_iff_eq]
    exact ⟨fun ⟨x, h1, h2, h3⟩ => ⟨x, ⟨h1, h3⟩, h2⟩, fun ⟨x, ⟨h1, h3⟩, h2⟩ => ⟨x, h1, h2, h3⟩⟩
  have hbits : ∀ o : Oper, ∀ d, (match o.dst with | some d => 2 ^ d | none => 0 : Nat).testBit d = true ↔ o.dst = some d := by
    intro o d
    cases o.dst with
    | none => simp
    | some d' => simp only [Nat.testBit_two_pow, decide_eq_true_iff, Option.some.injEq]
  intro p
  induction p with
  | nil =>
    intro m listed hR h
    simp only [planF] at h
    simp only [planGo, List.isEmpty_iff]
    refine List.eq_nil_iff_forall_not_mem.2 fun i hi => ?_
    obtain ⟨_, o, ho, _⟩ := mem_ready.1 hi
    have h1 := (ready_iff hR he ho).1 hi
    have h2 := allI_spec _ 0 h i (infoOf ops o) (by rw [List.getElem?_map]; simp [ho])
    simp only [Nat.zero_add, h1.1, Bool.false_or, infoOf, h1.2] at h2
    cases h2
  | cons x rest ih =>
    obtain ⟨i, k⟩ := x
    intro m listed hR h
    simp only [planF, Bool.and_eq_true] at h
    obtain ⟨h, hrest⟩ := h
    cases hx : (ops.toList.map (infoOf ops))[i]? with
    | none => rw [hx] at h; cases h
    | some x =>
      obtain ⟨o, ho, rfl⟩ := info_get hx
      rw [hx] at h
      simp only [infoOf, Bool.and_eq_true, Bool.not_eq_true'] at h
      obtain ⟨⟨hm, hs⟩, hk⟩ := h
      have hi : i < ops.size := (Array.getElem?_eq_some_iff.1 ho).1
      have hready : i ∈ Region.ready .any ops listed := (ready_iff hR he ho).2 ⟨hm, hs⟩
      have hokI : Opr.okN n o = true := by
        rw [List.all_eq_true] at hok
        exact hok o (Array.mem_toList_iff.2 (Array.mem_of_getElem? ho))
      have hfree : ∀ {q : Bool}, (allI (fun j x => Nat.beq j i || m.testBit j || x.1.testBit i || (Nat.beq ((match o.dst with | some d => 2 ^ d | none => 0) &&& x.2.1) 0 && Nat.beq ((match o.dst with | some d => 2 ^ d | none => 0) &&& x.2.2) 0 && Nat.beq (x.2.2 &&& bitsOf (o.looksAt ops)) 0)) 0 (ops.toList.map (infoOf ops))) = true → Region.free .any ops listed i = true := by
        intro _ hf
        unfold Region.free
        rw [ho]
        simp only [List.all_eq_true, List.mem_range]
        intro j hj
        have hoj : ops[j]? = some ops[j] := by simp [hj]
        have h2 := allI_spec _ 0 hf j (infoOf ops ops[j]) (by rw [List.getElem?_map]; simp [hj])
        simp only [Nat.zero_add, infoOf, Bool.or_eq_true, Bool.and_eq_true] at h2
        rw [hR.true' hj]
        simp only [hoj, Bool.or_eq_true, beq_iff_eq]
        rcases h2 with ((h2 | h2) | h2) | h2
        · exact .inl (.inl (Nat.eq_of_beq_eq_true h2))
        · exact .inl (.inr h2)
        · have := waits_of_bit hoj h2
          simp only [waitsFor, hoj, Option.map_some, Option.getD_some] at this
          exact .inr (.inl this)
        · refine .inr (.inr ?_)
          have a1 : ∀ d, o.dst = some d → d ∉ ops[j].looksAt ops := fun d hd hm' => by
            have := and_zero (k := d) h2.1.1 ((hbits o d).2 hd)
            rw [bitsOf_spec, decide_eq_false_iff_not] at this
            exact this hm'
          have a2 : ∀ d, o.dst = some d → ops[j].dst ≠ some d := fun d hd hm' => by
            have := and_zero (k := d) h2.1.2 ((hbits o d).2 hd)
            rw [(hbits ops[j] d).2 hm'] at this; cases this
          have a3 : ∀ d, ops[j].dst = some d → d ∉ o.looksAt ops := fun d hd hm' => by
            have := and_zero (k := d) h2.2 ((hbits ops[j] d).2 hd)
            rw [bitsOf_spec, decide_eq_false_iff_not] at this
            exact this hm'
          unfold Oper.apart
          rw [Bool.and_eq_true]
          constructor
          · cases hd : o.dst with
            | none => rfl
            | some d => simp [a1 d hd, a2 d hd]
          · cases hd : ops[j].dst with
            | none => rfl
            | some d => simp [a3 d hd]
      have hsolo : (allI (fun j x => Nat.beq j i || m.testBit j || !sub x.1 m) 0 (ops.toList.map (infoOf ops))) = true → (Region.ready .any ops listed == [i]) = true := by
        intro hf
        rw [beq_iff_eq]
        unfold Region.ready
        refine nodup_range_filter hi ?_ ?_
        · have := List.mem_filter.1 (show i ∈ Region.ready .any ops listed from hready); exact this.2
        · intro j hj hp
          have hjr : j ∈ Region.ready .any ops listed := List.mem_filter.2 ⟨List.mem_range.2 hj, hp⟩
          have hoj : ops[j]? = some ops[j] := by simp [hj]
          have h1 := (ready_iff hR he hoj).1 hjr
          have h2 := allI_spec _ 0 hf j (infoOf ops ops[j]) (by rw [List.getElem?_map]; simp [hj])
          simp only [Nat.zero_add, infoOf, h1.1, h1.2, Bool.or_false, Bool.not_true] at h2
          exact Nat.eq_of_beq_eq_true h2
      have hrest' := ih (m ||| 2 ^ i) (listed.setIfInBounds i true) (hR.set hi) hrest
      simp only [planGo, ho, hokI, hrest', Bool.true_and, Bool.and_true]
      match k with
      | 0 =>
        simp only [Bool.and_eq_true, Bool.not_eq_true'] at hk
        simp only [Bool.and_eq_true, Bool.not_eq_true', hbar]
        exact ⟨⟨by simpa using hready, hfree (q := true) hk.1⟩, hk.2⟩
      | 1 =>
        simp only [Bool.and_eq_true, Bool.not_eq_true', List.all_eq_true] at hk
        simp only [Bool.and_eq_true, Bool.not_eq_true', hbar, List.all_eq_true]
        refine ⟨⟨⟨⟨by simpa using hready, hfree (q := true) hk.1.1.1⟩, hk.1.1.2⟩, ?_⟩, ?_⟩
        · cases hb : barredB all listed with
          | false => rfl
          | true =>
            simp only [barredB, List.any_eq_true, Bool.and_eq_true, beq_iff_eq] at hb
            obtain ⟨x, hx, h3, hl⟩ := hb
            have hlt := hlen x hx h3
            rw [hR.2 _ hlt] at hl
            have := and_zero (k := x.1) hk.1.2 (by rw [bitsOf_spec, decide_eq_true_iff]; simp only [barsOf, List.mem_map, List.mem_filter, beq_iff_eq]; exact ⟨x, ⟨hx, h3⟩, rfl⟩)
            rw [hl] at this; cases this
        · intro x hx
          by_cases h3 : x.2 = 3
          · have := hk.2 x.1 (by simp only [barsOf, List.mem_map, List.mem_filter, beq_iff_eq]; exact ⟨x, ⟨hx, h3⟩, rfl⟩)
            cases hxi : (ops.toList.map (infoOf ops))[x.1]? with
            | none => rw [hxi] at this; cases this
            | some y =>
              obtain ⟨oj, hoj, rfl⟩ := info_get hxi
              rw [hxi] at this
              simp only [infoOf] at this
              simp [waits_of_bit hoj this]
          · simp [h3]
      | 2 => exact hsolo hk
      | 3 => exact hsolo hk
      | 4 =>
        simp only [Bool.and_eq_true, Bool.not_eq_true'] at hk
        simp only [Bool.and_eq_true, Bool.not_eq_true', hbar]
        exact ⟨⟨by simpa using hready, hfree (q := true) hk.1⟩, hk.2⟩
      | 5 =>
        simp only [Bool.and_eq_true, Bool.not_eq_true', List.all_eq_true] at hk
        simp only [Bool.and_eq_true, Bool.not_eq_true', hbar, List.all_eq_true]
        refine ⟨⟨⟨⟨by simpa using hready, hfree (q := true) hk.1.1.1⟩, hk.1.1.2⟩, ?_⟩, ?_⟩
        · cases hb : barredB all listed with
          | false => rfl
          | true =>
            simp only [barredB, List.any_eq_true, Bool.and_eq_true, beq_iff_eq] at hb
            obtain ⟨x, hx, h3, hl⟩ := hb
            have hlt := hlen x hx h3
            rw [hR.2 _ hlt] at hl
            have := and_zero (k := x.1) hk.1.2 (by rw [bitsOf_spec, decide_eq_true_iff]; simp only [barsOf, List.mem_map, List.mem_filter, beq_iff_eq]; exact ⟨x, ⟨hx, h3⟩, rfl⟩)
            rw [hl] at this; cases this
        · intro x hx
          by_cases h3 : x.2 = 3
          · have := hk.2 x.1 (by simp only [barsOf, List.mem_map, List.mem_filter, beq_iff_eq]; exact ⟨x, ⟨hx, h3⟩, rfl⟩)
            cases hxi : (ops.toList.map (infoOf ops))[x.1]? with
            | none => rw [hxi] at this; cases this
            | some y =>
              obtain ⟨oj, hoj, rfl⟩ := info_get hxi
              rw [hxi] at this
              simp only [infoOf] at this
              simp [waits_of_bit hoj this]
          · simp [h3]
      | _ + 6 => simp at hk
/-- All edges lead to operations of the region. -/
def edgesOk (ops : Array Oper) : Bool := ops.toList.all fun o => (afs o).all fun k => Nat.blt k ops.size
theorem planFast_ok {p : Plan} (h : (planFast n ops p && edgesOk ops && (barsOf p).all (fun b => Nat.blt b ops.size)) = true) : planOk n ops p = true := by
  simp only [planFast, Bool.and_eq_true] at h
  obtain ⟨⟨⟨⟨⟨h1, h2⟩, h3⟩, h4⟩, h5⟩, h6⟩ := h
  simp only [planOk, h1, h2, Bool.true_and]
  refine planF_sound p h3 ?_ ?_ p 0 _ ⟨by simp, fun k hk => by simp [Array.getD, hk]⟩ h4
  · intro j o ho k hk
    simp only [edgesOk, List.all_eq_true] at h5
    have := h5 o (Array.mem_toList_iff.2 (Array.mem_of_getElem? ho)) k hk
    simpa using this
  · intro x hx h3
    simp only [List.all_eq_true] at h6
    have := h6 x.1 (by simp only [barsOf, List.mem_map, List.mem_filter, beq_iff_eq]; exact ⟨x, ⟨hx, h3⟩, rfl⟩)
    simpa using this

theorem cw_draw {id : Nat} {f : Nat → Value} {w : World} (S : World → Prop) (hSg : ∀ w w2, S w → Gr w w2 → S w2) (p : Plan) (hm : P.follows .mixedOrders = true) (hp : planOk n ops p = true) (hQ : ∀ c f w, ¬ Q (.panic c) f w)
    (hS : ∀ m, S { w with drawn := m }) (h : ∀ m, PL P n ops S Q p f { w with drawn := m }) : CW P n (.region id ops true) Q f w := by
  simp only [planOk, Bool.and_eq_true, beq_iff_eq] at hp
  obtain ⟨⟨hsel, hlen⟩, hgo⟩ := hp
  refine wp_region_any hm (AnyB.any (S := S) (bar := barOf p) _ _ _ _ ?_)
  have := PL.sound (P := P) (S := S) p hSg hsel hQ p (Array.replicate ops.size false) f { w with drawn := w.drawn + 1 } hgo (fun x hx h3 => by
    simp only [barOf, List.any_eq_true, Bool.and_eq_true, beq_iff_eq]; exact ⟨x, hx, rfl, h3⟩) (.inr (hS _)) (h _) (by simp)
  rw [hlen] at this
  exact this
theorem cw_draw_s {id : Nat} {E : World} {Γ : List Chunk} {f : Nat → Value} {w : World} (S : World → Prop) (hS : Sat E Γ w) (hs : ∀ w', Sat E Γ w' → S w') (hSg : ∀ w w2, S w → Gr w w2 → S w2) (p : Plan) (hm : P.follows .mixedOrders = true) (hp : planOk n ops p = true) (hQ : ∀ c f w, ¬ Q (.panic c) f w)
    (h : ∀ w', Sat E Γ w' → PL P n ops S Q p f w') : CW P n (.region id ops true) Q f w := cw_draw S hSg p hm hp hQ (fun m => hs _ (hS.drew m)) (fun m => h _ (hS.drew m))
theorem cw_draw_sat {id : Nat} {E : World} {Γ : List Chunk} {f : Nat → Value} {w : World} (hS : Sat E Γ w) (p : Plan) (hm : P.follows .mixedOrders = true) (hp : planOk n ops p = true) (hQ : ∀ c f w, ¬ Q (.panic c) f w)
    (h : ∀ w', Sat E Γ w' → PL P n ops (Sat E Γ) Q p f w') : CW P n (.region id ops true) Q f w := cw_draw_s _ hS (fun _ h => h) (fun _ _ h hg => Sat.below h hg) p hm hp hQ h
end
end Go.Proofs.YtjcagoighpmdkaaGreatDoor
