/- A region whose order is drawn: whatever the order, it does what it does in one order ('PL'), if each operation that only reads yields the same wherever it comes ('S' holds meanwhile), and what acts comes in one line. Over any program. -/
import Derived.Test.YtfekgjdahckdhaaMem
namespace Go.Proofs.Ytfekgjdahckdhaa
open Go Go.RowKit
set_option linter.unusedVariables false
set_option linter.unusedSimpArgs false

section
variable {P : Program} {ops : Array Oper} {Q : Exit → Act → World → Prop} {md : Region.Mode} {S : World → Prop} {bar : Nat → Bool}

/-- One of 'bar' has come up. -/
def Bd (bar : Nat → Bool) (listed : Array Bool) : Prop := ∃ k, bar k = true ∧ listed.getD k false = true
theorem Bd.set {listed : Array Bool} {i : Nat} (h : Bd bar listed) : Bd bar (listed.setIfInBounds i true) := by
  obtain ⟨k, h1, h2⟩ := h
  exact ⟨k, h1, getD_set_true h2⟩
theorem Bd.unset {listed : Array Bool} {i : Nat} (hi : bar i = false) (h : Bd bar (listed.setIfInBounds i true)) : Bd bar listed := by
  obtain ⟨k, h1, h2⟩ := h
  have hne : i ≠ k := fun e => by subst e; rw [hi] at h1; cases h1
  rw [getD_set_ne false hne] at h2
  exact ⟨k, h1, h2⟩

/-- Whatever order is picked from here on; behind each operation S holds, till one of 'bar' has come up. -/
def AnyB (P : Program) (md : Region.Mode) (ops : Array Oper) (Q : Exit → Act → World → Prop) (S : World → Prop) (bar : Nat → Bool) : Nat → Array Bool → Act → World → Prop
  | 0, listed, a, w => Region.ready md ops listed = [] ∧ Q .normal a w
  | fuel + 1, listed, a, w => (Region.ready md ops listed = [] → Q .normal a w) ∧
      ∀ i ∈ Region.ready md ops listed, wpOp P ops Q i (fun a' w' => (Bd bar (listed.setIfInBounds i true) ∨ S w') ∧ AnyB P md ops Q S bar fuel (listed.setIfInBounds i true) a' w') a w

theorem AnyB.any : ∀ (fuel : Nat) (listed : Array Bool) (a : Act) (w : World), AnyB P md ops Q S bar fuel listed a w → wpAny P md ops Q fuel listed a w
  | 0, _, _, _, h => h
  | fuel + 1, _, _, _, h => ⟨h.1, fun i hi => wpOp_mono (fun a' w' h' => AnyB.any fuel _ a' w' h'.2) (h.2 i hi)⟩

/-- Operation j waits for operation i by an edge of its own. -/
def waitsFor (md : Region.Mode) (ops : Array Oper) (j i : Nat) : Bool := ((ops[j]?).map fun o => o.after.any fun e => Region.binds md e && e.on == i).getD false
theorem not_ready_of_waits {listed : Array Bool} {i j : Nat} (hw : waitsFor md ops j i = true) (hi : i ∈ Region.ready md ops listed) : j ∉ Region.ready md ops listed := by
  intro hj
  obtain ⟨_, oj, hoj, hall⟩ := mem_ready.1 hj
  simp only [waitsFor, hoj, Option.map_some, Option.getD_some, Array.any_eq_true', Bool.and_eq_true, beq_iff_eq] at hw
  obtain ⟨e, he, hb, rfl⟩ := hw
  have h1 := hall e he hb
  have h0 := (mem_ready.1 hi).1
  cases hl : listed[e.on]? with
  | none => rw [Array.getD_eq_getD_getElem?, hl] at h1; simp at h1
  | some b => rw [Array.getD_eq_getD_getElem?, hl] at h0 h1; simp at h0 h1; rw [h0] at h1; cases h1

/-- An operation that may come up is taken first: it yields the same in every world that meets S'. -/
theorem AnyB.first {i : Nat} {oi : Oper} {v : Value} (hi : ops[i]? = some oi) (hsel : Region.noSelect ops = true) (hQ : ∀ c a w, Q (.panic c) (a.put oi.dst v) w → Q (.panic c) a w)
    (hbi : bar i = false) (S' : World → Prop) (hS' : (∀ w, S' w) ∨ (S' = S ∧ ∀ j, bar j = true → waitsFor md ops j i = true)) :
    ∀ (fuel : Nat) (listed : Array Bool) (a : Act) (w : World), (∀ j oj, ops[j]? = some oj → j ≠ i → listed.getD j true = false → (∀ e ∈ oj.after, Region.binds md e = true → e.on ≠ i) → oi.apart ops oj = true) →
      i ∈ Region.ready md ops listed → YieldsIf P ops S' oi v a → ((∀ w, S' w) ∨ ¬ Bd bar listed) → (Bd bar listed ∨ S w) →
      AnyB P md ops Q S bar fuel (listed.setIfInBounds i true) (a.put oi.dst v) w → AnyB P md ops Q S bar (fuel + 1) listed a w := by
  have hns := Region.noSelect_spec hsel
  have met : ∀ listed w, ((∀ w, S' w) ∨ ¬ Bd bar listed) → (Bd bar listed ∨ S w) → S' w := fun listed w h1 h2 => by
    rcases h1 with h1 | h1
    · exact h1 w
    · rcases hS' with h | ⟨rfl, _⟩
      · exact h w
      · exact h2.resolve_left h1
  intro fuel
  induction fuel with
  | zero =>
    intro listed a w _ hr hy hB hS H
    refine ⟨fun h => (by rw [h] at hr; cases hr), fun j hj => ?_⟩
    by_cases hji : j = i
    · subst hji; exact YieldsIf.wpOp hi hy (met _ _ hB hS) ⟨hS.imp Bd.set id, H⟩
    · have := ready_mono hj hji
      rw [H.1] at this; cases this
  | succ fuel ih =>
    intro listed a w hfree hr hy hB hS H
    refine ⟨fun h => (by rw [h] at hr; cases hr), fun j hj => ?_⟩
    by_cases hji : j = i
    · subst hji; exact YieldsIf.wpOp hi hy (met _ _ hB hS) ⟨hS.imp Bd.set id, H⟩
    · have h1 := H.2 j (ready_mono hj hji)
      obtain ⟨hjun, oj, hoj, hall⟩ := mem_ready.1 hj
      have hnot : ∀ e ∈ oj.after, Region.binds md e = true → e.on ≠ i := fun e he hb heq => by
        have hw : waitsFor md ops j i = true := by
          simp only [waitsFor, hoj, Option.map_some, Option.getD_some, Array.any_eq_true', Bool.and_eq_true, beq_iff_eq]
          exact ⟨e, he, hb, heq⟩
        exact not_ready_of_waits hw hr hj
      have h2 := wpOp_putIf hoj (hfree j oj hoj hji hjun hnot) (fun cs b => hns i oi cs b hi) (fun cs b => hns j oj cs b hoj) hQ hy h1
      refine wpOp_mono (fun a' w' h3 => ?_) h2
      obtain ⟨hy', hS3, H3⟩ := h3
      have hS4 : Bd bar (listed.setIfInBounds j true) ∨ S w' := by
        rcases hS3 with h | h
        · rw [Array.setIfInBounds_comm _ _ (Ne.symm hji)] at h
          exact .inl (h.unset hbi)
        · exact .inr h
      have hB' : (∀ w, S' w) ∨ ¬ Bd bar (listed.setIfInBounds j true) := by
        rcases hB with h | h
        · exact .inl h
        · rcases hS' with h' | ⟨_, hw⟩
          · exact .inl h'
          · refine .inr fun hbd => h ?_
            have hbj : bar j = false := by
              cases hbj : bar j with
              | false => rfl
              | true => exact absurd hj (not_ready_of_waits (hw j hbj) hr)
            exact hbd.unset hbj
      refine ⟨hS4, ih (listed.setIfInBounds j true) a' w' ?_ (ready_mono hr (Ne.symm hji)) hy' hB' hS4 ?_⟩
      · intro k ok hk hki hun hno
        refine hfree k ok hk hki ?_ hno
        by_cases hjk : j = k
        · subst hjk; exact hjun
        · rw [getD_set_ne true hjk] at hun; exact hun
      · rw [Array.setIfInBounds_comm _ _ hji]; exact H3
end

/-! ### The plan -/
/-- A plan: number and kind: 0: yields the same in every world; 1: .. in every world that meets S; 2: comes up alone, and keeps S; 3: comes up alone, and may break S. -/
abbrev Plan := List (Nat × Nat)
def barOf (p : Plan) (j : Nat) : Bool := p.any fun x => x.1 == j && x.2 == 3
def barredB (p : Plan) (listed : Array Bool) : Bool := p.any fun x => x.2 == 3 && listed.getD x.1 false
def planGo (n : Nat) (ops : Array Oper) (all : Plan) : Plan → Array Bool → Bool
  | [], listed => (Region.ready .any ops listed).isEmpty
  | (i, k) :: rest, listed =>
    (match ops[i]? with | some o => Opr.okN n o | none => false) &&
    (match k with
     | 0 => (Region.ready .any ops listed).contains i && Region.free .any ops listed i && !barOf all i
     | 1 => (Region.ready .any ops listed).contains i && Region.free .any ops listed i && !barOf all i && !barredB all listed && all.all (fun x => x.2 != 3 || waitsFor .any ops x.1 i)
     | 2 | 3 => (Region.ready .any ops listed) == [i]
     | _ => false) &&
    planGo n ops all rest (listed.setIfInBounds i true)
def planOk (n : Nat) (ops : Array Oper) (p : Plan) : Bool := Region.noSelect ops && p.length == ops.size && planGo n ops p p (Array.replicate ops.size false)

section
variable {P : Program} {n : Nat} {ops : Array Oper} {Q : Exit → (Nat → Value) → World → Prop} {S : World → Prop}

def yes (n : Nat) (ops : Array Oper) (o : Oper) (f : Nat → Value) : Bool := Region.wanted o (yielded ops (actF n f).tmps)
def PL (P : Program) (n : Nat) (ops : Array Oper) (S : World → Prop) (Q : Exit → (Nat → Value) → World → Prop) : Plan → (Nat → Value) → World → Prop
  | [], f, w => Q .normal f w
  | (i, k) :: rest, f, w => ∃ o, ops[i]? = some o ∧ (match k with
    | 0 => ∃ v, ((yes n ops o f = true ∧ ∀ w, (execOp (ev f) o).run P w = .ok (.value v) w) ∨ (yes n ops o f = false ∧ v = undef)) ∧ PL P n ops S Q rest (updo f o.dst v) w
    | 1 => ∃ v, ((yes n ops o f = true ∧ ∀ w, S w → (execOp (ev f) o).run P w = .ok (.value v) w) ∨ (yes n ops o f = false ∧ v = undef)) ∧ PL P n ops S Q rest (updo f o.dst v) w
    | 2 => (yes n ops o f = true ∧ OW P o f w (fun f' w' => S w' ∧ PL P n ops S Q rest f' w')) ∨ (yes n ops o f = false ∧ PL P n ops S Q rest (updo f o.dst undef) w)
    | _ => (yes n ops o f = true ∧ OW P o f w (PL P n ops S Q rest)) ∨ (yes n ops o f = false ∧ PL P n ops S Q rest (updo f o.dst undef) w))

theorem okN_dst {o : Oper} (h : Opr.okN n o = true) : dstLt n o.dst = true := by simp only [Opr.okN, Bool.and_eq_true] at h; exact h.1.2
theorem barOf_spec {p : Plan} {listed : Array Bool} (h : barredB p listed = false) : ¬ Bd (barOf p) listed := by
  rintro ⟨k, h1, h2⟩
  simp only [barOf, List.any_eq_true, Bool.and_eq_true, beq_iff_eq] at h1
  obtain ⟨x, hx, rfl, h3⟩ := h1
  have : barredB p listed = true := by
    simp only [barredB, List.any_eq_true, Bool.and_eq_true, beq_iff_eq]
    exact ⟨x, hx, h3, h2⟩
  rw [this] at h; cases h

theorem PL.sound (all : Plan) (hsel : Region.noSelect ops = true) (hQ : ∀ c f w, ¬ Q (.panic c) f w) : ∀ (p : Plan) (listed : Array Bool) (f : Nat → Value) (w : World), planGo n ops all p listed = true →
    (∀ x ∈ p, x.2 = 3 → barOf all x.1 = true) → (Bd (barOf all) listed ∨ S w) → (PL P n ops S Q p f w) → listed.size = ops.size → AnyB P .any ops (QF n Q) S (barOf all) p.length listed (actF n f) w := by
  intro p
  induction p with
  | nil =>
    intro listed f w hp _ _ h _
    simp only [planGo, List.isEmpty_iff] at hp
    exact ⟨hp, f, rfl, h⟩
  | cons x rest ih =>
    obtain ⟨i, k⟩ := x
    intro listed f w hp hb hS h hsz
    simp only [planGo, Bool.and_eq_true] at hp
    obtain ⟨⟨hok, hk⟩, hrest⟩ := hp
    unfold PL at h
    obtain ⟨o, ho, h⟩ := h
    rw [ho] at hok
    have hok : Opr.okN n o = true := hok
    have hd := okN_dst hok
    have hb' : ∀ x ∈ rest, x.2 = 3 → barOf all x.1 = true := fun x hx => hb x (List.mem_cons_of_mem _ hx)
    have hsz' : (listed.setIfInBounds i true).size = ops.size := by simpa using hsz
    have hil : i < listed.size := by rw [hsz]; exact (Array.getElem?_eq_some_iff.1 ho).1
    have hQ' : ∀ (v : Value) c a w, QF n Q (.panic c) (a.put o.dst v) w → QF n Q (.panic c) a w := fun v c a w ⟨f, _, h⟩ => absurd h (hQ c f w)
    have solo : ∀ (S2 : Bool), (Region.ready .any ops listed == [i]) = true → (S2 = false → barOf all i = true) →
        ((yes n ops o f = true ∧ OW P o f w (fun f' w' => (S2 = true → S w') ∧ PL P n ops S Q rest f' w')) ∨ (yes n ops o f = false ∧ PL P n ops S Q rest (updo f o.dst undef) w)) →
        AnyB P .any ops (QF n Q) S (barOf all) (rest.length + 1) listed (actF n f) w := by
      intro S2 hr hbar h
      have hr : Region.ready .any ops listed = [i] := by simpa using hr
      refine ⟨(fun h0 => by rw [hr] at h0; cases h0), fun j hj => ?_⟩
      rw [hr] at hj
      obtain rfl : j = i := by simpa using hj
      have hset : S2 = false → Bd (barOf all) (listed.setIfInBounds j true) := fun e => ⟨j, hbar e, by simp [Array.getD, hil]⟩
      unfold wpOp
      simp only [ho]
      rcases h with ⟨hy, hO⟩ | ⟨hy, hn⟩
      · have hy' : Region.wanted o (yielded ops (actF n f).tmps) = true := hy
        rw [if_pos hy']
        refine .inl (oper_wp_of hok (K := fun f' w' => (S2 = true → S w') ∧ PL P n ops S Q rest f' w') (fun f' w' ⟨h1, h2⟩ => ?_) hO)
        have hS' : Bd (barOf all) (listed.setIfInBounds j true) ∨ S w' := by
          cases S2 with
          | true => exact .inr (h1 rfl)
          | false => exact .inl (hset rfl)
        exact ⟨hS', ih _ f' w' hrest hb' hS' h2 hsz'⟩
      · have hy' : Region.wanted o (yielded ops (actF n f).tmps) = false := hy
        rw [if_neg (by rw [hy']; simp), actF_put hd]
        have hS' := hS.imp (Bd.set (i := j)) id
        exact ⟨hS', ih _ _ w hrest hb' hS' hn hsz'⟩
    have take : ∀ (S' : World → Prop) (v : Value), ((∀ w, S' w) ∨ (S' = S ∧ ∀ j, barOf all j = true → waitsFor .any ops j i = true)) → ((∀ w, S' w) ∨ ¬ Bd (barOf all) listed) →
        (Region.ready .any ops listed).contains i = true → Region.free .any ops listed i = true → barOf all i = false →
        ((yes n ops o f = true ∧ ∀ w, S' w → (execOp (ev f) o).run P w = .ok (.value v) w) ∨ (yes n ops o f = false ∧ v = undef)) → PL P n ops S Q rest (updo f o.dst v) w →
        AnyB P .any ops (QF n Q) S (barOf all) (rest.length + 1) listed (actF n f) w := by
      intro S' v hS1 hB hr hfree hbi hy hn
      refine AnyB.first ho hsel (hQ' v) hbi S' hS1 _ _ _ _ (Region.free_spec ho hfree) (by simpa using hr) ?_ hB hS ?_
      · rcases hy with ⟨h1, h2⟩ | ⟨h1, h2⟩
        · exact .inl ⟨h1, fun w hw => by rw [execOp_actF hok]; exact h2 w hw⟩
        · exact .inr ⟨h1, h2⟩
      · rw [actF_put hd]
        exact ih _ _ w hrest hb' (hS.imp Bd.set id) hn hsz'
    match k with
    | 0 =>
      simp only [Bool.and_eq_true, Bool.not_eq_true'] at hk
      obtain ⟨v, hy, hn⟩ := h
      exact take (fun _ => True) v (.inl fun _ => trivial) (.inl fun _ => trivial) hk.1.1 hk.1.2 hk.2 (hy.imp (fun ⟨a, b⟩ => ⟨a, fun w _ => b w⟩) id) hn
    | 1 =>
      simp only [Bool.and_eq_true, Bool.not_eq_true', List.all_eq_true] at hk
      obtain ⟨v, hy, hn⟩ := h
      refine take S v (.inr ⟨rfl, fun j hj => ?_⟩) (.inr (barOf_spec hk.1.2)) hk.1.1.1.1 hk.1.1.1.2 hk.1.1.2 hy hn
      simp only [barOf, List.any_eq_true, Bool.and_eq_true, beq_iff_eq] at hj
      obtain ⟨x, hx, rfl, h3⟩ := hj
      have := hk.2 x hx
      rw [h3] at this
      simpa using this
    | 2 => exact solo true hk (fun h => by cases h) (h.imp (fun ⟨a, b⟩ => ⟨a, b.mono fun _ _ ⟨x, y⟩ => ⟨fun _ => x, y⟩⟩) id)
    | 3 => exact solo false hk (fun _ => hb (i, 3) (by simp) rfl) (h.imp (fun ⟨a, b⟩ => ⟨a, b.mono fun _ _ x => ⟨(fun e => by cases e), x⟩⟩) id)
    | _ + 4 => simp at hk

theorem pl_nil {f : Nat → Value} {w : World} (h : Q .normal f w) : PL P n ops S Q [] f w := h
theorem yes_none {o : Oper} {f : Nat → Value} (hg : o.guard = none) : yes n ops o f = true := by unfold yes Region.wanted; rw [hg]
theorem yes_some {o : Oper} {f : Nat → Value} {j : Nat} {want : Bool} {s : Nat} (hg : o.guard = some (j, want)) (hd : (ops[j]?).bind (·.dst) = some s) (hlt : Nat.blt s n = true) (hv : f s = .bool want) : yes n ops o f = true :=
  wanted_is ⟨j, want, s, want, hg, hd, hlt, hv, by simp⟩
theorem yes_not {o : Oper} {f : Nat → Value} {j : Nat} {want : Bool} {s : Nat} {b : Bool} (hg : o.guard = some (j, want)) (hd : (ops[j]?).bind (·.dst) = some s) (hlt : Nat.blt s n = true) (hv : f s = .bool b) (hb : b = !want) : yes n ops o f = false :=
  wanted_is ⟨j, want, s, b, hg, hd, hlt, hv, by subst hb; cases want <;> rfl⟩
/-- Number i yields the same in every world. -/
theorem pl_take {i : Nat} {d : Nat} {op : Op} {ty : TypeId} {pos : String} {af : Array Edge} {g : Option (Nat × Bool)} {v : Value} {rest : Plan} {f : Nat → Value} {w : World} (ho : ops[i]? = some ⟨some d, op, ty, pos, af, g⟩) (hy : yes n ops ⟨some d, op, ty, pos, af, g⟩ f = true) (hr : VR P f ⟨some d, op, ty, pos, af, g⟩ v) (h : PL P n ops S Q rest (upd f d v) w) : PL P n ops S Q ((i, 0) :: rest) f w :=
  ⟨_, ho, v, .inl ⟨hy, hr⟩, h⟩
theorem pl_load {i : Nat} {d : Nat} {op : Op} {ty : TypeId} {pos : String} {af : Array Edge} {g : Option (Nat × Bool)} {v : Value} {rest : Plan} {f : Nat → Value} {w : World} (ho : ops[i]? = some ⟨some d, op, ty, pos, af, g⟩) (hy : yes n ops ⟨some d, op, ty, pos, af, g⟩ f = true) (hr : LR P S f ⟨some d, op, ty, pos, af, g⟩ v) (h : PL P n ops S Q rest (upd f d v) w) : PL P n ops S Q ((i, 1) :: rest) f w :=
  ⟨_, ho, v, .inl ⟨hy, hr⟩, h⟩
theorem pl_act {i : Nat} {o : Oper} {rest : Plan} {f : Nat → Value} {w : World} (ho : ops[i]? = some o) (hy : yes n ops o f = true) (h : OW P o f w (fun f' w' => S w' ∧ PL P n ops S Q rest f' w')) : PL P n ops S Q ((i, 2) :: rest) f w :=
  ⟨o, ho, .inl ⟨hy, h⟩⟩
theorem pl_end {i : Nat} {o : Oper} {rest : Plan} {f : Nat → Value} {w : World} (ho : ops[i]? = some o) (hy : yes n ops o f = true) (h : OW P o f w (PL P n ops S Q rest)) : PL P n ops S Q ((i, 3) :: rest) f w :=
  ⟨o, ho, .inl ⟨hy, h⟩⟩
/-- Number i's guard says no. -/
theorem pl_no {i k : Nat} {o : Oper} {rest : Plan} {f : Nat → Value} {w : World} (ho : ops[i]? = some o) (hy : yes n ops o f = false) (h : PL P n ops S Q rest (updo f o.dst undef) w) : PL P n ops S Q ((i, k) :: rest) f w := by
  match k with
  | 0 => exact ⟨o, ho, undef, .inr ⟨hy, rfl⟩, h⟩
  | 1 => exact ⟨o, ho, undef, .inr ⟨hy, rfl⟩, h⟩
  | 2 => exact ⟨o, ho, .inr ⟨hy, h⟩⟩
  | _ + 3 => exact ⟨o, ho, .inr ⟨hy, h⟩⟩
theorem pl_split {p : Plan} {f : Nat → Value} {w : World} (s : Nat) {b : Bool} (hs : f s = .bool b) (h1 : b = true → PL P n ops S Q p (upd f s (.bool true)) w) (h2 : b = false → PL P n ops S Q p (upd f s (.bool false)) w) : PL P n ops S Q p f w := by
  cases b with
  | true => have := h1 rfl; rwa [upd_self hs] at this
  | false => have := h2 rfl; rwa [upd_self hs] at this
theorem pl_known {p : Plan} {f : Nat → Value} {w : World} (s : Nat) {b c : Bool} (hs : f s = .bool b) (hb : b = c) (h : PL P n ops S Q p (upd f s (.bool c)) w) : PL P n ops S Q p f w := by
  subst hb; rwa [upd_self hs] at h

theorem cw_draw {id : Nat} {f : Nat → Value} {w : World} (S : World → Prop) (p : Plan) (hm : P.follows .mixedOrders = true) (hp : planOk n ops p = true) (hQ : ∀ c f w, ¬ Q (.panic c) f w)
    (hS : ∀ m, S { w with drawn := m }) (h : ∀ m, PL P n ops S Q p f { w with drawn := m }) : CW P n (.region id ops true) Q f w := by
  simp only [planOk, Bool.and_eq_true, beq_iff_eq] at hp
  obtain ⟨⟨hsel, hlen⟩, hgo⟩ := hp
  refine wp_region_any hm (AnyB.any (S := S) (bar := barOf p) _ _ _ _ ?_)
  have := PL.sound (P := P) (S := S) p hsel hQ p (Array.replicate ops.size false) f { w with drawn := w.drawn + 1 } hgo (fun x hx h3 => by
    simp only [barOf, List.any_eq_true, Bool.and_eq_true, beq_iff_eq]; exact ⟨x, hx, rfl, h3⟩) (.inr (hS _)) (h _) (by simp)
  rw [hlen] at this
  exact this
theorem cw_draw_s {id : Nat} {E : World} {Γ : List Chunk} {f : Nat → Value} {w : World} (S : World → Prop) (hS : Sat E Γ w) (hs : ∀ w', Sat E Γ w' → S w') (p : Plan) (hm : P.follows .mixedOrders = true) (hp : planOk n ops p = true) (hQ : ∀ c f w, ¬ Q (.panic c) f w)
    (h : ∀ w', Sat E Γ w' → PL P n ops S Q p f w') : CW P n (.region id ops true) Q f w := cw_draw S p hm hp hQ (fun m => hs _ (hS.drew m)) (fun m => h _ (hS.drew m))
theorem cw_draw_sat {id : Nat} {E : World} {Γ : List Chunk} {f : Nat → Value} {w : World} (hS : Sat E Γ w) (p : Plan) (hm : P.follows .mixedOrders = true) (hp : planOk n ops p = true) (hQ : ∀ c f w, ¬ Q (.panic c) f w)
    (h : ∀ w', Sat E Γ w' → PL P n ops (Sat E Γ) Q p f w') : CW P n (.region id ops true) Q f w := cw_draw_s _ hS (fun _ h => h) p hm hp hQ h
end
end Go.Proofs.Ytfekgjdahckdhaa
