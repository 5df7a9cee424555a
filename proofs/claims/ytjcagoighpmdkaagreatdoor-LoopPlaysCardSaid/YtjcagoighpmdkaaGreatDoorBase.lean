/- A walk's own calculus: frames as functions, code and regions in the order of the text, single operations. Over any program. -/
import Derived.Test.YtjcagoighpmdkaaGreatDoorProg
import Derived.WalkKit
import Derived.OrdersHeld
import Derived.KernelRfl
namespace Go.Proofs.YtjcagoighpmdkaaGreatDoor
open Go Go.RowKit
set_option linter.unusedVariables false

/-! ### Frames -/
def upd (f : Nat → Value) (d : Nat) (v : Value) : Nat → Value := fun t => bif Nat.beq t d then v else f t
def updo (f : Nat → Value) : Option Nat → Value → Nat → Value
  | none, _ => f
  | some d, v => upd f d v
def actF (n : Nat) (f : Nat → Value) : Act := ⟨Array.ofFn (fun i : Fin n => f i), []⟩
def ev (f : Nat → Value) : Operand → Value
  | .tmp t => f t
  | .const v => v
  | .global g => .pointer (some ⟨g, 0, none⟩)
  | .func g => .func (.func g) #[] #[]
def Opd.lt (n : Nat) : Operand → Bool
  | .tmp t => Nat.blt t n
  | _ => true
def dstLt (n : Nat) : Option Nat → Bool
  | some d => Nat.blt d n
  | none => true
/-- An operation names slots of the frame alone. -/
def Opr.okN (n : Nat) (o : Oper) : Bool := o.op.operands.toList.all (Opd.lt n) && dstLt n o.dst && (match o.op with | .select .. => false | _ => true)

theorem upd_self {f : Nat → Value} {d : Nat} {v : Value} (h : f d = v) : upd f d v = f := by
  funext t
  unfold upd
  cases hb : Nat.beq t d with
  | true => rw [Nat.eq_of_beq_eq_true hb, h]; rfl
  | false => rfl

/-- The frame over itself: for a loop's head. -/
theorem reb {f g : Nat → Value} {t : Nat} {v : Value} (h : f = g) (hv : f t = v) : f = upd g t v := by subst h; exact (upd_self hv).symm

theorem actF_get {n : Nat} {f : Nat → Value} {t : Nat} (h : t < n) : (actF n f).tmps.getD t undef = f t := by
  simp [actF, Array.getD, h]
theorem actF_get? {n : Nat} {f : Nat → Value} {t : Nat} (h : t < n) : (actF n f).tmps[t]? = some (f t) := by
  simp [actF, h]
theorem actF_eval {n : Nat} {f : Nat → Value} {x : Operand} (h : Opd.lt n x = true) : (actF n f).eval x = ev f x := by
  cases x with
  | tmp t => exact actF_get (by simpa [Opd.lt] using h)
  | _ => rfl
theorem actF_put {n : Nat} {f : Nat → Value} {d : Option Nat} {v : Value} (h : dstLt n d = true) : (actF n f).put d v = actF n (updo f d v) := by
  cases d with
  | none => rfl
  | some d =>
    have hd : d < n := by simpa [dstLt] using h
    show (⟨(Array.ofFn (fun i : Fin n => f i)).setIfInBounds d v, []⟩ : Act) = ⟨Array.ofFn (fun i : Fin n => upd f d v i), []⟩
    congr 1
    apply Array.ext
    · simp
    · intro i h1 h2
      simp only [Array.size_setIfInBounds, Array.size_ofFn] at h1
      rw [Array.getElem_setIfInBounds (by simpa using h1)]
      simp only [Array.getElem_ofFn, upd]
      by_cases e : d = i
      · subst e; simp
      · have hb : Nat.beq i d = false := by
          cases hb : Nat.beq i d with
          | false => rfl
          | true => exact absurd (Nat.eq_of_beq_eq_true hb).symm e
        rw [hb, if_neg e]; rfl

/-- A post over functions as a post over frames. -/
def QF (n : Nat) (Q : Exit → (Nat → Value) → World → Prop) (e : Exit) (a : Act) (w : World) : Prop := ∃ f, a = actF n f ∧ Q e f w

def CW (P : Program) (n : Nat) (c : Code) (Q : Exit → (Nat → Value) → World → Prop) (f : Nat → Value) (w : World) : Prop := c.wp P (QF n Q) (actF n f) w

def thenF (K : (Nat → Value) → World → Prop) (Q : Exit → (Nat → Value) → World → Prop) : Exit → (Nat → Value) → World → Prop
  | .normal, f, w => K f w
  | e, f, w => Q e f w
def inB (id : Nat) (Q : Exit → (Nat → Value) → World → Prop) : Exit → (Nat → Value) → World → Prop
  | .exit id', f, w => bif Nat.beq id' id then Q .normal f w else Q (.exit id') f w
  | e, f, w => Q e f w

theorem thenF_ret {K : (Nat → Value) → World → Prop} {Q : Exit → (Nat → Value) → World → Prop} {f : Nat → Value} {w : World} (h : Q .ret f w) : thenF K Q .ret f w := h
theorem inB_ret {id : Nat} {Q : Exit → (Nat → Value) → World → Prop} {f : Nat → Value} {w : World} (h : Q .ret f w) : inB id Q .ret f w := h
theorem inB_normal {id : Nat} {Q : Exit → (Nat → Value) → World → Prop} {f : Nat → Value} {w : World} (h : Q .normal f w) : inB id Q .normal f w := h
theorem thenF_normal {K : (Nat → Value) → World → Prop} {Q : Exit → (Nat → Value) → World → Prop} {f : Nat → Value} {w : World} (h : K f w) : thenF K Q .normal f w := h
section code
variable {P : Program} {n : Nat} {Q : Exit → (Nat → Value) → World → Prop} {f : Nat → Value} {w : World}

theorem cw_seq {x y : Code} (h : ∀ K : (Nat → Value) → World → Prop, (∀ f w, CW P n y Q f w → K f w) → CW P n x (thenF K Q) f w) : CW P n (.seq x y) Q f w := by
  refine wp_seq (wp_mono (h _ (fun _ _ h => h)) ?_)
  rintro e a w ⟨f, rfl, hq⟩
  cases e <;> first | exact hq | exact ⟨f, rfl, hq⟩

theorem cw_block {id : Nat} {c : Code} (h : CW P n c (inB id Q) f w) : CW P n (.block id c) Q f w := by
  refine wp_block (wp_mono h ?_)
  rintro e a w ⟨f, rfl, hq⟩
  cases e with
  | exit id' =>
    simp only [Exit.inBlock]
    simp only [inB] at hq
    cases hb : Nat.beq id' id with
    | true => rw [hb] at hq; rw [if_pos (Nat.eq_of_beq_eq_true hb)]; exact ⟨f, rfl, hq⟩
    | false => rw [hb] at hq; rw [if_neg (fun e => by subst e; simp at hb)]; exact ⟨f, rfl, hq⟩
  | _ => exact ⟨f, rfl, hq⟩

theorem cw_ret (h : Q .ret f w) : CW P n .ret Q f w := wp_ret ⟨f, rfl, h⟩
theorem cw_skip (h : Q .normal f w) : CW P n .skip Q f w := wp_skip ⟨f, rfl, h⟩
theorem cw_label {l : Nat} (h : Q .normal f w) : CW P n (.label l) Q f w := wp_label ⟨f, rfl, h⟩
theorem cw_exit {id : Nat} (h : Q (.exit id) f w) : CW P n (.exit id) Q f w := wp_exit ⟨f, rfl, h⟩
theorem cw_cond {t : Nat} {x y : Code} {b : Bool} (hb : f t = .bool b) (ht : Nat.blt t n = true) (h1 : b = true → CW P n x Q f w) (h2 : b = false → CW P n y Q f w) :
    CW P n (.cond (.tmp t) x y) Q f w := by
  have he : (actF n f).eval (.tmp t) = .bool b := (actF_eval (x := .tmp t) ht).trans hb
  cases b with
  | true => exact wp_cond_true he (h1 rfl)
  | false => exact wp_cond_false he (h2 rfl)
theorem cw_cond_t {t : Nat} {x y : Code} {b : Bool} (hb : f t = .bool b) (ht : Nat.blt t n = true) (hv : b = true) (h1 : CW P n x Q f w) : CW P n (.cond (.tmp t) x y) Q f w :=
  cw_cond hb ht (fun _ => h1) (fun h => by rw [hv] at h; cases h)
theorem cw_cond_f {t : Nat} {x y : Code} {b : Bool} (hb : f t = .bool b) (ht : Nat.blt t n = true) (hv : b = false) (h1 : CW P n y Q f w) : CW P n (.cond (.tmp t) x y) Q f w :=
  cw_cond hb ht (fun h => by rw [hv] at h; cases h) (fun _ => h1)

/-- A loop: 'I m': what holds at a round's head when at most m rounds are left. -/
theorem cw_loop {c : Code} (I : Nat → (Nat → Value) → World → Prop) {m : Nat} (h0 : I m f w)
    (round : ∀ m f w, I m f w → CW P n c (thenF (fun f' w' => ∃ m', m' < m ∧ I m' f' w') Q) f w) : CW P n (.loop c) Q f w := by
  have hl := @wp_loop P (QF n Q) (actF n f) w c (fun a w => ∃ m f, a = actF n f ∧ I m f w)
    (fun a w => Classical.epsilon fun m => (∃ f, a = actF n f ∧ I m f w) ∧ ∀ m', (∃ f, a = actF n f ∧ I m' f w) → m ≤ m') ⟨m, f, rfl, h0⟩ ?_
  · exact hl
  · intro a w hI
    have hmin : ∃ m, (∃ f, a = actF n f ∧ I m f w) ∧ ∀ m', (∃ f, a = actF n f ∧ I m' f w) → m ≤ m' := by
      obtain ⟨m, hm⟩ := hI
      induction m using Nat.strongRecOn with
      | _ m ih =>
        by_cases hlt : ∃ m', m' < m ∧ ∃ f, a = actF n f ∧ I m' f w
        · obtain ⟨m', h1, h2⟩ := hlt; exact ih m' h1 h2
        · refine ⟨m, hm, fun m' h' => ?_⟩
          apply Nat.le_of_not_lt
          intro hc
          exact hlt ⟨m', hc, h'⟩
    have hsp := Classical.epsilon_spec hmin
    generalize hM : (Classical.epsilon fun m => (∃ f, a = actF n f ∧ I m f w) ∧ ∀ m', (∃ f, a = actF n f ∧ I m' f w) → m ≤ m') = M at hsp ⊢
    obtain ⟨⟨f, rfl, hf⟩, _⟩ := hsp
    refine wp_mono (round M f w hf) ?_
    rintro e a' w' ⟨f', rfl, hq⟩
    cases e with
    | normal =>
      obtain ⟨m', hlt, hI'⟩ := hq
      refine ⟨⟨m', f', rfl, hI'⟩, ?_⟩
      have hmin' : ∃ m, (∃ f, actF n f' = actF n f ∧ I m f w') ∧ ∀ m', (∃ f, actF n f' = actF n f ∧ I m' f w') → m ≤ m' := by
        have : ∃ m, ∃ f, actF n f' = actF n f ∧ I m f w' := ⟨m', f', rfl, hI'⟩
        obtain ⟨m, hm⟩ := this
        induction m using Nat.strongRecOn with
        | _ m ih =>
          by_cases hlt : ∃ m', m' < m ∧ ∃ f, actF n f' = actF n f ∧ I m' f w'
          · obtain ⟨m', h1, h2⟩ := hlt; exact ih m' h1 h2
          · refine ⟨m, hm, fun m' h' => ?_⟩
            apply Nat.le_of_not_lt
            intro hc
            exact hlt ⟨m', hc, h'⟩
      have := (Classical.epsilon_spec hmin').2 m' ⟨f', rfl, hI'⟩
      exact Nat.lt_of_le_of_lt this hlt
    | _ => exact ⟨f', rfl, hq⟩
end code

/-! ### Single operations -/
/-- The run of an operation's meaning: it comes to an end, and then Q. -/
def SW {α : Type} (P : Program) (s : Sem α) (w : World) (Q : α → World → Prop) : Prop := ∃ a w', s.run P w = .ok a w' ∧ Q a w'

def NK (P : Program) (d : Option Nat) (f : Nat → Value) (K : (Nat → Value) → World → Prop) : Next → World → Prop
  | .value v, w => K (updo f d v) w
  | .skip, w => K (updo f d undef) w
  | .enter g args, w => Calls P g args w (fun e w' => ∃ v, e = .returned v ∧ K (updo f d v) w')
  | _, _ => False
def OW (P : Program) (o : Oper) (f : Nat → Value) (w : World) (K : (Nat → Value) → World → Prop) : Prop := SW P (execOp (ev f) o) w (NK P o.dst f K)

theorem execOp_actF {n : Nat} {f : Nat → Value} {o : Oper} (h : Opr.okN n o = true) : execOp (actF n f).eval o = execOp (ev f) o := by
  simp only [Opr.okN, Bool.and_eq_true, List.all_eq_true] at h
  refine execOp_congr o (fun cs b e => by rw [e] at h; simp at h) fun x hx => ?_
  exact actF_eval (h.1.1 x (by simpa using hx))

theorem oper_wp_of {P : Program} {n : Nat} {o : Oper} {f : Nat → Value} {w : World} {K : (Nat → Value) → World → Prop} {K' : Act → World → Prop} {Q : Exit → Act → World → Prop}
    (hok : Opr.okN n o = true) (hK : ∀ f w, K f w → K' (actF n f) w) (h : OW P o f w K) : o.wp P (actF n f) w K' Q := by
  obtain ⟨nx, w', hrun, hq⟩ := h
  have hd : dstLt n o.dst = true := by simp only [Opr.okN, Bool.and_eq_true] at hok; exact hok.1.2
  unfold Oper.wp
  rw [execOp_actF hok, hrun]
  cases nx with
  | value v => simp only [Oper.upon]; rw [actF_put hd]; exact hK _ _ hq
  | skip => simp only [Oper.upon]; rw [actF_put hd]; exact hK _ _ hq
  | enter g args =>
    simp only [Oper.upon]
    refine Calls.mono hq ?_
    rintro e w'' ⟨v, rfl, hk⟩
    simp only
    rw [actF_put hd]; exact hK _ _ hk
  | _ => exact hq.elim

theorem OW.mono {P : Program} {o : Oper} {f : Nat → Value} {w : World} {K K' : (Nat → Value) → World → Prop} (h : OW P o f w K) (hk : ∀ f w, K f w → K' f w) : OW P o f w K' := by
  obtain ⟨nx, w', hrun, hq⟩ := h
  refine ⟨nx, w', hrun, ?_⟩
  cases nx with
  | value v => exact hk _ _ hq
  | skip => exact hk _ _ hq
  | enter g args => exact Calls.mono hq fun e w'' ⟨v, he, h⟩ => ⟨v, he, hk _ _ h⟩
  | _ => exact hq

def WL (P : Program) (n : Nat) (ops : Array Oper) (Q : Exit → (Nat → Value) → World → Prop) (l : List Oper) (f : Nat → Value) (w : World) : Prop := wpList P ops (QF n Q) l (actF n f) w

section region
variable {P : Program} {n : Nat} {ops : Array Oper} {Q : Exit → (Nat → Value) → World → Prop} {f : Nat → Value} {w : World}

theorem cw_region {id : Nat} {l : List Oper} (h : WL P n l.toArray Q l f w) : CW P n (.region id l.toArray false) Q f w := wp_region_list h
theorem wl_nil (h : Q .normal f w) : WL P n ops Q [] f w := wpList_nil ⟨f, rfl, h⟩

theorem wl_op {o : Oper} {rest : List Oper} (hg : o.guard = none) (hok : Opr.okN n o = true) (h : OW P o f w (WL P n ops Q rest)) : WL P n ops Q (o :: rest) f w :=
  wpList_plain hg fun _ hK => oper_wp_of hok (fun _ _ h => hK _ _ h) h

/-- What a guard finds. -/
def guardIs (n : Nat) (ops : Array Oper) (f : Nat → Value) (g : Option (Nat × Bool)) (b : Bool) : Prop :=
  ∃ j want d v, g = some (j, want) ∧ (ops[j]?).bind (·.dst) = some d ∧ Nat.blt d n = true ∧ f d = .bool v ∧ b = (v == want)
theorem wanted_is {o : Oper} {b : Bool} (h : guardIs n ops f o.guard b) : Region.wanted o (yielded ops (actF n f).tmps) = b := by
  obtain ⟨j, want, d, v, hg, hd, hlt, hv, rfl⟩ := h
  have hlt' : d < n := by simpa using hlt
  unfold Region.wanted
  rw [hg]
  simp only [yielded, hd, Option.bind_some, actF_get? hlt', hv]
  cases v <;> cases want <;> rfl

theorem wl_yes {o : Oper} {rest : List Oper} {j : Nat} {want : Bool} {d : Nat} (hg : o.guard = some (j, want)) (hd : (ops[j]?).bind (·.dst) = some d) (hlt : Nat.blt d n = true)
    (hv : f d = .bool want) (hok : Opr.okN n o = true) (h : OW P o f w (WL P n ops Q rest)) : WL P n ops Q (o :: rest) f w := by
  have hw : Region.wanted o (yielded ops (actF n f).tmps) = true := wanted_is ⟨j, want, d, want, hg, hd, hlt, hv, by simp⟩
  refine wpList_step fun _ hK => ?_
  rw [if_pos hw]
  exact oper_wp_of hok (fun _ _ h => hK _ _ h) h

theorem wl_no {o : Oper} {rest : List Oper} {j : Nat} {want : Bool} {d : Nat} {b : Bool} (hg : o.guard = some (j, want)) (hd : (ops[j]?).bind (·.dst) = some d) (hlt : Nat.blt d n = true)
    (hv : f d = .bool b) (hb : b = !want) (hok : dstLt n o.dst = true) (h : WL P n ops Q rest (updo f o.dst undef) w) : WL P n ops Q (o :: rest) f w := by
  have hw : Region.wanted o (yielded ops (actF n f).tmps) = false := wanted_is ⟨j, want, d, b, hg, hd, hlt, hv, by subst hb; cases want <;> rfl⟩
  refine wpList_step fun _ hK => ?_
  rw [if_neg (by rw [hw]; simp), actF_put hok]
  exact hK _ _ h

/-- The guarding operation has itself been passed over. -/
theorem wanted_undef {o : Oper} {j : Nat} {want : Bool} {d : Nat} (hg : o.guard = some (j, want)) (hd : (ops[j]?).bind (·.dst) = some d) (hlt : Nat.blt d n = true) (hv : f d = undef) : Region.wanted o (yielded ops (actF n f).tmps) = false := by
  have hlt' : d < n := by simpa using hlt
  unfold Region.wanted
  rw [hg]
  simp only [yielded, hd, Option.bind_some, actF_get? hlt', hv]
  rfl
theorem wl_un {o : Oper} {rest : List Oper} {j : Nat} {want : Bool} {d : Nat} (hg : o.guard = some (j, want)) (hd : (ops[j]?).bind (·.dst) = some d) (hlt : Nat.blt d n = true)
    (hv : f d = undef) (hok : dstLt n o.dst = true) (h : WL P n ops Q rest (updo f o.dst undef) w) : WL P n ops Q (o :: rest) f w := by
  have hw : Region.wanted o (yielded ops (actF n f).tmps) = false := wanted_undef hg hd hlt hv
  refine wpList_step fun _ hK => ?_
  rw [if_neg (by rw [hw]; simp), actF_put hok]
  exact hK _ _ h
theorem wl_noD {rest : List Oper} {j d0 : Nat} {op : Op} {ty : TypeId} {pos : String} {af : Array Edge} {g : Option (Nat × Bool)} {want : Bool} {d : Nat} {b : Bool} (hg : g = some (j, want)) (hd : (ops[j]?).bind (·.dst) = some d) (hlt : Nat.blt d n = true)
    (hv : f d = .bool b) (hb : b = !want) (hok : Nat.blt d0 n = true) (h : WL P n ops Q rest (upd f d0 undef) w) : WL P n ops Q (⟨some d0, op, ty, pos, af, g⟩ :: rest) f w :=
  wl_no (o := ⟨some d0, op, ty, pos, af, g⟩) hg hd hlt hv hb hok h
theorem wl_unD {rest : List Oper} {j d0 : Nat} {op : Op} {ty : TypeId} {pos : String} {af : Array Edge} {g : Option (Nat × Bool)} {want : Bool} {d : Nat} (hg : g = some (j, want)) (hd : (ops[j]?).bind (·.dst) = some d) (hlt : Nat.blt d n = true)
    (hv : f d = undef) (hok : Nat.blt d0 n = true) (h : WL P n ops Q rest (upd f d0 undef) w) : WL P n ops Q (⟨some d0, op, ty, pos, af, g⟩ :: rest) f w :=
  wl_un (o := ⟨some d0, op, ty, pos, af, g⟩) hg hd hlt hv hok h
/-- A guarded operation whose guard isn't what it asks for: it yields nothing (undef), before the rest: a guard whose value is open is split. -/
theorem wl_split {l : List Oper} (s : Nat) {b : Bool} (hs : f s = .bool b) (h1 : b = true → WL P n ops Q l (upd f s (.bool true)) w) (h2 : b = false → WL P n ops Q l (upd f s (.bool false)) w) : WL P n ops Q l f w := by
  cases b with
  | true => have := h1 rfl; rwa [upd_self hs] at this
  | false => have := h2 rfl; rwa [upd_self hs] at this
theorem wl_known {l : List Oper} (s : Nat) {b c : Bool} (hs : f s = .bool b) (hb : b = c) (h : WL P n ops Q l (upd f s (.bool c)) w) : WL P n ops Q l f w := by
  subst hb; rwa [upd_self hs] at h
end region

/-! ### The calls -/
/-- The post of a function's body: its results are read. -/
def RetQ (P : Program) (fn : Func) (n : Nat) (R : Value → World → Prop) : Exit → (Nat → Value) → World → Prop
  | .normal, f, w | .ret, f, w => ∃ v, (results fn (actF n f).tmps).run P w = .ok v w ∧ R v w
  | _, _, _ => False
def Returns (P : Program) (g : FuncId) (args : Array Value) (w : World) (R : Value → World → Prop) : Prop := Calls P g args w (fun e w' => ∃ v, e = .returned v ∧ R v w')

def argsF (args : List Value) : Nat → Value := fun t => match args[t]? with | some v => v | none => undef

theorem returns_enter {P : Program} {g : FuncId} {fn : Func} {c : Code} {args : List Value} {w : World} {R : Value → World → Prop} {n : Nat}
    (hf : P.funcs[g]? = some fn) (hb : fn.body = some c) (hn : fn.ntmps = n) (hle : Nat.ble args.length n = true) (h : CW P n c (RetQ P fn n R) (argsF args) w) :
    Returns P g args.toArray w R := by
  have hle' : args.length ≤ n := Nat.le_of_ble_eq_true hle
  refine calls_of_wp hf hb ?_
  have ha : ({ tmps := args.toArray ++ Array.replicate (fn.ntmps - args.toArray.size) undef, defers := [] } : Act) = actF n (argsF args) := by
    unfold actF
    congr 1
    subst hn
    apply Array.ext
    · simp; omega
    · intro i h1 h2
      simp only [Array.getElem_ofFn, argsF]
      by_cases hi : i < args.length
      · rw [Array.getElem_append_left (by simpa using hi)]; simp [hi]
      · rw [Array.getElem_append_right (by simpa using Nat.le_of_not_lt hi)]
        simp [List.getElem?_eq_none (Nat.le_of_not_lt hi)]
  rw [ha]
  refine wp_mono h ?_
  rintro e a w ⟨f, rfl, hq⟩
  cases e with
  | normal => obtain ⟨v, hr, hR⟩ := hq; exact ⟨rfl, v, hr, v, rfl, hR⟩
  | ret => obtain ⟨v, hr, hR⟩ := hq; exact ⟨rfl, v, hr, v, rfl, hR⟩
  | _ => exact hq.elim

theorem RetQ.of {e : Exit} (he : e = .ret ∨ e = .normal) {P : Program} {fn : Func} {n : Nat} {R : Value → World → Prop} {f : Nat → Value} {w : World} (h : ∃ v, (results fn (actF n f).tmps).run P w = .ok v w ∧ R v w) : RetQ P fn n R e f w := by
  rcases he with rfl | rfl <;> exact h
theorem ret_one {e : Exit} (he : e = .ret ∨ e = .normal) {P : Program} {fn : Func} {n : Nat} {R : Value → World → Prop} {f : Nat → Value} {w : World} {t : Nat} (h : fn.results = #[.tmp t]) (hlt : Nat.blt t n = true) (hR : R (f t) w) :
    RetQ P fn n R e f w :=
  RetQ.of he ⟨f t, by rw [results_tmp h, actF_get (by simpa using hlt)], hR⟩
theorem ret_two {e : Exit} (he : e = .ret ∨ e = .normal) {P : Program} {fn : Func} {n : Nat} {R : Value → World → Prop} {f : Nat → Value} {w : World} {t u : Nat} (h : fn.results = #[.tmp t, .tmp u]) (ht : Nat.blt t n = true) (hu : Nat.blt u n = true)
    (hR : R (.tuple #[f t, f u]) w) : RetQ P fn n R e f w :=
  RetQ.of he ⟨_, by rw [results_tmp2 h, actF_get (by simpa using ht), actF_get (by simpa using hu)], hR⟩
theorem ret_three {e : Exit} (he : e = .ret ∨ e = .normal) {P : Program} {fn : Func} {n : Nat} {R : Value → World → Prop} {f : Nat → Value} {w : World} {t u v : Nat} (h : fn.results = #[.tmp t, .tmp u, .tmp v]) (ht : Nat.blt t n = true) (hu : Nat.blt u n = true) (hv : Nat.blt v n = true)
    (hR : R (.tuple #[f t, f u, f v]) w) : RetQ P fn n R e f w :=
  RetQ.of he ⟨_, by simp [results, h]; exact ⟨by simpa using actF_get (f := f) (t := t) (by simpa using ht), by simpa using actF_get (f := f) (t := u) (by simpa using hu), by simpa using actF_get (f := f) (t := v) (by simpa using hv)⟩, hR⟩
theorem ret_four {e : Exit} (he : e = .ret ∨ e = .normal) {P : Program} {fn : Func} {n : Nat} {R : Value → World → Prop} {f : Nat → Value} {w : World} {t u v x : Nat} (h : fn.results = #[.tmp t, .tmp u, .tmp v, .tmp x]) (ht : Nat.blt t n = true) (hu : Nat.blt u n = true) (hv : Nat.blt v n = true) (hx : Nat.blt x n = true)
    (hR : R (.tuple #[f t, f u, f v, f x]) w) : RetQ P fn n R e f w :=
  RetQ.of he ⟨_, by simp [results, h]; exact ⟨by simpa using actF_get (f := f) (t := t) (by simpa using ht), by simpa using actF_get (f := f) (t := u) (by simpa using hu), by simpa using actF_get (f := f) (t := v) (by simpa using hv), by simpa using actF_get (f := f) (t := x) (by simpa using hx)⟩, hR⟩
theorem ret_none {e : Exit} (he : e = .ret ∨ e = .normal) {P : Program} {fn : Func} {n : Nat} {R : Value → World → Prop} {f : Nat → Value} {w : World} (h : fn.results = #[]) (hR : R (.tuple #[]) w) :
    RetQ P fn n R e f w := RetQ.of he ⟨_, results_none h _ _ _, hR⟩

theorem Returns.mono {P : Program} {g : FuncId} {args : Array Value} {w : World} {R R' : Value → World → Prop} (h : Returns P g args w R) (hr : ∀ v w', R v w' → R' v w') : Returns P g args w R' :=
  Calls.mono h fun _ w' ⟨v, he, hv⟩ => ⟨v, he, hr v w' hv⟩
end Go.Proofs.YtjcagoighpmdkaaGreatDoor
