/- Single operations: what each does, over frames as functions; memory as known blocks ('Sat'). Over any program. -/
import Derived.Test.YtjcagoighpmdkaaGreatDoorBase
namespace Go.Proofs.YtjcagoighpmdkaaGreatDoor
open Go Go.RowKit
set_option linter.unusedVariables false
set_option linter.unusedSimpArgs false

section
variable {P : Program} {f : Nat → Value} {w : World} {K : (Nat → Value) → World → Prop} {d : Nat} {ty : TypeId} {pos : String} {af : Array Edge} {g : Option (Nat × Bool)}

theorem sw_pure {α : Type} {a : α} {Q : α → World → Prop} (h : Q a w) : SW P (pure a) w Q := ⟨a, w, rfl, h⟩
theorem sw_of {α : Type} {s : Sem α} {a : α} {w' : World} {Q : α → World → Prop} (hr : s.run P w = .ok a w') (h : Q a w') : SW P s w Q := ⟨a, w', hr, h⟩
/-- An operation that yields a value. -/
theorem ow_val {o : Oper} {v : Value} {w' : World} (hr : (execOp (ev f) o).run P w = .ok (.value v) w') (h : K (updo f o.dst v) w') : OW P o f w K := ⟨_, _, hr, h⟩
theorem ow_skip {o : Oper} {w' : World} (hr : (execOp (ev f) o).run P w = .ok .skip w') (h : K (updo f o.dst undef) w') : OW P o f w K := ⟨_, _, hr, h⟩

/-- It yields v, whatever the world. -/
def VR (P : Program) (f : Nat → Value) (o : Oper) (v : Value) : Prop := ∀ w, (execOp (ev f) o).run P w = .ok (.value v) w
theorem ow_vr {op : Op} {v : Value} (hr : VR P f ⟨some d, op, ty, pos, af, g⟩ v) (h : K (upd f d v) w) : OW P ⟨some d, op, ty, pos, af, g⟩ f w K := ow_val (hr w) h
theorem vr_move {x : Operand} {v : Value} (hv : ev f x = v) : VR P f ⟨some d, .move x, ty, pos, af, g⟩ v := by
  subst hv; exact fun w => rfl
theorem vr_assign {x : Operand} {v : Value} (hv : ev f x = v) : VR P f ⟨some d, .assign x, ty, pos, af, g⟩ v := by
  subst hv; exact fun w => rfl
theorem vr_pick {c x y : Operand} {b : Bool} {v : Value} (hc : ev f c = .bool b) (hv : (bif b then ev f x else ev f y) = v) : VR P f ⟨some d, .pick c x y, ty, pos, af, g⟩ v := by
  subst hv
  intro w
  cases b <;> simp [execOp, hc, asBool]
/-- A pick of Bools that is not decided. -/
theorem vr_pick_b {c x y : Operand} {b p q : Bool} (hc : ev f c = .bool b) (hx : ev f x = .bool p) (hy : ev f y = .bool q) : VR P f ⟨some d, .pick c x y, ty, pos, af, g⟩ (.bool (bif b then p else q)) := by
  refine vr_pick hc ?_
  cases b <;> simp [hx, hy]

/-! integers -/
def inI64 (x : Int) : Prop := -9223372036854775808 ≤ x ∧ x ≤ 9223372036854775807
theorem wrap_i64 {x : Int} (h : inI64 x) : IntKind.i64.wrap x = x := by
  unfold inI64 at h
  exact IntWalk.i64_in _ (by omega)

theorem run_binOp_int {op : BinOp} {x y : Operand} {t t' : TypeId} {k : IntKind} {a b : Int} {v : Value} (hx : ev f x = .int k a) (hy : ev f y = .int k b)
    (hop : (binOp op t (.int k a) (.int k b)).run P w = .ok v w) : (execOp (ev f) ⟨some d, .binOp op t x y t', ty, pos, af, g⟩).run P w = .ok (.value v) w := by
  simp only [execOp, hx, hy, eqGuard]
  cases op <;> simp [hop]

theorem vr_add {x y : Operand} {t t' : TypeId} {k : IntKind} {a b : Int} (hx : ev f x = .int k a) (hy : ev f y = .int k b) :
    VR P f ⟨some d, .binOp .add t x y t', ty, pos, af, g⟩ (.int k (k.wrap (a + b))) := fun w => run_binOp_int hx hy (by simp [binOp, Op.intArith])
theorem vr_sub {x y : Operand} {t t' : TypeId} {k : IntKind} {a b : Int} (hx : ev f x = .int k a) (hy : ev f y = .int k b) :
    VR P f ⟨some d, .binOp .sub t x y t', ty, pos, af, g⟩ (.int k (k.wrap (a - b))) := fun w => run_binOp_int hx hy (by simp [binOp, Op.intArith])
theorem vr_mul {x y : Operand} {t t' : TypeId} {k : IntKind} {a b : Int} (hx : ev f x = .int k a) (hy : ev f y = .int k b) :
    VR P f ⟨some d, .binOp .mul t x y t', ty, pos, af, g⟩ (.int k (k.wrap (a * b))) := fun w => run_binOp_int hx hy (by simp [binOp, Op.intArith])
theorem vr_addi {x y : Operand} {t t' : TypeId} {a b : Int} (hx : ev f x = .int .i64 a) (hy : ev f y = .int .i64 b) (hr : inI64 (a + b)) :
    VR P f ⟨some d, .binOp .add t x y t', ty, pos, af, g⟩ (.int .i64 (a + b)) := by have := vr_add (P := P) (d := d) (ty := ty) (pos := pos) (af := af) (g := g) (t := t) (t' := t') hx hy; rwa [wrap_i64 hr] at this
theorem vr_subi {x y : Operand} {t t' : TypeId} {a b : Int} (hx : ev f x = .int .i64 a) (hy : ev f y = .int .i64 b) (hr : inI64 (a - b)) :
    VR P f ⟨some d, .binOp .sub t x y t', ty, pos, af, g⟩ (.int .i64 (a - b)) := by have := vr_sub (P := P) (d := d) (ty := ty) (pos := pos) (af := af) (g := g) (t := t) (t' := t') hx hy; rwa [wrap_i64 hr] at this
theorem vr_muli {x y : Operand} {t t' : TypeId} {a b : Int} (hx : ev f x = .int .i64 a) (hy : ev f y = .int .i64 b) (hr : inI64 (a * b)) :
    VR P f ⟨some d, .binOp .mul t x y t', ty, pos, af, g⟩ (.int .i64 (a * b)) := by have := vr_mul (P := P) (d := d) (ty := ty) (pos := pos) (af := af) (g := g) (t := t) (t' := t') hx hy; rwa [wrap_i64 hr] at this
/-- '/' of numbers from 0 by one from 1. -/
theorem vr_quo {x y : Operand} {t t' : TypeId} {a b : Int} (hx : ev f x = .int .i64 a) (hy : ev f y = .int .i64 b) (ha : 0 ≤ a ∧ a ≤ 9223372036854775807) (hb : 1 ≤ b) :
    VR P f ⟨some d, .binOp .quo t x y t', ty, pos, af, g⟩ (.int .i64 (a / b)) := by
  have e : a.tdiv b = a / b := Int.tdiv_eq_ediv_of_nonneg ha.1
  have h2 : a / b ≤ a := Int.ediv_le_self _ ha.1
  have h3 : 0 ≤ a / b := Int.ediv_nonneg ha.1 (by omega)
  intro w; refine run_binOp_int hx hy (v := .int .i64 (a / b)) ?_
  simp only [binOp, Op.intDiv, if_neg (show ¬ b = 0 by omega), e]
  simp [wrap_i64 (x := a / b) ⟨by omega, by omega⟩]
theorem vr_rem {x y : Operand} {t t' : TypeId} {a b : Int} (hx : ev f x = .int .i64 a) (hy : ev f y = .int .i64 b) (ha : 0 ≤ a) (hb : 1 ≤ b) :
    VR P f ⟨some d, .binOp .rem t x y t', ty, pos, af, g⟩ (.int .i64 (a % b)) := by
  intro w; refine run_binOp_int hx hy (v := .int .i64 (a % b)) ?_
  simp only [binOp, Op.intDiv, if_neg (show ¬ b = 0 by omega), Int.tmod_eq_emod_of_nonneg ha]
  simp
theorem vr_remt {x y : Operand} {t t' : TypeId} {a b : Int} (hx : ev f x = .int .i64 a) (hy : ev f y = .int .i64 b) (hb : b ≠ 0) :
    VR P f ⟨some d, .binOp .rem t x y t', ty, pos, af, g⟩ (.int .i64 (a.tmod b)) := by
  intro w; refine run_binOp_int hx hy (v := .int .i64 (a.tmod b)) ?_
  simp only [binOp, Op.intDiv, if_neg hb]
  simp
theorem vr_lss {x y : Operand} {t t' : TypeId} {k : IntKind} {a b : Int} (hx : ev f x = .int k a) (hy : ev f y = .int k b) :
    VR P f ⟨some d, .binOp .lss t x y t', ty, pos, af, g⟩ (.bool (decide (a < b))) := fun w => run_binOp_int hx hy (by simp [binOp, Op.intCmp])
theorem vr_leq {x y : Operand} {t t' : TypeId} {k : IntKind} {a b : Int} (hx : ev f x = .int k a) (hy : ev f y = .int k b) :
    VR P f ⟨some d, .binOp .leq t x y t', ty, pos, af, g⟩ (.bool (decide (a ≤ b))) := fun w => run_binOp_int hx hy (by simp [binOp, Op.intCmp])
theorem vr_gtr {x y : Operand} {t t' : TypeId} {k : IntKind} {a b : Int} (hx : ev f x = .int k a) (hy : ev f y = .int k b) :
    VR P f ⟨some d, .binOp .gtr t x y t', ty, pos, af, g⟩ (.bool (decide (a > b))) := fun w => run_binOp_int hx hy (by simp [binOp, Op.intCmp])
theorem vr_geq {x y : Operand} {t t' : TypeId} {k : IntKind} {a b : Int} (hx : ev f x = .int k a) (hy : ev f y = .int k b) :
    VR P f ⟨some d, .binOp .geq t x y t', ty, pos, af, g⟩ (.bool (decide (a ≥ b))) := fun w => run_binOp_int hx hy (by simp [binOp, Op.intCmp])
theorem vr_eql {x y : Operand} {t t' : TypeId} {k : IntKind} {a b : Int} (hx : ev f x = .int k a) (hy : ev f y = .int k b) :
    VR P f ⟨some d, .binOp .eql t x y t', ty, pos, af, g⟩ (.bool (decide (a = b))) := fun w => run_binOp_int hx hy (by simp [binOp, Op.intCmp]; rfl)
theorem vr_neq {x y : Operand} {t t' : TypeId} {k : IntKind} {a b : Int} (hx : ev f x = .int k a) (hy : ev f y = .int k b) :
    VR P f ⟨some d, .binOp .neq t x y t', ty, pos, af, g⟩ (.bool (decide (a ≠ b))) := fun w => run_binOp_int hx hy (by simp [binOp, Op.intCmp, bne]; rfl)
/-- 'x >> s' by a constant. -/
theorem vr_shr {x y : Operand} {t t' : TypeId} {a s : Int} {k' : IntKind} (hx : ev f x = .int .i64 a) (hy : ev f y = .int k' s) (hs : 0 ≤ s ∧ s < 64) :
    VR P f ⟨some d, .binOp .shr t x y t', ty, pos, af, g⟩ (.int .i64 (a / 2 ^ s.toNat)) := by
  intro w
  have hm : min s.toNat IntKind.i64.bits = s.toNat := by simp [IntKind.bits]; omega
  have e : a.fdiv (2 ^ s.toNat) = a / 2 ^ s.toNat := Int.fdiv_eq_ediv_of_nonneg _ (Int.le_of_lt (Int.pow_pos (by decide)))
  simp [execOp, hx, hy, eqGuard, binOp, Op.shift, if_neg (show ¬ s < 0 by omega), hm, e]
theorem vr_shl {x y : Operand} {t t' : TypeId} {a s : Int} {k' : IntKind} (hx : ev f x = .int .i64 a) (hy : ev f y = .int k' s) (hs : 0 ≤ s ∧ s < 64) :
    VR P f ⟨some d, .binOp .shl t x y t', ty, pos, af, g⟩ (.int .i64 (IntKind.i64.wrap (a * 2 ^ s.toNat))) := by
  intro w
  have hm : min s.toNat IntKind.i64.bits = s.toNat := by simp [IntKind.bits]; omega
  simp [execOp, hx, hy, eqGuard, binOp, Op.shift, if_neg (show ¬ s < 0 by omega), hm]

/-! Bools -/
theorem vr_not {x : Operand} {t : TypeId} {b : Bool} (hx : ev f x = .bool b) : VR P f ⟨some d, .unOp .not t x, ty, pos, af, g⟩ (.bool (!b)) := by
  intro w
  simp [execOp, hx, Op.unary]
theorem run_equal {t : TypeId} {x y : Value} {b : Bool} (h : ∀ n, (Op.equalIn (n + 1) t x y).run P w = .ok b w) : (Op.equal t x y).run P w = .ok b w := h 9999
/-- '==' of values that are neither numbers nor strings. -/
theorem vr_eqlg {x y : Operand} {t t' : TypeId} {a c : Value} {b : Bool} (hx : ev f x = a) (hy : ev f y = c) (hbin : binOp .eql t a c = (do pure (.bool (← Op.equal t a c)))) (hg : ∀ w, (eqGuard .eql t x y a c).run P w = .ok () w)
    (he : ∀ w, (Op.equal t a c).run P w = .ok b w) : VR P f ⟨some d, .binOp .eql t x y t', ty, pos, af, g⟩ (.bool b) := by
  intro w
  simp only [execOp, hx, hy, hbin, Sem.run_bind, hg, Result.andThen_ok, he, Sem.run_pure]
theorem vr_neqg {x y : Operand} {t t' : TypeId} {a c : Value} {b : Bool} (hx : ev f x = a) (hy : ev f y = c) (hbin : binOp .neq t a c = (do pure (.bool (!(← Op.equal t a c))))) (hg : ∀ w, (eqGuard .neq t x y a c).run P w = .ok () w)
    (he : ∀ w, (Op.equal t a c).run P w = .ok b w) : VR P f ⟨some d, .binOp .neq t x y t', ty, pos, af, g⟩ (.bool (!b)) := by
  intro w
  simp only [execOp, hx, hy, hbin, Sem.run_bind, hg, Result.andThen_ok, he, Sem.run_pure]
theorem run_equal_bool {t : TypeId} {a b : Bool} (hu : P.underlying t = some .bool) : (Op.equal t (.bool a) (.bool b)).run P w = .ok (a == b) w :=
  run_equal fun n => by rw [Op.equalIn, Sem.run_bind, run_underlying hu]; rfl
theorem vr_eqlb {x y : Operand} {t t' : TypeId} {a b : Bool} (hu : P.underlying t = some .bool) (hx : ev f x = .bool a) (hy : ev f y = .bool b) :
    VR P f ⟨some d, .binOp .eql t x y t', ty, pos, af, g⟩ (.bool (a == b)) := vr_eqlg hx hy rfl (fun _ => rfl) (fun _ => run_equal_bool hu)
theorem vr_neqb {x y : Operand} {t t' : TypeId} {a b : Bool} (hu : P.underlying t = some .bool) (hx : ev f x = .bool a) (hy : ev f y = .bool b) :
    VR P f ⟨some d, .binOp .neq t x y t', ty, pos, af, g⟩ (.bool (!(a == b))) := vr_neqg hx hy rfl (fun _ => rfl) (fun _ => run_equal_bool hu)

/-! tuples -/
theorem vr_extract {x : Operand} {i : Nat} {vs : Array Value} {v : Value} (hx : ev f x = .tuple vs) (hi : vs[i]? = some v) : VR P f ⟨some d, .extract x i, ty, pos, af, g⟩ v := by
  intro w
  simp [execOp, hx, Instr.extract, hi]

/-! a call of a function that has a body -/
/-- A function that has a body, and isn't the run-time's own. -/
def Enters (P : Program) (N : Nat) : Prop := (P.funcs[N]?).map (fun fn => (fn.name == "runtime.NumGoroutine", fn.body.isNone)) = some (false, false)
theorem run_callFunc {N : Nat} {vs : Array Value} (hb : Enters P N) : (callFunc N vs).run P w = .ok (.enter N vs) w := by
  unfold Enters at hb
  cases hf : P.funcs[N]? with
  | none => rw [hf] at hb; simp at hb
  | some fn =>
    rw [hf] at hb
    simp only [Option.map_some, Option.some.injEq, Prod.mk.injEq] at hb
    have h1 : ¬ fn.name = "runtime.NumGoroutine" := by simpa using hb.1
    have h2 : ¬ fn.body = none := by intro e; rw [e] at hb; simp at hb
    simp [callFunc, hf, if_neg h1, if_neg h2]
theorem ow_call {N : Nat} {args : Array Operand} {ats : Array TypeId} {vs : List Value} (hb : Enters P N)
    (ha : (args.toList.map (ev f)) = vs) (h : Returns P N vs.toArray w (fun v w' => K (upd f d v) w')) :
    OW P ⟨some d, .call ⟨.value (.func N), args, ats⟩, ty, pos, af, g⟩ f w K := by
  refine ⟨.enter N vs.toArray, w, ?_, h⟩
  have hargs : args.map (ev f) = vs.toArray := by subst ha; exact Array.ext' (by simp)
  simp [execOp, resolve, ev, Deferred.ofValue, invoke, hargs, run_callFunc hb]
/-- .. whose results nobody wants. -/
theorem ow_call0 {N : Nat} {args : Array Operand} {ats : Array TypeId} {vs : List Value} (hb : Enters P N)
    (ha : (args.toList.map (ev f)) = vs) (h : Returns P N vs.toArray w (fun v w' => K f w')) :
    OW P ⟨none, .call ⟨.value (.func N), args, ats⟩, ty, pos, af, g⟩ f w K := by
  refine ⟨.enter N vs.toArray, w, ?_, h⟩
  have hargs : args.map (ev f) = vs.toArray := by subst ha; exact Array.ext' (by simp)
  simp [execOp, resolve, ev, Deferred.ofValue, invoke, hargs, run_callFunc hb]
/-- A call of a function value. -/
theorem ow_callv {N : Nat} {x : Operand} {cap : Array Value} {args : Array Operand} {ats : Array TypeId} {vs : List Value} (hb : Enters P N) (hx : ev f x = .func (.func N) #[] cap)
    (ha : (args.toList.map (ev f)) ++ cap.toList = vs) (h : Returns P N vs.toArray w (fun v w' => K (upd f d v) w')) :
    OW P ⟨some d, .call ⟨.value x, args, ats⟩, ty, pos, af, g⟩ f w K := by
  refine ⟨.enter N vs.toArray, w, ?_, h⟩
  have hargs : args.map (ev f) ++ cap = vs.toArray := by rw [← ha]; simp
  simp [execOp, resolve, hx, Deferred.ofValue, invoke, hargs, run_callFunc hb]

/-! strings -/
theorem vr_len_str {x : Operand} {t : TypeId} {s : ByteArray} (hu : P.underlying t = some .string) (hx : ev f x = .string s) :
    VR P f ⟨some d, .call ⟨.builtin .len, #[x], #[t]⟩, ty, pos, af, g⟩ (.int .i64 s.size) := by
  intro w
  simp [execOp, resolve, invoke, builtin, Builtin.len_, hx, run_underlying hu, goInt]
theorem vr_len_sl {x : Operand} {t e : TypeId} {a : Option Addr} {n c : Nat} (hu : P.underlying t = some (.slice e)) (hx : ev f x = .slice a n c) :
    VR P f ⟨some d, .call ⟨.builtin .len, #[x], #[t]⟩, ty, pos, af, g⟩ (.int .i64 n) := by
  intro w
  simp [execOp, resolve, invoke, builtin, Builtin.len_, hx, run_underlying hu, goInt]
theorem vr_cat {x y : Operand} {t t' : TypeId} {a b : ByteArray} (hx : ev f x = .string a) (hy : ev f y = .string b) (hl : a.size + b.size ≤ 9223372036854775807) :
    VR P f ⟨some d, .binOp .add t x y t', ty, pos, af, g⟩ (.string (a ++ b)) := by
  intro w
  have : ¬ (((a.size + b.size : Nat) : Int) > IntKind.i64.max) := by simp [IntKind.max, IntKind.signed, IntKind.bits]; omega
  simp only [execOp, hx, hy, eqGuard, binOp, Op.stringOp, if_neg this]
  simp
theorem vr_eqls {x y : Operand} {t t' : TypeId} {a b : ByteArray} (hx : ev f x = .string a) (hy : ev f y = .string b) :
    VR P f ⟨some d, .binOp .eql t x y t', ty, pos, af, g⟩ (.bool (a.toList == b.toList)) := by
  intro w
  simp [execOp, hx, hy, eqGuard, binOp, Op.stringOp]
theorem vr_neqs {x y : Operand} {t t' : TypeId} {a b : ByteArray} (hx : ev f x = .string a) (hy : ev f y = .string b) :
    VR P f ⟨some d, .binOp .neq t x y t', ty, pos, af, g⟩ (.bool (!(a.toList == b.toList))) := by
  intro w
  simp [execOp, hx, hy, eqGuard, binOp, Op.stringOp]
/-- A byte of a string. -/
theorem vr_index_str {x i : Operand} {t : TypeId} {s : ByteArray} {k : IntKind} {j : Int} (hu : P.underlying t = some .string) (hx : ev f x = .string s) (hi : ev f i = .int k j) (hj : 0 ≤ j) (hl : j.toNat < s.size) : VR P f ⟨some d, .index t x i, ty, pos, af, g⟩ (.int .u8 (s[j.toNat]'hl).toNat) := by
  intro w
  simp [execOp, hx, hi, Instr.index, asIntOf, run_underlying hu, hj, hl]
theorem vr_conv_int {x : Operand} {s t : TypeId} {k k' : IntKind} {a : Int} {du : TypeDesc} (hs : P.underlying s = some du) (ht : P.underlying t = some (.int k')) (hx : ev f x = .int k a) :
    VR P f ⟨some d, .convert s t x, ty, pos, af, g⟩ (.int k' (k'.wrap a)) := by
  intro w
  simp only [execOp, convert, hx, Sem.run_bind, run_underlying hs, run_underlying ht, Result.andThen_ok]
  cases du <;> simp [Conv.intToInt]
end
end Go.Proofs.YtjcagoighpmdkaaGreatDoor
