/- Calls of functions without a body, of methods by an interface, assertions of interfaces, and what is looked at in a block that lies anywhere. Over any program. -/
import Derived.Test.YtjcagoighpmdkaaGreatDoorSlice
import Derived.Laws.Externs
import Derived.Stop.Asserts
namespace Go.Proofs.YtjcagoighpmdkaaGreatDoor
open Go Go.RowKit
set_option linter.unusedVariables false
set_option linter.unusedSimpArgs false
abbrev ptr (p : Nat) : Value := .pointer (some ⟨p, 0, none⟩)
section
variable {P : Program} {E : World} {Γ : List Chunk} {f : Nat → Value} {w : World} {K : (Nat → Value) → World → Prop} {d : Nat} {ty : TypeId} {pos : String} {af : Array Edge} {g : Option (Nat × Bool)}
theorem lr_loadM1 {T : TypeId} {du : TypeDesc} {x : Operand} {b off : Nat} {l : List Value} {T' : TypeId} {fr : Nat × Nat} {D : Chunk} {v : Value} (hu : P.underlying T = some du) (hn : notAgg du = true)
    (hx : ev f x = .pointer (some ⟨b, off, none⟩)) (hD : D ∈ Γ) (hm : (b, Obj.cells l.toArray T' fr) ∈ D) (hc : l[off]? = some v) : LR P (Sat E Γ) f ⟨some d, .load T x, ty, pos, af, g⟩ v := by
  intro w hS
  have hg := hS.mem _ (List.mem_flatten.2 ⟨D, hD, hm⟩)
  have := run_loadVar1 (P := P) hu hn ((cell_at hg).trans hc)
  simp [execOp, hx, Instr.loadAt, Instr.sureAddr, this]
theorem lr_loadMA {T : TypeId} {du : TypeDesc} {x : Operand} {b off m : Nat} {l vs : List Value} {T' : TypeId} {fr : Nat × Nat} {D : Chunk} (hu : P.underlying T = some du) (hn : notAgg du = false) (hsz : szIs P T m)
    (hx : ev f x = .pointer (some ⟨b, off, none⟩)) (hD : D ∈ Γ) (hm : (b, Obj.cells l.toArray T' fr) ∈ D) (hv : (l.drop off).take m = vs) (hl : vs.length = m) : LR P (Sat E Γ) f ⟨some d, .load T x, ty, pos, af, g⟩ (.agg vs.toArray) := by
  intro w hS
  have hg := hS.mem _ (List.mem_flatten.2 ⟨D, hD, hm⟩)
  have := run_loadVarA (P := P) hu hn hsz hg hv hl
  simp [execOp, hx, Instr.loadAt, Instr.sureAddr, this]
theorem ow_extern {N : Nat} {fn : Func} {ext : Array Value → Sem Value} {args : Array Operand} {ats : Array TypeId} {vs : List Value} {v : Value} {w' : World} (hf : P.funcs[N]? = some fn) (hname : (fn.name == "runtime.NumGoroutine") = false)
    (hb : fn.body.isNone = true) (hn : Extern.findNext fn = none) (he : Extern.find fn = some ext) (ha : args.toList.map (ev f) = vs) (hr : (ext vs.toArray).run P w = .ok v w') (h : K (upd f d v) w') :
    OW P ⟨some d, .call ⟨.value (.func N), args, ats⟩, ty, pos, af, g⟩ f w K := by
  have hargs : args.map (ev f) = vs.toArray := by subst ha; exact Array.ext' (by simp)
  have hc := run_callFunc_extern (P := P) hf hname hb hn he vs.toArray w
  rw [hr] at hc
  refine ow_val (v := v) (w' := w') ?_ h
  simp [execOp, resolve, ev, Deferred.ofValue, invoke, hargs, hc]
theorem vr_extern {N : Nat} {fn : Func} {ext : Array Value → Sem Value} {args : Array Operand} {ats : Array TypeId} {vs : List Value} {v : Value} (hf : P.funcs[N]? = some fn) (hname : (fn.name == "runtime.NumGoroutine") = false)
    (hb : fn.body.isNone = true) (hn : Extern.findNext fn = none) (he : Extern.find fn = some ext) (ha : args.toList.map (ev f) = vs) (hr : ∀ w, (ext vs.toArray).run P w = .ok v w) :
    VR P f ⟨some d, .call ⟨.value (.func N), args, ats⟩, ty, pos, af, g⟩ v := by
  intro w
  have hargs : args.map (ev f) = vs.toArray := by subst ha; exact Array.ext' (by simp)
  have hc := run_callFunc_extern (P := P) hf hname hb hn he vs.toArray w
  rw [hr] at hc
  simp [execOp, resolve, ev, Deferred.ofValue, invoke, hargs, hc]
theorem lr_extern {S : World → Prop} {N : Nat} {fn : Func} {ext : Array Value → Sem Value} {args : Array Operand} {ats : Array TypeId} {vs : List Value} {v : Value} (hf : P.funcs[N]? = some fn) (hname : (fn.name == "runtime.NumGoroutine") = false)
    (hb : fn.body.isNone = true) (hn : Extern.findNext fn = none) (he : Extern.find fn = some ext) (ha : args.toList.map (ev f) = vs) (hr : ∀ w, S w → (ext vs.toArray).run P w = .ok v w) :
    LR P S f ⟨some d, .call ⟨.value (.func N), args, ats⟩, ty, pos, af, g⟩ v := by
  intro w hS
  have hargs : args.map (ev f) = vs.toArray := by subst ha; exact Array.ext' (by simp)
  have hc := run_callFunc_extern (P := P) hf hname hb hn he vs.toArray w
  rw [hr w hS] at hc
  simp [execOp, resolve, ev, Deferred.ofValue, invoke, hargs, hc]
/-- By an interface: the method has no body. -/
theorem vr_invokeX {N : Nat} {fn : Func} {ext : Array Value → Sem Value} {x : Operand} {name : String} {args : Array Operand} {ats : Array TypeId} {T : TypeId} {u r : Value} {vs : List Value} {v : Value} (hx : ev f x = .iface T u)
    (hm : ∀ w, (method (P.types.size + Made.depth) T u name).run P w = .ok (N, r) w) (hf : P.funcs[N]? = some fn) (hname : (fn.name == "runtime.NumGoroutine") = false)
    (hb : fn.body.isNone = true) (hn : Extern.findNext fn = none) (he : Extern.find fn = some ext) (ha : args.toList.map (ev f) = vs) (hr : ∀ w, (ext (r :: vs).toArray).run P w = .ok v w) :
    VR P f ⟨some d, .call ⟨.invoke x name, args, ats⟩, ty, pos, af, g⟩ v := by
  intro w
  have hargs : args.map (ev f) = vs.toArray := by subst ha; exact Array.ext' (by simp)
  have hc := run_callFunc_extern (P := P) hf hname hb hn he (r :: vs).toArray w
  rw [hr] at hc
  have e1 : (#[Value.iface T u] ++ vs.toArray)[0]? = some (Value.iface T u) := by simp
  have e2 : (#[Value.iface T u] ++ vs.toArray).extract 1 (#[Value.iface T u] ++ vs.toArray).size = vs.toArray := by
    apply Array.ext'; simp
  have e3 : #[r] ++ vs.toArray = (r :: vs).toArray := by apply Array.ext'; simp
  simp only [execOp, resolve, hx, hargs, Sem.run_bind, Sem.run_pure, Result.andThen_ok, invoke, e1, e2, callMethod, run_program, hm, e3, hc]
/-- By an interface: the method has a body. -/
theorem ow_invoke {N : Nat} {x : Operand} {name : String} {args : Array Operand} {ats : Array TypeId} {T : TypeId} {u r : Value} {vs : List Value} (hx : ev f x = .iface T u)
    (hm : ∀ w, (method (P.types.size + Made.depth) T u name).run P w = .ok (N, r) w) (hb : Enters P N) (ha : args.toList.map (ev f) = vs) (h : Returns P N (r :: vs).toArray w (fun v w' => K (upd f d v) w')) :
    OW P ⟨some d, .call ⟨.invoke x name, args, ats⟩, ty, pos, af, g⟩ f w K := by
  have hargs : args.map (ev f) = vs.toArray := by subst ha; exact Array.ext' (by simp)
  refine ⟨.enter N (r :: vs).toArray, w, ?_, h⟩
  have e1 : (#[Value.iface T u] ++ vs.toArray)[0]? = some (Value.iface T u) := by simp
  have e2 : (#[Value.iface T u] ++ vs.toArray).extract 1 (#[Value.iface T u] ++ vs.toArray).size = vs.toArray := by
    apply Array.ext'; simp
  have e3 : #[r] ++ vs.toArray = (r :: vs).toArray := by apply Array.ext'; simp
  simp only [execOp, resolve, hx, hargs, Sem.run_bind, Sem.run_pure, Result.andThen_ok, invoke, e1, e2, callMethod, run_program, hm, e3, run_callFunc hb]
/-- x.(T) of an interface type, with its Bool. -/
theorem vr_assertI {x : Operand} {xT T S : TypeId} {u z : Value} {want : Array (String × TypeId)} {b : Bool} (hx : ev f x = .iface S u) (hT : P.underlying T = some (.interface want)) (hz : zeroIs P T z)
    (hm : (P.info? S).map (fun i => (lacking want i.methods).isEmpty) = some b) : VR P f ⟨some d, .typeAssert x xT T true, ty, pos, af, g⟩ (.tuple #[bif b then .iface S u else z, .bool b]) := by
  intro w
  cases hi : P.info? S with
  | none => rw [hi] at hm; cases hm
  | some i =>
    rw [hi] at hm
    simp only [Option.map_some, Option.some.injEq] at hm
    have hti : (typeInfo S).run P w = .ok i w := by simp [typeInfo, hi]
    simp only [execOp, hx, Instr.typeAssert, Sem.run_bind, run_underlying hT, Result.andThen_ok, hti]
    cases hl : lacking want i.methods with
    | nil => rw [hl] at hm; simp at hm; subst hm; rw [missingMethod_none hl]; simp
    | cons s l =>
      rw [hl] at hm; simp at hm; subst hm
      obtain ⟨m, hmm⟩ := missingMethod_some (want := want) (got := i.methods) (by rw [hl]; simp)
      rw [hmm]; simp [run_zeroValue' hz]
theorem run_eqI_nil {t : TypeId} {ms : Array (String × TypeId)} {v : Value} {b : Bool} (hu : P.underlying t = some (.interface ms)) (hv : v = .nilIface ∧ b = true ∨ (∃ S u, v = .iface S u) ∧ b = false) : (Op.equal t v .nilIface).run P w = .ok b w :=
  run_equal fun n => by
    rw [Op.equalIn, Sem.run_bind, run_underlying hu]
    rcases hv with ⟨rfl, rfl⟩ | ⟨⟨S, u, rfl⟩, rfl⟩ <;> rfl
/-- Is it nil? -/
def nilI : Value → Bool
  | .nilIface => true
  | _ => false
def isI : Value → Bool
  | .nilIface => true
  | .iface _ _ => true
  | _ => false
theorem vr_eqnilI {x : Operand} {t t' : TypeId} {v : Value} {ms : Array (String × TypeId)} (hu : P.underlying t = some (.interface ms)) (hx : ev f x = v) (hv : isI v = true) : VR P f ⟨some d, .binOp .eql t x (.const .nilIface) t', ty, pos, af, g⟩ (.bool (nilI v)) := by
  refine vr_eqlg hx rfl ?_ (fun w => ?_) (fun w => run_eqI_nil hu ?_)
  · cases v <;> first | rfl | cases hv
  · cases v <;> simp [isI] at hv <;> simp [eqGuard, ev, run_underlying hu]
  · cases v <;> simp [isI] at hv <;> simp [nilI]
theorem vr_nenilI {x : Operand} {t t' : TypeId} {v : Value} {ms : Array (String × TypeId)} (hu : P.underlying t = some (.interface ms)) (hx : ev f x = v) (hv : isI v = true) : VR P f ⟨some d, .binOp .neq t x (.const .nilIface) t', ty, pos, af, g⟩ (.bool (!nilI v)) := by
  refine vr_neqg hx rfl ?_ (fun w => ?_) (fun w => run_eqI_nil hu ?_)
  · cases v <;> first | rfl | cases hv
  · cases v <;> simp [isI] at hv <;> simp [eqGuard, ev, run_underlying hu]
  · cases v <;> simp [isI] at hv <;> simp [nilI]
/-- x.f of a struct's value. -/
theorem vr_field {S i : Nat} {x : Operand} {cs : List Value} {fs : Array Field} {fd : Field} {v : Value} {du : TypeDesc} (hx : ev f x = .agg cs.toArray) (hu : P.underlying S = some (.struct fs)) (hf : fs[i]? = some fd) (ht : P.underlying fd.type = some du) (hn : notAgg du = true) (hc : cs[fd.offset]? = some v) :
    VR P f ⟨some d, .field S x i, ty, pos, af, g⟩ v := by
  intro w
  have hp : (part fd.type cs.toArray fd.offset).run P w = .ok v w := run_part1 ht hn (by simpa using hc)
  simp [execOp, hx, Instr.field, run_underlying hu, hf, asAgg, hp]
end
end Go.Proofs.YtjcagoighpmdkaaGreatDoor
