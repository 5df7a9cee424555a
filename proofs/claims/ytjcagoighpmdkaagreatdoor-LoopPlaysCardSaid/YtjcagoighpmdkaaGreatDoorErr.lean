/- What package trap's errors are, and what its functions do; errors.As at its target. -/
import Derived.LaidEql
import Derived.Stop.Asserts
import Derived.RowKitTokens
import Derived.Test.YtjcagoighpmdkaaGreatDoorExt
import Derived.Test.YtjcagoighpmdkaaGreatDoorBytes
import Derived.Test.YtjcagoighpmdkaaGreatDoorFacts
namespace Go.Proofs.YtjcagoighpmdkaaGreatDoor
open Go Go.RowKit Go.Extern.Stop Go.Stop Go.Extern
set_option linter.unusedVariables false
set_option linter.unusedSimpArgs false
/-! the variable errors.errorType, as the program's text lays it -/
abbrev handleE : Value := .iface 168 (.agg #[.pointer (some ⟨2, 67, none⟩)])
def Glob (G : Chunk) : Prop := ∃ l T fr, (0, Obj.cells (l : List Value).toArray T fr) ∈ G ∧ l[0]? = some handleE
/-! errors -/
inductive ErrV : Value → Int → Chunk → Prop
  | trap (b : Nat) (e a : Int) : e ≠ 0 → ErrV (.iface 132 (ptr b)) e [(b, .cells [.int .i64 e, .int .i64 a].toArray 102 (0, 0))]
  | seen (b : Nat) (s : List UInt8) (v : Value) (e : Int) (Δ : Chunk) : ErrV v e Δ → ErrV (.iface 129 (ptr b)) e ((b, .cells [str s, v].toArray 131 (0, 0)) :: Δ)
def ErrO (v : Value) (e : Int) (Δ : Chunk) : Prop := (v = .nilIface ∧ e = 0 ∧ Δ = []) ∨ ErrV v e Δ
theorem ErrV.ne {v : Value} {e : Int} {Δ : Chunk} (h : ErrV v e Δ) : e ≠ 0 := by induction h <;> assumption
theorem ErrV.face {v : Value} {e : Int} {Δ : Chunk} (h : ErrV v e Δ) : ∃ T u, v = .iface T u := by cases h <;> exact ⟨_, _, rfl⟩
theorem ErrV.shape {v : Value} {e : Int} {Δ : Chunk} (h : ErrV v e Δ) : ∃ T b, v = .iface T (ptr b) ∧ ((T = 132 ∧ ∃ a, Δ = [(b, .cells [.int .i64 e, .int .i64 a].toArray 102 (0, 0))]) ∨ (T = 129 ∧ ∃ s v' Δ', Δ = (b, .cells [str s, v'].toArray 131 (0, 0)) :: Δ' ∧ ErrV v' e Δ')) := by
  cases h with
  | trap b e a he => exact ⟨_, b, rfl, .inl ⟨rfl, a, rfl⟩⟩
  | seen b s v e Δ h => exact ⟨_, b, rfl, .inr ⟨rfl, s, v, Δ, rfl, h⟩⟩
theorem ErrO.isI {v : Value} {e : Int} {Δ : Chunk} (h : ErrO v e Δ) : isI v = true := by
  rcases h with ⟨rfl, _⟩ | h
  · rfl
  · obtain ⟨T, u, rfl⟩ := h.face; rfl
theorem ErrO.nil {v : Value} {e : Int} {Δ : Chunk} (h : ErrO v e Δ) : nilI v = decide (e = 0) := by
  rcases h with ⟨rfl, rfl, _⟩ | h
  · rfl
  · have := h.ne; obtain ⟨T, u, rfl⟩ := h.face; simp [nilI, this]
theorem ErrO.of0 {v : Value} {e : Int} {Δ : Chunk} (h : ErrO v e Δ) (he : e = 0) : v = .nilIface ∧ Δ = [] := by
  rcases h with ⟨rfl, rfl, rfl⟩ | h
  · exact ⟨rfl, rfl⟩
  · exact absurd he h.ne
theorem ErrO.one {v : Value} {e : Int} {Δ : Chunk} (h : ErrO v e Δ) : one v = true := by
  rcases h with ⟨rfl, _⟩ | h
  · rfl
  · obtain ⟨T, u, rfl⟩ := h.face; rfl
attribute [local irreducible] actF WL CW OW PL SW VR LR yes Returns Fn
theorem trap_New (e a : Int) : Fn Tryz.prog 62 [.int .i64 e, .int .i64 a] [] (fun u Δs => ∃ Δ, Δs = [Δ] ∧ ErrO u e Δ) := by
  refine Fn.mk fun E F w hS => ?_
  simp only [List.nil_append] at hS
  refine returns_enter Tryz.func62 rfl Tryz.ntmps62 rfl ?_
  refine cw_seq fun K1 hK1 => ?_
  refine cw_region ?_
  refine wl_op rfl rfl (ow_vr (vr_assign (v := .nilIface) rfl) ?_)
  refine wl_nil ?_
  refine hK1 _ _ ?_
  refine cw_seq fun K2 hK2 => ?_
  refine cw_seq fun K3 hK3 => ?_
  refine cw_region ?_
  refine wl_op rfl rfl (ow_vr (vr_move (v := .int .i64 _) rfl) ?_)
  refine wl_op rfl rfl (ow_vr (vr_eql rfl rfl) ?_)
  refine wl_nil ?_
  refine hK3 _ _ ?_
  refine cw_cond rfl rfl (fun hc => ?_) (fun hc => ?_)
  · (try simp only [decide_eq_true_eq, decide_eq_false_iff_not, Bool.not_eq_true, Bool.not_eq_false, Bool.not_eq_true', Bool.not_eq_false', Bool.and_eq_true, Bool.or_eq_true, Bool.and_eq_false_iff, Bool.or_eq_false_iff, Int.not_lt, Int.not_le, gt_iff_lt, ge_iff_le, ne_eq, Decidable.not_not, beq_iff_eq] at hc)
    have h0 := hc; clear hc
    refine cw_seq fun K4 hK4 => ?_
    refine cw_region ?_
    refine wl_op rfl rfl (ow_vr (vr_assign (v := .nilIface) rfl) ?_)
    refine wl_nil ?_
    refine hK4 _ _ ?_
    refine cw_ret ?_
    refine thenF_ret (?_)
    refine ret_one (fn := Tryz.f62) (n := 12) (t := 4) (.inl rfl) rfl rfl ?_
    exact ⟨[[]], ⟨[], rfl, .inl ⟨rfl, h0, rfl⟩⟩, Sat.nilc.2 hS⟩
  · (try simp only [decide_eq_true_eq, decide_eq_false_iff_not, Bool.not_eq_true, Bool.not_eq_false, Bool.not_eq_true', Bool.not_eq_false', Bool.and_eq_true, Bool.or_eq_true, Bool.and_eq_false_iff, Bool.or_eq_false_iff, Int.not_lt, Int.not_le, gt_iff_lt, ge_iff_le, ne_eq, Decidable.not_not, beq_iff_eq] at hc)
    have h0 := hc; clear hc
    refine cw_skip ?_
    refine hK2 _ _ ?_
    refine cw_seq fun K5 hK5 => ?_
    refine cw_region ?_
    refine wl_op rfl rfl (ow_vr (vr_move (v := .int .i64 _) rfl) ?_)
    refine wl_op rfl rfl (ow_vr (vr_move (v := .int .i64 _) rfl) ?_)
    refine wl_op rfl rfl (ow_vr (vr_build (vs := [(0, .int .i64 _), (1, .int .i64 _)]) (cs := [.int .i64 _, .int .i64 _]) zr_102 pl_102 rfl rfl) ?_)
    refine wl_op rfl rfl (ow_box (cs := [_, _]) hS rfl rfl ?_)
    clear hS; intro b10 w hS
    refine wl_op rfl rfl (ow_vr (vr_makeIface Tryz.underlying132 rfl rfl) ?_)
    refine wl_op rfl rfl (ow_vr (vr_assign rfl) ?_)
    refine wl_nil ?_
    refine hK5 _ _ ?_
    refine cw_ret ?_
    refine ret_one (fn := Tryz.f62) (n := 12) (t := 4) (.inl rfl) rfl rfl ?_
    exact ⟨[_], ⟨_, rfl, .inr (.trap _ e a h0)⟩, hS⟩
theorem trap_In {v : Value} {e : Int} {Δ : Chunk} (hv : ErrO v e Δ) (s : List UInt8) : Fn Tryz.prog 61 [v, str s] [Δ] (fun u Δs => ∃ Δ', Δs = [Δ'] ∧ ErrO u e Δ') := by
  refine Fn.mk fun E F w hS => ?_
  have hi := hv.isI
  have hn := hv.nil
  have h1 := hv.one
  simp only [List.cons_append, List.nil_append] at hS
  refine returns_enter Tryz.func61 rfl Tryz.ntmps61 rfl ?_
  refine cw_seq fun K1 hK1 => ?_
  refine cw_region ?_
  refine wl_op rfl rfl (ow_vr (vr_assign (v := .nilIface) rfl) ?_)
  refine wl_nil ?_
  refine hK1 _ _ ?_
  refine cw_seq fun K2 hK2 => ?_
  refine cw_seq fun K3 hK3 => ?_
  refine cw_region ?_
  refine wl_op rfl rfl (ow_vr (vr_move (v := v) rfl) ?_)
  refine wl_op rfl rfl (ow_vr (vr_eqnilI (v := v) Tryz.underlying67 rfl (by first | assumption | rfl)) ?_)
  refine wl_nil ?_
  refine hK3 _ _ ?_
  refine cw_cond rfl rfl (fun hc => ?_) (fun hc => ?_)
  · (try simp only [decide_eq_true_eq, decide_eq_false_iff_not, Bool.not_eq_true, Bool.not_eq_false, Bool.not_eq_true', Bool.not_eq_false', Bool.and_eq_true, Bool.or_eq_true, Bool.and_eq_false_iff, Bool.or_eq_false_iff, Int.not_lt, Int.not_le, gt_iff_lt, ge_iff_le, ne_eq, Decidable.not_not, beq_iff_eq] at hc)
    have h0 := hc; clear hc
    refine cw_seq fun K4 hK4 => ?_
    have he : e = 0 := by rw [hn] at h0; simpa using h0
    obtain ⟨_, rfl⟩ := hv.of0 he
    refine cw_region ?_
    refine wl_op rfl rfl (ow_vr (vr_assign (v := .nilIface) rfl) ?_)
    refine wl_nil ?_
    refine hK4 _ _ ?_
    refine cw_ret ?_
    refine thenF_ret (?_)
    refine ret_one (fn := Tryz.f61) (n := 12) (t := 4) (.inl rfl) rfl rfl ?_
    exact ⟨[[]], ⟨[], rfl, .inl ⟨rfl, he, rfl⟩⟩, hS⟩
  · (try simp only [decide_eq_true_eq, decide_eq_false_iff_not, Bool.not_eq_true, Bool.not_eq_false, Bool.not_eq_true', Bool.not_eq_false', Bool.and_eq_true, Bool.or_eq_true, Bool.and_eq_false_iff, Bool.or_eq_false_iff, Int.not_lt, Int.not_le, gt_iff_lt, ge_iff_le, ne_eq, Decidable.not_not, beq_iff_eq] at hc)
    have h0 := hc; clear hc
    refine cw_skip ?_
    refine hK2 _ _ ?_
    refine cw_seq fun K5 hK5 => ?_
    have hv : ErrV v e Δ := hv.resolve_left fun h => by rw [hn, h.2.1] at h0; simp at h0
    refine cw_region ?_
    refine wl_op rfl rfl (ow_vr (vr_move (v := str _) rfl) ?_)
    refine wl_op rfl rfl (ow_vr (vr_move (v := v) rfl) ?_)
    refine wl_op rfl rfl (ow_vr (vr_build (vs := [(0, str s), (1, v)]) (cs := [str s, v]) zr_131 pl_131 rfl (by rw [show (Value.agg #[Value.string { data := #[] }, Value.nilIface]).cells = #[Value.string { data := #[] }, Value.nilIface] from rfl]; simp [Instr.fill, cells_one h1, cells_one (show one (str s) = true from rfl)])) ?_)
    refine wl_op rfl rfl (ow_box (v := .agg #[str s, v]) (cs := [str s, v]) hS rfl rfl ?_)
    clear hS; intro b10 w hS
    refine wl_op rfl rfl (ow_vr (vr_makeIface Tryz.underlying129 rfl rfl) ?_)
    refine wl_op rfl rfl (ow_vr (vr_assign rfl) ?_)
    refine wl_nil ?_
    refine hK5 _ _ ?_
    refine cw_ret ?_
    refine ret_one (fn := Tryz.f61) (n := 12) (t := 4) (.inl rfl) rfl rfl ?_
    exact ⟨[_], ⟨_, rfl, .inr (.seen _ s v e Δ hv)⟩, (show Sat E (_ :: F) w from hS.perm (by simp))⟩
/-! errors.As at a **trap.Trap: the model's entries for internal/reflectlite at this program's numbers -/
theorem xValueOf (t : Addr) (w : World) : (ReflectliteValue.unpack (.iface 134 (.pointer (some t)))).run Tryz.prog w
    = .ok (.agg #[.pointer (some ⟨2, 134, none⟩), .pointer (some ⟨w.heap.size, 0, none⟩), .int .u64 150]) (w.alloc (.cells #[.pointer (some t)] 134)) := by kernel_rfl
theorem xType (a : Addr) (w : World) : (ReflectliteValue.methodAny (ReflectliteValue.valueError "reflectlite.Value.Type" 0) (fun t _ _ _ => ReflectliteType.toType t) #[.agg #[.pointer (some ⟨2, 134, none⟩), .pointer (some a), .int .u64 150]]).run Tryz.prog w
    = .ok (.iface 168 (.agg #[.pointer (some ⟨2, 134, none⟩)])) w := by kernel_rfl
theorem mKind (h : Value) (w : World) : (Go.method (Tryz.prog.types.size + Made.depth) 168 (.agg #[h]) "Kind").run Tryz.prog w = .ok (125, h) w := by kernel_rfl
theorem xKind1 (w : World) : ((ReflectliteType.abiMethod fun t => (fun a : Nat => Value.int IntKind.u8 (a : Int)) <$> Rtype.kind t) #[.pointer (some ⟨2, 134, none⟩)]).run Tryz.prog w = .ok (.int .u8 22) w := by kernel_rfl
theorem xKind2 (w : World) : ((ReflectliteType.abiMethod fun t => (fun a : Nat => Value.int IntKind.u8 (a : Int)) <$> Rtype.kind t) #[.pointer (some ⟨2, 132, none⟩)]).run Tryz.prog w = .ok (.int .u8 22) w := by kernel_rfl
theorem rlm (z : Sem Value) (f : TypeId → Addr → Nat → Nat → Sem Value) (v : Value) :
    ReflectliteValue.method z f #[v] = (do match ← ReflectliteValue.parts v with | none => z | some (t, a, fl) => f t a fl (fl % 32)) := rfl
theorem xParts (a : Addr) (w : World) : (ReflectliteValue.parts (.agg #[.pointer (some ⟨2, 134, none⟩), .pointer (some a), .int .u64 150])).run Tryz.prog w = .ok (some (134, a, 150)) w := by kernel_rfl
theorem xIsNil (a p : Addr) (W : World) (ha : W.cell? a = some (.pointer (some p))) :
    (ReflectliteValue.method (ReflectliteValue.valueError "reflectlite.Value.IsNil" 0) ReflectliteValue.isNil #[.agg #[.pointer (some ⟨2, 134, none⟩), .pointer (some a), .int .u64 150]]).run Tryz.prog W = .ok (.bool false) W := by
  rw [rlm]
  simp only [Sem.run_bind, xParts, Result.andThen]
  simp [ReflectliteValue.isNil, loadVar, isAgg, underlying, Tryz.underlying134, ha, Result.andThen]
theorem mElem (h : Value) (w : World) : (Go.method (Tryz.prog.types.size + Made.depth) 168 (.agg #[h]) "Elem").run Tryz.prog w = .ok (139, .agg #[h]) w := by kernel_rfl
theorem mImplements (h : Value) (w : World) : (Go.method (Tryz.prog.types.size + Made.depth) 168 (.agg #[h]) "Implements").run Tryz.prog w = .ok (140, .agg #[h]) w := by kernel_rfl
theorem mAssignableTo (h : Value) (w : World) : (Go.method (Tryz.prog.types.size + Made.depth) 168 (.agg #[h]) "AssignableTo").run Tryz.prog w = .ok (137, .agg #[h]) w := by kernel_rfl
theorem mUnwrap (h : Value) (w : World) : (Go.method (Tryz.prog.types.size + Made.depth) 129 h "Unwrap").run Tryz.prog w = .ok (130, h) w := by kernel_rfl
theorem xElem (w : World) : (ReflectliteType.method ReflectliteType.elem #[.agg #[.pointer (some ⟨2, 134, none⟩)]]).run Tryz.prog w = .ok (.iface 168 (.agg #[.pointer (some ⟨2, 132, none⟩)])) w := by kernel_rfl
theorem xImplements (w : World) : (ReflectliteType.relation "Implements" ReflectliteType.implements_ #[.agg #[.pointer (some ⟨2, 132, none⟩)], handleE]).run Tryz.prog w = .ok (.bool true) w := by kernel_rfl
theorem xTypeOf1 (v : Value) (w : World) : (ReflectliteType.typeOf #[.iface 132 v]).run Tryz.prog w = .ok (.iface 168 (.agg #[.pointer (some ⟨2, 132, none⟩)])) w := by kernel_rfl
theorem xTypeOf2 (v : Value) (w : World) : (ReflectliteType.typeOf #[.iface 129 v]).run Tryz.prog w = .ok (.iface 168 (.agg #[.pointer (some ⟨2, 129, none⟩)])) w := by kernel_rfl
theorem xAssignable1 (w : World) : (ReflectliteType.relation "AssignableTo" ReflectliteType.assignableTo #[.agg #[.pointer (some ⟨2, 132, none⟩)], .iface 168 (.agg #[.pointer (some ⟨2, 132, none⟩)])]).run Tryz.prog w = .ok (.bool true) w := by kernel_rfl
theorem xAssignable2 (w : World) : (ReflectliteType.relation "AssignableTo" ReflectliteType.assignableTo #[.agg #[.pointer (some ⟨2, 129, none⟩)], .iface 168 (.agg #[.pointer (some ⟨2, 132, none⟩)])]).run Tryz.prog w = .ok (.bool false) w := by kernel_rfl
theorem xValueOfT (e : Addr) (w : World) : (ReflectliteValue.unpack (.iface 132 (.pointer (some e)))).run Tryz.prog w
    = .ok (.agg #[.pointer (some ⟨2, 132, none⟩), .pointer (some ⟨w.heap.size, 0, none⟩), .int .u64 150]) (w.alloc (.cells #[.pointer (some e)] 132)) := by kernel_rfl
theorem xElemOf (w : World) : (Rtype.elem? 134).run Tryz.prog w = .ok (some 132) w := by kernel_rfl
theorem xMk (p : Addr) (w : World) : (ReflectliteValue.mk 132 p ReflectliteValue.flagAddr).run Tryz.prog w = .ok (.agg #[.pointer (some ⟨2, 132, none⟩), .pointer (some p), .int .u64 406]) w := by kernel_rfl
theorem xElemV (a p : Addr) (W : World) (ha : W.cell? a = some (.pointer (some p))) :
    (ReflectliteValue.method (ReflectliteValue.valueError "reflectlite.Value.Elem" 0) ReflectliteValue.elem #[.agg #[.pointer (some ⟨2, 134, none⟩), .pointer (some a), .int .u64 150]]).run Tryz.prog W
      = .ok (.agg #[.pointer (some ⟨2, 132, none⟩), .pointer (some p), .int .u64 406]) W := by
  rw [rlm]
  simp only [Sem.run_bind, xParts, Result.andThen]
  simp [ReflectliteValue.elem, loadVar, isAgg, underlying, Tryz.underlying134, ha, Result.andThen, xElemOf, xMk]
theorem rls (v x : Value) : ReflectliteValue.set #[v, x] = (do
    let (some (dst, a, fl), some (src, b, _)) := (← ReflectliteValue.parts v, ← ReflectliteValue.parts x)
      | unsupported (.noEntry "extern/(internal/reflectlite.Value).Set.zeroValue")
    if fl / ReflectliteValue.flagAddr % 2 == 0 then unsupported (.noEntry "extern/(internal/reflectlite.Value).Set.unaddressable")
    let val ← loadVar src b
    if ← Rtype.directlyAssignable dst src then storeVar dst a val
    else if ← Rtype.implements dst src then
      if (← Rtype.kind src) == 20 then
        match val with
        | .nilIface => unsupported (.noEntry "extern/reflectlite: a nil value of one interface type handed on as a value of another")
        | _ => storeVar dst a val
      else storeVar dst a (.iface src val)
    else panicString ("reflectlite.Set: value of type " ++ (← Rtype.spelt src) ++ " is not assignable to type " ++ (← Rtype.spelt dst))
    pure (.tuple #[])) := rfl
theorem xPartsA (a : Addr) (w : World) : (ReflectliteValue.parts (.agg #[.pointer (some ⟨2, 132, none⟩), .pointer (some a), .int .u64 406])).run Tryz.prog w = .ok (some (132, a, 406)) w := by kernel_rfl
theorem xPartsT (a : Addr) (w : World) : (ReflectliteValue.parts (.agg #[.pointer (some ⟨2, 132, none⟩), .pointer (some a), .int .u64 150])).run Tryz.prog w = .ok (some (132, a, 150)) w := by kernel_rfl
theorem xDirect (w : World) : (Rtype.directlyAssignable 132 132).run Tryz.prog w = .ok true w := by kernel_rfl
theorem xSet (ta b e : Addr) (old : Value) (W : World) (hb : W.cell? b = some (.pointer (some e))) (ht : W.cell? ta = some old) (hf : W.frozen? ta = false) :
    (ReflectliteValue.set #[.agg #[.pointer (some ⟨2, 132, none⟩), .pointer (some ta), .int .u64 406], .agg #[.pointer (some ⟨2, 132, none⟩), .pointer (some b), .int .u64 150]]).run Tryz.prog W
      = .ok (.tuple #[]) (W.setCell ta (.pointer (some e))) := by
  have hsz := fun w => run_sizeOf' sz_132 w
  rw [rls]
  simp only [Sem.run_bind, xPartsA, xPartsT, Result.andThen]
  simp [ReflectliteValue.flagAddr, loadVar, isAgg, underlying, Tryz.underlying132, hb, Result.andThen, xDirect, storeVar, Value.cells, storeCells, Addr.add, hsz]
  rw [run_store Tryz.prog W ta _ _ (by rfl)]
  simp [ht, hf]
end Go.Proofs.YtjcagoighpmdkaaGreatDoor
