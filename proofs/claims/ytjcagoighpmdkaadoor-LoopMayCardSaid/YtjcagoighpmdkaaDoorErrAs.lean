/- errors.As at a *trap.Trap's variable; trap.first, trap.Errno. -/
import Derived.Test.YtjcagoighpmdkaaDoorErr
namespace Go.Proofs.YtjcagoighpmdkaaDoor
open Go Go.RowKit Go.Extern.Stop Go.Stop Go.Extern
set_option linter.unusedVariables false
set_option linter.unusedSimpArgs false
abbrev tyH (T : Nat) : Value := .pointer (some ⟨2, T, none⟩)
abbrev valH (T q : Nat) (fl : Int) : Value := .agg #[tyH T, ptr q, .int .u64 fl]
abbrev rtH (T : Nat) : Value := .iface 127 (.agg #[tyH T])
section
variable {E : World} {Γ : List Chunk} {f : Nat → Value} {w : World} {K : (Nat → Value) → World → Prop} {d : Nat} {ty : TypeId} {pos : String} {af : Array Edge} {g : Option (Nat × Bool)} {args : Array Operand} {ats : Array TypeId}
theorem ow_xValueOf {t : Nat} (hS : Sat E Γ w) (ha : args.toList.map (ev f) = [.iface 103 (ptr t)])
    (h : ∀ q w', Sat E ([(q, .cells [ptr t].toArray 103 (0, 0))] :: Γ) w' → K (upd f d (valH 103 q 150)) w') : OW Tryd.prog ⟨some d, .call ⟨.value (.func 58), args, ats⟩, ty, pos, af, g⟩ f w K :=
  ow_extern (ext := fun args => ReflectliteValue.unpack (args.getD 0 (.tuple #[]))) Tryd.func58 (by kernel_rfl) (by kernel_rfl) (by kernel_rfl) (by kernel_rfl) ha (xValueOf _ w) (h _ _ (hS.alloc _))
theorem ow_xValueOfT {t : Nat} (hS : Sat E Γ w) (ha : args.toList.map (ev f) = [.iface 101 (ptr t)])
    (h : ∀ q w', Sat E ([(q, .cells [ptr t].toArray 101 (0, 0))] :: Γ) w' → K (upd f d (valH 101 q 150)) w') : OW Tryd.prog ⟨some d, .call ⟨.value (.func 58), args, ats⟩, ty, pos, af, g⟩ f w K :=
  ow_extern (ext := fun args => ReflectliteValue.unpack (args.getD 0 (.tuple #[]))) Tryd.func58 (by kernel_rfl) (by kernel_rfl) (by kernel_rfl) (by kernel_rfl) ha (xValueOfT _ w) (h _ _ (hS.alloc _))
theorem vr_xType {q : Nat} (ha : args.toList.map (ev f) = [valH 103 q 150]) : VR Tryd.prog f ⟨some d, .call ⟨.value (.func 59), args, ats⟩, ty, pos, af, g⟩ (rtH 103) :=
  vr_extern (ext := ReflectliteValue.methodAny (ReflectliteValue.valueError "reflectlite.Value.Type" 0) (fun t _ _ _ => ReflectliteType.toType t)) Tryd.func59 (by kernel_rfl) (by kernel_rfl) (by kernel_rfl) (by kernel_rfl) ha (fun w => xType _ w)
theorem lr_xIsNil {q t : Nat} {T : TypeId} {fr : Nat × Nat} {D : Chunk} (ha : args.toList.map (ev f) = [valH 103 q 150]) (hD : D ∈ Γ) (hm : (q, Obj.cells [ptr t].toArray T fr) ∈ D) : LR Tryd.prog (Sat E Γ) f ⟨some d, .call ⟨.value (.func 60), args, ats⟩, ty, pos, af, g⟩ (.bool false) :=
  lr_extern (ext := ReflectliteValue.method (ReflectliteValue.valueError "reflectlite.Value.IsNil" 0) ReflectliteValue.isNil) Tryd.func60 (by kernel_rfl) (by kernel_rfl) (by kernel_rfl) (by kernel_rfl) ha
    (fun w hS => xIsNil _ ⟨t, 0, none⟩ w (cell_at (l := [ptr t]) (hS.mem _ (List.mem_flatten.2 ⟨D, hD, hm⟩))))
theorem lr_xElem {q t : Nat} {T : TypeId} {fr : Nat × Nat} {D : Chunk} (ha : args.toList.map (ev f) = [valH 103 q 150]) (hD : D ∈ Γ) (hm : (q, Obj.cells [ptr t].toArray T fr) ∈ D) : LR Tryd.prog (Sat E Γ) f ⟨some d, .call ⟨.value (.func 66), args, ats⟩, ty, pos, af, g⟩ (valH 101 t 406) :=
  lr_extern (ext := ReflectliteValue.method (ReflectliteValue.valueError "reflectlite.Value.Elem" 0) ReflectliteValue.elem) Tryd.func66 (by kernel_rfl) (by kernel_rfl) (by kernel_rfl) (by kernel_rfl) ha
    (fun w hS => xElemV _ ⟨t, 0, none⟩ w (cell_at (l := [ptr t]) (hS.mem _ (List.mem_flatten.2 ⟨D, hD, hm⟩))))
theorem vr_xKind {x : Operand} {T : Nat} (hx : ev f x = rtH T) (h0 : args = #[]) (hk : ∀ w, ((ReflectliteType.abiMethod fun t => (fun a : Nat => Value.int IntKind.u8 (a : Int)) <$> Rtype.kind t) #[tyH T]).run Tryd.prog w = .ok (.int .u8 22) w) :
    VR Tryd.prog f ⟨some d, .call ⟨.invoke x "Kind", args, ats⟩, ty, pos, af, g⟩ (.int .u8 22) :=
  vr_invokeX (ext := ReflectliteType.abiMethod fun t => do pure (.int .u8 (← Rtype.kind t))) (vs := []) hx (fun w => mKind _ w) Tryd.func82 (by kernel_rfl) (by kernel_rfl) (by kernel_rfl) (by kernel_rfl) (by subst h0; rfl) hk
theorem vr_xElemT {x : Operand} (hx : ev f x = rtH 103) (h0 : args = #[]) :
    VR Tryd.prog f ⟨some d, .call ⟨.invoke x "Elem", args, ats⟩, ty, pos, af, g⟩ (rtH 101) :=
  vr_invokeX (ext := ReflectliteType.method ReflectliteType.elem) (vs := []) hx (fun w => mElem _ w) Tryd.func96 (by kernel_rfl) (by kernel_rfl) (by kernel_rfl) (by kernel_rfl) (by subst h0; rfl) (fun w => xElem w)
theorem vr_xImplements {x : Operand} (hx : ev f x = rtH 101) (ha : args.toList.map (ev f) = [handleE]) :
    VR Tryd.prog f ⟨some d, .call ⟨.invoke x "Implements", args, ats⟩, ty, pos, af, g⟩ (.bool true) :=
  vr_invokeX (ext := ReflectliteType.relation "Implements" ReflectliteType.implements_) (vs := [handleE]) hx (fun w => mImplements _ w) Tryd.func97 (by kernel_rfl) (by kernel_rfl) (by kernel_rfl) (by kernel_rfl) ha (fun w => xImplements w)
theorem vr_xTypeOf {T b : Nat} (hT : T = 101 ∨ T = 98) (ha : args.toList.map (ev f) = [.iface T (ptr b)]) : VR Tryd.prog f ⟨some d, .call ⟨.value (.func 65), args, ats⟩, ty, pos, af, g⟩ (rtH T) :=
  vr_extern (ext := ReflectliteType.typeOf) Tryd.func65 (by kernel_rfl) (by kernel_rfl) (by kernel_rfl) (by kernel_rfl) ha (fun w => by rcases hT with rfl | rfl; exact xTypeOf1 _ w; exact xTypeOf2 _ w)
theorem vr_xAssignable {x : Operand} {T : Nat} (hT : T = 101 ∨ T = 98) (hx : ev f x = rtH T) (ha : args.toList.map (ev f) = [rtH 101]) :
    VR Tryd.prog f ⟨some d, .call ⟨.invoke x "AssignableTo", args, ats⟩, ty, pos, af, g⟩ (.bool (decide (T = 101))) :=
  vr_invokeX (ext := ReflectliteType.relation "AssignableTo" ReflectliteType.assignableTo) (vs := [rtH 101]) hx (fun w => mAssignableTo _ w) Tryd.func94 (by kernel_rfl) (by kernel_rfl) (by kernel_rfl) (by kernel_rfl) ha (fun w => by rcases hT with rfl | rfl; exact xAssignable1 w; exact xAssignable2 w)
theorem ow_xSet {t q e : Nat} {T : TypeId} {fr : Nat × Nat} {T' : TypeId} {old : Value} {D : Chunk} {U : Obj → List Chunk} (hS : Sat E Γ w) (ha : args.toList.map (ev f) = [valH 101 t 406, valH 101 q 150]) (hD : D ∈ Γ) (hm : (q, Obj.cells [ptr e].toArray T fr) ∈ D) (hH : Has Γ t (.cells [old].toArray T' (0, 0)) U)
    (h : ∀ w', Sat E (U (.cells [ptr e].toArray T' (0, 0))) w' → K (upd f d (.tuple #[])) w') : OW Tryd.prog ⟨some d, .call ⟨.value (.func 67), args, ats⟩, ty, pos, af, g⟩ f w K :=
  ow_extern (ext := ReflectliteValue.set) Tryd.func67 (by kernel_rfl) (by kernel_rfl) (by kernel_rfl) (by kernel_rfl) ha
    (xSet ⟨t, 0, none⟩ ⟨q, 0, none⟩ ⟨e, 0, none⟩ old w (cell_at (l := [ptr e]) (hS.mem _ (List.mem_flatten.2 ⟨D, hD, hm⟩))) (cell_at (l := [old]) (hH.get hS)) (frozen_at (l := [old]) (hH.get hS))) (h _ (hS.setCell (off := 0) hH (ptr e)))
end
attribute [local irreducible] actF WL CW OW PL SW VR LR yes Returns Fn
theorem seen_Unwrap {b : Nat} {s : List UInt8} {v : Value} {D : Chunk} (hm : (b, Obj.cells [str s, v].toArray 100 (0, 0)) ∈ D) : FnG Tryd.prog 88 [ptr b] [D] (fun u Δs => u = v ∧ Δs = []) := by
  refine FnG.mk fun E F w hS hF => ?_
  have hD : D ∈ F := hF _ (by simp)
  refine returns_enter Tryd.func88 rfl Tryd.ntmps88 rfl ?_
  refine cw_seq fun K1 hK1 => ?_
  refine cw_region ?_
  refine wl_op rfl rfl (ow_vr (vr_assign (v := .nilIface) rfl) ?_)
  refine wl_nil ?_
  refine hK1 _ _ ?_
  refine cw_seq fun K2 hK2 => ?_
  refine cw_region ?_
  refine wl_op rfl rfl (ow_vr (vr_move (v := .pointer _) rfl) ?_)
  refine wl_op rfl rfl (ow_vr (vr_nilCheck rfl) ?_)
  first | (refine wl_op rfl rfl (ow_vr (vr_fieldAddr fo_100_1 rfl) ?_)) | (refine wl_op rfl rfl (ow_vr (vr_fieldAddrV fo_100_1 rfl (by first | assumption | (refine Own.view ?_ (by assumption); exact fun _ => rfl) | exact OwnB.view (by assumption)) (by first | omega | (simp <;> omega))) ?_))
  refine wl_op rfl rfl (ow_lr (S := Sat _ _) (lr_loadM1 (v := v) Tryd.underlying62 rfl rfl hD hm rfl) hS ?_)
  refine wl_op rfl rfl (ow_vr (vr_assign (v := v) rfl) ?_)
  refine wl_nil ?_
  refine hK2 _ _ ?_
  refine cw_ret ?_
  refine ret_one (fn := Tryd.f88) (n := 7) (t := 2) (.inl rfl) rfl rfl ?_
  exact ⟨[], ⟨rfl, rfl⟩, hS⟩
theorem errors_as {v : Value} {e : Int} {Δ : Chunk} (hv : ErrV v e Δ) {t q : Nat} {T : TypeId} {fr : Nat × Nat} {Dq : Chunk} (hq : (q, Obj.cells [ptr t].toArray T fr) ∈ Dq) :
    FnM Tryd.prog 61 [v, .iface 103 (ptr t), valH 103 q 150, rtH 101] [[(t, .cells [.pointer none].toArray 101 (0, 0))]] [Dq, Δ] (fun u Δs => u = .bool true ∧ ∃ b a, Δs = [[(t, .cells [ptr b].toArray 101 (0, 0))]] ∧ (b, Obj.cells [.int .i64 e, .int .i64 a].toArray 79 (0, 0)) ∈ Δ) := by
  refine FnM.mk fun E F w hS hF => ?_
  have hFq : Dq ∈ F := hF _ (by simp)
  have hFe : Δ ∈ F := hF _ (by simp)
  obtain ⟨S0, b0, rfl, _⟩ := hv.shape
  replace hS : Sat E ([(t, .cells [.pointer none].toArray 101 (0, 0))] :: F) w := hS
  refine returns_enter Tryd.func61 rfl Tryd.ntmps61 rfl ?_
  refine cw_seq fun K1 hK1 => ?_
  refine cw_region ?_
  refine wl_op rfl rfl (ow_box (v := valH 103 q 150) (cs := [tyH 103, ptr q, .int .u64 150]) hS rfl rfl ?_)
  clear hS; intro b6 w hS
  refine wl_op rfl rfl (ow_vr (vr_assign (v := .bool false) rfl) ?_)
  refine wl_nil ?_
  refine hK1 _ _ ?_
  refine cw_block ?_
  refine cw_loop (fun m f w => ∃ (S : Nat) (b : Nat) (Δ' : Chunk) (g : Nat → Value), f = (upd (upd (upd (upd g 0 (.iface S (ptr b))) 1 (.iface 103 (ptr t))) 3 (rtH 101)) 6 (ptr b6)) ∧ (ErrV (.iface S (ptr b)) e Δ' ∧ ∀ p ∈ Δ', p ∈ Δ) ∧ m = Δ'.length ∧ Sat E ([(b6, .cells [tyH 103, ptr q, .int .u64 150].toArray 114 (0, 0))] :: [(t, .cells [.pointer none].toArray 101 (0, 0))] :: F) w) ⟨S0, b0, Δ, _, (reb (reb (reb (reb rfl rfl) rfl) rfl) rfl), ?_, rfl, hS⟩ ?_
  · exact ⟨hv, fun _ h => h⟩
  clear hS; rintro m f w ⟨S, b, Δ', g, rfl, hI0, rfl, hS⟩
  obtain ⟨hv', hsub⟩ := hI0
  obtain ⟨S', b', hEq, hsh⟩ := hv'.shape
  obtain ⟨rfl, rfl⟩ : S = S' ∧ b = b' := by cases hEq; exact ⟨rfl, rfl⟩
  clear hEq
  have hSS : S = 101 ∨ S = 98 := by rcases hsh with ⟨h, _⟩ | ⟨h, _⟩; exact .inl h; exact .inr h
  refine cw_block ?_
  refine cw_seq fun K2 hK2 => ?_
  refine cw_seq fun K3 hK3 => ?_
  refine cw_region ?_
  refine wl_op rfl rfl (ow_vr (vr_move (v := .iface S (ptr b)) rfl) ?_)
  refine wl_op rfl rfl (ow_vr (vr_xTypeOf hSS rfl) ?_)
  refine wl_op rfl rfl (ow_vr (vr_move (v := (rtH 101)) rfl) ?_)
  refine wl_op rfl rfl (ow_vr (vr_xAssignable hSS rfl rfl) ?_)
  refine wl_nil ?_
  refine hK3 _ _ ?_
  refine cw_cond rfl rfl (fun hc => ?_) (fun hc => ?_)
  · (try simp only [decide_eq_true_eq, decide_eq_false_iff_not, Bool.not_eq_true, Bool.not_eq_false, Bool.not_eq_true', Bool.not_eq_false', Bool.and_eq_true, Bool.or_eq_true, Bool.and_eq_false_iff, Bool.or_eq_false_iff, Int.not_lt, Int.not_le, gt_iff_lt, ge_iff_le, ne_eq, Decidable.not_not, beq_iff_eq] at hc)
    have hT := hc; clear hc
    refine cw_seq fun K4 hK4 => ?_
    obtain rfl : S = 101 := by simpa using hT
    obtain ⟨a, hΔ⟩ : ∃ a, Δ' = [(b, .cells [.int .i64 e, .int .i64 a].toArray 79 (0, 0))] := by
      rcases hsh with ⟨_, h⟩ | ⟨h, _⟩
      · exact h
      · cases h
    refine cw_region ?_
    refine wl_op rfl rfl (ow_lr (S := Sat _ _) (lr_loadA (vs := [tyH 103, ptr q, .int .u64 150]) Tryd.underlying114 rfl sz_114 rfl Has.here rfl rfl) hS ?_)
    refine wl_op rfl rfl (ow_lr (S := Sat _ _) (lr_xElem rfl (List.mem_cons_of_mem _ (List.mem_cons_of_mem _ hFq)) hq) hS ?_)
    refine wl_op rfl rfl (ow_vr (vr_move (v := .iface 101 (ptr b)) rfl) ?_)
    refine wl_op rfl rfl (ow_xValueOfT hS rfl ?_)
    clear hS; intro q23 w hS
    refine wl_op rfl rfl (ow_xSet hS rfl List.mem_cons_self (List.mem_singleton.2 rfl) (Has.there (Has.there Has.here)) ?_)
    clear hS; intro w hS
    refine wl_nil ?_
    refine hK4 _ _ ?_
    refine cw_seq fun K5 hK5 => ?_
    refine cw_region ?_
    refine wl_op rfl rfl (ow_vr (vr_assign (v := .bool true) rfl) ?_)
    refine wl_nil ?_
    refine hK5 _ _ ?_
    refine cw_ret ?_
    refine thenF_ret (inB_ret (thenF_ret (inB_ret (?_))))
    refine ret_one (fn := Tryd.f61) (n := 62) (t := 8) (.inl rfl) rfl rfl ?_
    exact ⟨[_], ⟨rfl, b, a, rfl, hsub _ (by rw [hΔ]; simp)⟩, hS.tail1.tail1⟩
  · (try simp only [decide_eq_true_eq, decide_eq_false_iff_not, Bool.not_eq_true, Bool.not_eq_false, Bool.not_eq_true', Bool.not_eq_false', Bool.and_eq_true, Bool.or_eq_true, Bool.and_eq_false_iff, Bool.or_eq_false_iff, Int.not_lt, Int.not_le, gt_iff_lt, ge_iff_le, ne_eq, Decidable.not_not, beq_iff_eq] at hc)
    have hT := hc; clear hc
    refine cw_skip ?_
    refine hK2 _ _ ?_
    refine cw_seq fun K6 hK6 => ?_
    refine cw_seq fun K7 hK7 => ?_
    obtain rfl : S = 98 := by rcases hSS with rfl | rfl; exact absurd rfl hT; rfl
    obtain ⟨s, v2, Δ2, rfl, hv2⟩ : ∃ s v2 Δ2, Δ' = (b, .cells [str s, v2].toArray 100 (0, 0)) :: Δ2 ∧ ErrV v2 e Δ2 := by
      rcases hsh with ⟨h, _⟩ | ⟨_, h⟩
      · cases h
      · exact h
    have hm2 : (b, Obj.cells [str s, v2].toArray 100 (0, 0)) ∈ Δ := hsub _ (by simp)
    obtain ⟨S2, b2, rfl, _⟩ := hv2.shape
    refine cw_region ?_
    refine wl_op rfl rfl (ow_vr (vr_move (v := .iface 98 (ptr b)) rfl) ?_)
    refine wl_op rfl rfl (ow_vr (vr_assertI (b := false) rfl Tryd.underlying132 zr_132 (by kernel_rfl)) ?_)
    refine wl_op rfl rfl (ow_vr (vr_move (v := .tuple _) rfl) ?_)
    refine wl_op rfl rfl (ow_vr (vr_extract (v := _) rfl rfl) ?_)
    refine wl_op rfl rfl (ow_vr (vr_extract (v := .bool _) rfl rfl) ?_)
    refine wl_op rfl rfl (ow_vr (vr_assign rfl) ?_)
    refine wl_op rfl rfl (ow_vr (vr_assign (v := .bool _) rfl) ?_)
    refine wl_nil ?_
    refine hK7 _ _ ?_
    refine cw_seq fun K8 hK8 => ?_
    refine cw_region ?_
    refine wl_op rfl rfl (ow_vr (vr_move (v := .bool _) rfl) ?_)
    refine wl_op rfl rfl (ow_vr (vr_move (v := .bool _) rfl) ?_)
    refine wl_known 31 rfl (c := false) (rfl) ?_
    refine wl_noD rfl rfl rfl rfl rfl rfl ?_
    refine wl_noD rfl rfl rfl rfl rfl rfl ?_
    refine wl_noD rfl rfl rfl rfl rfl rfl ?_
    refine wl_op rfl rfl (ow_vr (vr_pick (b := false) (v := .bool _) rfl rfl) ?_)
    refine wl_nil ?_
    refine hK8 _ _ ?_
    refine cw_cond_f rfl rfl (rfl) ?_
    refine cw_skip ?_
    refine hK6 _ _ ?_
    refine cw_seq fun K9 hK9 => ?_
    refine cw_region ?_
    refine wl_op rfl rfl (ow_vr (vr_move (v := .iface 98 (ptr b)) rfl) ?_)
    refine wl_nil ?_
    refine hK9 _ _ ?_
    refine cw_block ?_
    refine cw_seq fun K10 hK10 => ?_
    refine cw_region ?_
    refine wl_op rfl rfl (ow_vr (vr_assertI (b := true) rfl Tryd.underlying135 zr_135 (by kernel_rfl)) ?_)
    refine wl_op rfl rfl (ow_vr (vr_extract (v := .bool _) rfl rfl) ?_)
    refine wl_op rfl rfl (ow_vr (vr_extract (v := _) rfl rfl) ?_)
    refine wl_nil ?_
    refine hK10 _ _ ?_
    refine cw_cond_t rfl rfl (rfl) ?_
    refine cw_seq fun K11 hK11 => ?_
    refine cw_region ?_
    refine wl_op rfl rfl (ow_vr (vr_assign rfl) ?_)
    refine wl_nil ?_
    refine hK11 _ _ ?_
    refine cw_seq fun K12 hK12 => ?_
    refine cw_region ?_
    refine wl_op rfl rfl (ow_vr (vr_move rfl) ?_)
    refine wl_op rfl rfl (ow_invoke rfl (fun w => mUnwrap _ w) en_88 rfl ((seen_Unwrap hm2 E _ w hS (fun D hD => by simp at hD; subst hD; exact List.mem_cons_of_mem _ (List.mem_cons_of_mem _ hFe))).mono ?_))
    clear hS; rintro _ w ⟨_, ⟨rfl, rfl⟩, hS⟩; simp only [List.nil_append] at hS
    refine wl_op rfl rfl (ow_vr (vr_assign (v := .iface S2 (ptr b2)) rfl) ?_)
    refine wl_nil ?_
    refine hK12 _ _ ?_
    refine cw_seq fun K13 hK13 => ?_
    refine cw_region ?_
    refine wl_op rfl rfl (ow_vr (vr_move (v := .iface S2 (ptr b2)) rfl) ?_)
    refine wl_op rfl rfl (ow_vr (vr_eqnilI (v := .iface S2 (ptr b2)) Tryd.underlying62 rfl rfl) ?_)
    refine wl_nil ?_
    refine hK13 _ _ ?_
    refine cw_cond_f rfl rfl (rfl) ?_
    refine cw_skip ?_
    refine inB_normal (inB_normal (?_))
    refine thenF_normal ⟨_, ?_, S2, b2, Δ2, _, (reb (reb (reb (reb rfl rfl) rfl) rfl) rfl), ?_, rfl, hS⟩
    · simp
    · exact ⟨hv2, fun p hp => hsub p (List.mem_cons_of_mem _ hp)⟩
theorem errors_As {v : Value} {e : Int} {Δ G : Chunk} (hv : ErrV v e Δ) (hG : Glob G) {t : Nat} :
    FnM Tryd.prog 49 [v, .iface 103 (ptr t)] [[(t, .cells [.pointer none].toArray 101 (0, 0))]] [G, Δ] (fun u Δs => u = .bool true ∧ ∃ b a, Δs = [[(t, .cells [ptr b].toArray 101 (0, 0))]] ∧ (b, Obj.cells [.int .i64 e, .int .i64 a].toArray 79 (0, 0)) ∈ Δ) := by
  refine FnM.mk fun E F w hS hF => ?_
  have hFg : G ∈ F := hF _ (by simp)
  have hFe : Δ ∈ F := hF _ (by simp)
  obtain ⟨S0, b0, rfl, _⟩ := hv.shape
  obtain ⟨lg, Tg, frg, hmg, hlg⟩ := hG
  replace hS : Sat E ([(t, .cells [.pointer none].toArray 101 (0, 0))] :: F) w := hS
  refine returns_enter Tryd.func49 rfl Tryd.ntmps49 rfl ?_
  refine cw_seq fun K1 hK1 => ?_
  refine cw_region ?_
  refine wl_op rfl rfl (ow_vr (vr_assign (v := .bool false) rfl) ?_)
  refine wl_nil ?_
  refine hK1 _ _ ?_
  refine cw_seq fun K2 hK2 => ?_
  refine cw_seq fun K3 hK3 => ?_
  refine cw_region ?_
  refine wl_op rfl rfl (ow_vr (vr_move (v := .iface S0 (ptr b0)) rfl) ?_)
  refine wl_op rfl rfl (ow_vr (vr_eqnilI (v := .iface S0 (ptr b0)) Tryd.underlying62 rfl (by first | assumption | rfl)) ?_)
  refine wl_nil ?_
  refine hK3 _ _ ?_
  refine cw_cond_f rfl rfl (rfl) ?_
  refine cw_skip ?_
  refine hK2 _ _ ?_
  refine cw_seq fun K4 hK4 => ?_
  refine cw_seq fun K5 hK5 => ?_
  refine cw_region ?_
  refine wl_op rfl rfl (ow_vr (vr_move (v := .iface 103 (ptr t)) rfl) ?_)
  refine wl_op rfl rfl (ow_vr (vr_eqnilI (v := .iface 103 (ptr t)) Tryd.underlying20 rfl (by first | assumption | rfl)) ?_)
  refine wl_nil ?_
  refine hK5 _ _ ?_
  refine cw_cond_f rfl rfl (rfl) ?_
  refine cw_skip ?_
  refine hK4 _ _ ?_
  refine cw_seq fun K6 hK6 => ?_
  refine cw_region ?_
  refine wl_op rfl rfl (ow_vr (vr_move (v := .iface 103 (ptr t)) rfl) ?_)
  refine wl_op rfl rfl (ow_xValueOf hS rfl ?_)
  clear hS; intro q w hS
  refine wl_op rfl rfl (ow_alloc (z := .agg #[.pointer none, .pointer none, .int .u64 0]) (cs := [.pointer none, .pointer none, .int .u64 0]) hS zr_114 rfl ?_)
  clear hS; intro b5 w hS
  refine wl_op rfl rfl (ow_storeA (vs := [tyH 103, ptr q, .int .u64 150]) hS sz_114 rfl rfl rfl rfl Has.here (by simp) ?_)
  clear hS; intro w hS; simp only [putAt, List.set_cons_zero, List.set_cons_succ] at hS
  refine wl_nil ?_
  refine hK6 _ _ ?_
  refine cw_seq fun K7 hK7 => ?_
  refine cw_region ?_
  refine wl_op rfl rfl (ow_lr (S := Sat _ _) (lr_loadA (vs := [tyH 103, ptr q, .int .u64 150]) Tryd.underlying114 rfl sz_114 rfl Has.here rfl rfl) hS ?_)
  refine wl_op rfl rfl (ow_vr (vr_xType rfl) ?_)
  refine wl_op rfl rfl (ow_vr (vr_assign rfl) ?_)
  refine wl_nil ?_
  refine hK7 _ _ ?_
  refine cw_seq fun K8 hK8 => ?_
  refine cw_seq fun K9 hK9 => ?_
  refine cw_region ?_
  refine wl_op rfl rfl (ow_vr (vr_move rfl) ?_)
  refine wl_op rfl rfl (ow_vr (vr_xKind rfl rfl xKind1) ?_)
  refine wl_op rfl rfl (ow_vr (vr_neq rfl rfl) ?_)
  refine wl_op rfl rfl (ow_vr (vr_move (v := .bool _) rfl) ?_)
  refine wl_known 20 rfl (c := false) (rfl) ?_
  refine wl_yes rfl rfl rfl rfl rfl (ow_lr (S := Sat _ _) (lr_loadA (vs := [tyH 103, ptr q, .int .u64 150]) Tryd.underlying114 rfl sz_114 rfl Has.here rfl rfl) hS ?_)
  refine wl_yes rfl rfl rfl rfl rfl (ow_lr (S := Sat _ _) (lr_xIsNil rfl (List.mem_cons_of_mem _ List.mem_cons_self) (List.mem_singleton.2 rfl)) hS ?_)
  refine wl_op rfl rfl (ow_vr (vr_pick (b := false) (v := .bool _) rfl rfl) ?_)
  refine wl_nil ?_
  refine hK9 _ _ ?_
  refine cw_cond_f rfl rfl (rfl) ?_
  refine cw_skip ?_
  refine hK8 _ _ ?_
  refine cw_seq fun K10 hK10 => ?_
  refine cw_region ?_
  refine wl_op rfl rfl (ow_vr (vr_move rfl) ?_)
  refine wl_op rfl rfl (ow_vr (vr_xElemT rfl rfl) ?_)
  refine wl_op rfl rfl (ow_vr (vr_assign rfl) ?_)
  refine wl_nil ?_
  refine hK10 _ _ ?_
  refine cw_seq fun K11 hK11 => ?_
  refine cw_seq fun K12 hK12 => ?_
  refine cw_region ?_
  refine wl_op rfl rfl (ow_vr (vr_move rfl) ?_)
  refine wl_op rfl rfl (ow_vr (vr_xKind rfl rfl xKind2) ?_)
  refine wl_op rfl rfl (ow_vr (vr_neq rfl rfl) ?_)
  refine wl_op rfl rfl (ow_vr (vr_move (v := .bool _) rfl) ?_)
  refine wl_known 30 rfl (c := true) (rfl) ?_
  refine wl_yes rfl rfl rfl rfl rfl (ow_vr (vr_move rfl) ?_)
  refine wl_yes rfl rfl rfl rfl rfl (ow_lr (S := Sat _ _) (lr_loadM1 (v := handleE) Tryd.underlying117 rfl rfl (List.mem_cons_of_mem _ (List.mem_cons_of_mem _ (List.mem_cons_of_mem _ hFg))) hmg hlg) hS ?_)
  refine wl_yes rfl rfl rfl rfl rfl (ow_vr (vr_xImplements rfl rfl) ?_)
  refine wl_yes rfl rfl rfl rfl rfl (ow_vr (vr_not rfl) ?_)
  refine wl_op rfl rfl (ow_vr (vr_pick (b := true) (v := .bool _) rfl rfl) ?_)
  refine wl_nil ?_
  refine hK12 _ _ ?_
  refine cw_cond_f rfl rfl (rfl) ?_
  refine cw_skip ?_
  refine hK11 _ _ ?_
  refine cw_seq fun K13 hK13 => ?_
  replace hS := hS.front2
  refine cw_region ?_
  refine wl_op rfl rfl (ow_vr (vr_move (v := .iface S0 (ptr b0)) rfl) ?_)
  refine wl_op rfl rfl (ow_vr (vr_move (v := .iface 103 (ptr t)) rfl) ?_)
  refine wl_op rfl rfl (ow_lr (S := Sat _ _) (lr_loadA (vs := [tyH 103, ptr q, .int .u64 150]) Tryd.underlying114 rfl sz_114 rfl (Has.there Has.here) rfl rfl) hS ?_)
  refine wl_op rfl rfl (ow_vr (vr_move rfl) ?_)
  refine wl_op rfl rfl (ow_fnm (vs := [.iface S0 (ptr b0), .iface 103 (ptr t), valH 103 q 150, rtH 101]) en_61 rfl (by exact hS) (errors_as hv (Dq := [(q, .cells [ptr t].toArray 103 (0, 0))]) (List.mem_singleton.2 rfl)) (by intro D hD; simp at hD; rcases hD with rfl | rfl; exact List.mem_cons_of_mem _ List.mem_cons_self; exact List.mem_cons_of_mem _ (List.mem_cons_of_mem _ hFe)) ?_)
  clear hS; rintro _ _ w ⟨rfl, b, a, rfl, hba⟩ hS; simp only [List.cons_append, List.nil_append] at hS
  refine wl_op rfl rfl (ow_vr (vr_assign (v := .bool _) rfl) ?_)
  refine wl_nil ?_
  refine hK13 _ _ ?_
  refine cw_ret ?_
  refine ret_one (fn := Tryd.f49) (n := 42) (t := 4) (.inl rfl) rfl rfl ?_
  exact ⟨[_], ⟨rfl, b, a, rfl, hba⟩, hS.front1.tail1.front1.tail1⟩
theorem errors_As0 (t : Value) : FnV Tryd.prog 49 [.nilIface, t] (.bool false) := by
  refine FnV.mk fun E F w hS => ?_
  refine returns_enter Tryd.func49 rfl Tryd.ntmps49 rfl ?_
  refine cw_seq fun K1 hK1 => ?_
  refine cw_region ?_
  refine wl_op rfl rfl (ow_vr (vr_assign (v := .bool false) rfl) ?_)
  refine wl_nil ?_
  refine hK1 _ _ ?_
  refine cw_seq fun K2 hK2 => ?_
  refine cw_seq fun K3 hK3 => ?_
  refine cw_region ?_
  refine wl_op rfl rfl (ow_vr (vr_move (v := .nilIface) rfl) ?_)
  refine wl_op rfl rfl (ow_vr (vr_eqnilI (v := .nilIface) Tryd.underlying62 rfl (by first | assumption | rfl)) ?_)
  refine wl_nil ?_
  refine hK3 _ _ ?_
  refine cw_cond_t rfl rfl (rfl) ?_
  refine cw_seq fun K4 hK4 => ?_
  refine cw_region ?_
  refine wl_op rfl rfl (ow_vr (vr_assign (v := .bool false) rfl) ?_)
  refine wl_nil ?_
  refine hK4 _ _ ?_
  refine cw_ret ?_
  refine thenF_ret (?_)
  refine ret_one (fn := Tryd.f49) (n := 42) (t := 4) (.inl rfl) rfl rfl ?_
  exact ⟨rfl, hS⟩
theorem trap_first0 {Δ G : Chunk} : FnG Tryd.prog 36 [.nilIface] [G, Δ] (fun u Δs => ∃ a, u = .agg #[.int .i64 0, .int .i64 a] ∧ Δs = []) := by
  refine FnG.mk fun E F w hS hF => ?_
  refine returns_enter Tryd.func36 rfl Tryd.ntmps36 rfl ?_
  refine cw_seq fun K1 hK1 => ?_
  refine cw_region ?_
  refine wl_op rfl rfl (ow_alloc (cs := [_, _]) hS zr_79 rfl ?_)
  clear hS; intro b2 w hS
  refine wl_nil ?_
  refine hK1 _ _ ?_
  refine cw_seq fun K2 hK2 => ?_
  refine cw_region ?_
  refine wl_op rfl rfl (ow_alloc (z := .pointer none) (cs := [.pointer none]) hS zr_101 rfl ?_)
  clear hS; intro b3 w hS
  refine wl_nil ?_
  refine hK2 _ _ ?_
  refine cw_seq fun K3 hK3 => ?_
  refine cw_seq fun K4 hK4 => ?_
  refine cw_region ?_
  refine wl_op rfl rfl (ow_vr (vr_move (v := .nilIface) rfl) ?_)
  refine wl_op rfl rfl (ow_vr (vr_makeIface Tryd.underlying103 rfl rfl) ?_)
  refine wl_op rfl rfl (ow_fn (vs := [.nilIface, _]) en_49 rfl hS (errors_As0 _) ?_)
  clear hS; rintro v6 _ w ⟨rfl, rfl⟩ hS; (try simp only [List.cons_append, List.nil_append] at hS)
  refine wl_op rfl rfl (ow_vr (vr_not rfl) ?_)
  refine wl_op rfl rfl (ow_vr (vr_move (v := .bool _) rfl) ?_)
  refine wl_known 8 rfl (c := true) (rfl) ?_
  refine wl_noD rfl rfl rfl rfl rfl rfl ?_
  refine wl_noD rfl rfl rfl rfl rfl rfl ?_
  refine wl_op rfl rfl (ow_vr (vr_pick (b := true) (v := .bool _) rfl rfl) ?_)
  refine wl_nil ?_
  refine hK4 _ _ ?_
  refine cw_cond_t rfl rfl (rfl) ?_
  refine cw_seq fun K5 hK5 => ?_
  refine cw_region ?_
  refine wl_op rfl rfl (ow_vr (vr_build (vs := []) (cs := [.int .i64 _, .int .i64 _]) zr_79 pl_79 rfl rfl) ?_)
  refine wl_op rfl rfl (ow_storeA (vs := [.int .i64 _, .int .i64 _]) hS sz_79 rfl rfl rfl (by first | rfl | (simp only [List.all_cons, List.all_nil, Bool.and_true, Bool.and_eq_true]; repeat (first | refine ⟨by first | rfl | assumption, ?_⟩ | rfl | assumption))) (by first | exact Has.here | exact Has.there (Has.here) | exact Has.there (Has.there (Has.here)) | exact Has.there (Has.there (Has.there (Has.here))) | exact Has.there (Has.there (Has.there (Has.there (Has.here)))) | exact Has.there (Has.there (Has.there (Has.there (Has.there (Has.here))))) | exact Has.there (Has.there (Has.there (Has.there (Has.there (Has.there (Has.here)))))) | exact Has.there (Has.there (Has.there (Has.there (Has.there (Has.there (Has.there (Has.here)))))))) (by simp) ?_)
  clear hS; intro w hS; try simp only [putAt, List.set_cons_zero, List.set_cons_succ] at hS
  refine wl_nil ?_
  refine hK5 _ _ ?_
  refine cw_ret ?_
  refine thenF_ret (?_)
  refine ret_g1 (fn := Tryd.f36) (n := 16) (.inl rfl) rfl (RV.cellA (vs := [.int .i64 _, .int .i64 _]) hS rfl Tryd.underlying79 rfl sz_79 rfl (by first | exact Has.here | exact Has.there (Has.here) | exact Has.there (Has.there (Has.here)) | exact Has.there (Has.there (Has.there (Has.here))) | exact Has.there (Has.there (Has.there (Has.there (Has.here)))) | exact Has.there (Has.there (Has.there (Has.there (Has.there (Has.here))))) | exact Has.there (Has.there (Has.there (Has.there (Has.there (Has.there (Has.here)))))) | exact Has.there (Has.there (Has.there (Has.there (Has.there (Has.there (Has.there (Has.here)))))))) rfl rfl) ?_
  exact ⟨[], ⟨0, rfl, rfl⟩, hS.tail1.tail1⟩
theorem trap_firstV {v : Value} {e : Int} {Δ G : Chunk} (hv : ErrV v e Δ) (hG : Glob G) : FnG Tryd.prog 36 [v] [G, Δ] (fun u Δs => ∃ a, u = .agg #[.int .i64 e, .int .i64 a] ∧ Δs = []) := by
  refine FnG.mk fun E F w hS hF => ?_
  have hFg : G ∈ F := hF _ (by simp)
  have hFe : Δ ∈ F := hF _ (by simp)
  have hv1 := hv
  obtain ⟨S0, b0, rfl, _⟩ := hv1.shape
  refine returns_enter Tryd.func36 rfl Tryd.ntmps36 rfl ?_
  refine cw_seq fun K1 hK1 => ?_
  refine cw_region ?_
  refine wl_op rfl rfl (ow_alloc (cs := [_, _]) hS zr_79 rfl ?_)
  clear hS; intro b2 w hS
  refine wl_nil ?_
  refine hK1 _ _ ?_
  refine cw_seq fun K2 hK2 => ?_
  refine cw_region ?_
  refine wl_op rfl rfl (ow_alloc (z := .pointer none) (cs := [.pointer none]) hS zr_101 rfl ?_)
  clear hS; intro b3 w hS
  refine wl_nil ?_
  refine hK2 _ _ ?_
  refine cw_seq fun K3 hK3 => ?_
  refine cw_seq fun K4 hK4 => ?_
  refine cw_region ?_
  refine wl_op rfl rfl (ow_vr (vr_move (v := .iface S0 (ptr b0)) rfl) ?_)
  refine wl_op rfl rfl (ow_vr (vr_makeIface Tryd.underlying103 rfl rfl) ?_)
  refine wl_op rfl rfl (ow_fnm (vs := [.iface S0 (ptr b0), .iface 103 (ptr b3)]) en_49 rfl hS (errors_As hv hG) (by intro D hD; simp at hD; rcases hD with rfl | rfl; exact List.mem_cons_of_mem _ hFg; exact List.mem_cons_of_mem _ hFe) ?_)
  clear hS; rintro _ _ w ⟨rfl, b, a, rfl, hba⟩ hS; simp only [List.cons_append, List.nil_append] at hS
  refine wl_op rfl rfl (ow_vr (vr_not rfl) ?_)
  refine wl_op rfl rfl (ow_vr (vr_move (v := .bool _) rfl) ?_)
  refine wl_known 8 rfl (c := false) (rfl) ?_
  refine wl_yes rfl rfl rfl rfl rfl (ow_lr (S := Sat _ _) (lr_load1 Tryd.underlying101 rfl rfl (by first | exact Has.here | exact Has.there (Has.here) | exact Has.there (Has.there (Has.here)) | exact Has.there (Has.there (Has.there (Has.here))) | exact Has.there (Has.there (Has.there (Has.there (Has.here)))) | exact Has.there (Has.there (Has.there (Has.there (Has.there (Has.here))))) | exact Has.there (Has.there (Has.there (Has.there (Has.there (Has.there (Has.here)))))) | exact Has.there (Has.there (Has.there (Has.there (Has.there (Has.there (Has.there (Has.here)))))))) rfl) hS ?_)
  refine wl_yes rfl rfl rfl rfl rfl (ow_vr (vr_eqnil Tryd.underlying101 rfl) ?_)
  refine wl_op rfl rfl (ow_vr (vr_pick (b := false) (v := .bool _) rfl rfl) ?_)
  refine wl_nil ?_
  refine hK4 _ _ ?_
  refine cw_cond_f rfl rfl (rfl) ?_
  refine cw_skip ?_
  refine hK3 _ _ ?_
  refine cw_seq fun K5 hK5 => ?_
  refine cw_region ?_
  refine wl_op rfl rfl (ow_lr (S := Sat _ _) (lr_load1 Tryd.underlying101 rfl rfl (by first | exact Has.here | exact Has.there (Has.here) | exact Has.there (Has.there (Has.here)) | exact Has.there (Has.there (Has.there (Has.here))) | exact Has.there (Has.there (Has.there (Has.there (Has.here)))) | exact Has.there (Has.there (Has.there (Has.there (Has.there (Has.here))))) | exact Has.there (Has.there (Has.there (Has.there (Has.there (Has.there (Has.here)))))) | exact Has.there (Has.there (Has.there (Has.there (Has.there (Has.there (Has.there (Has.here)))))))) rfl) hS ?_)
  refine wl_op rfl rfl (ow_vr (vr_nilCheck rfl) ?_)
  refine wl_op rfl rfl (ow_lr (S := Sat _ _) (lr_loadMA (vs := [.int .i64 e, .int .i64 a]) Tryd.underlying79 rfl sz_79 rfl (List.mem_cons_of_mem _ (List.mem_cons_of_mem _ hFe)) hba rfl rfl) hS ?_)
  refine wl_op rfl rfl (ow_storeA (vs := [.int .i64 _, .int .i64 _]) hS sz_79 rfl rfl rfl (by first | rfl | (simp only [List.all_cons, List.all_nil, Bool.and_true, Bool.and_eq_true]; repeat (first | refine ⟨by first | rfl | assumption, ?_⟩ | rfl | assumption))) (by first | exact Has.here | exact Has.there (Has.here) | exact Has.there (Has.there (Has.here)) | exact Has.there (Has.there (Has.there (Has.here))) | exact Has.there (Has.there (Has.there (Has.there (Has.here)))) | exact Has.there (Has.there (Has.there (Has.there (Has.there (Has.here))))) | exact Has.there (Has.there (Has.there (Has.there (Has.there (Has.there (Has.here)))))) | exact Has.there (Has.there (Has.there (Has.there (Has.there (Has.there (Has.there (Has.here)))))))) (by simp) ?_)
  clear hS; intro w hS; try simp only [putAt, List.set_cons_zero, List.set_cons_succ] at hS
  refine wl_nil ?_
  refine hK5 _ _ ?_
  refine cw_ret ?_
  refine ret_g1 (fn := Tryd.f36) (n := 16) (.inl rfl) rfl (RV.cellA (vs := [.int .i64 _, .int .i64 _]) hS rfl Tryd.underlying79 rfl sz_79 rfl (by first | exact Has.here | exact Has.there (Has.here) | exact Has.there (Has.there (Has.here)) | exact Has.there (Has.there (Has.there (Has.here))) | exact Has.there (Has.there (Has.there (Has.there (Has.here)))) | exact Has.there (Has.there (Has.there (Has.there (Has.there (Has.here))))) | exact Has.there (Has.there (Has.there (Has.there (Has.there (Has.there (Has.here)))))) | exact Has.there (Has.there (Has.there (Has.there (Has.there (Has.there (Has.there (Has.here)))))))) rfl rfl) ?_
  exact ⟨[], ⟨a, rfl, rfl⟩, hS.tail1.tail1⟩
theorem trap_first {v : Value} {e : Int} {Δ G : Chunk} (hv : ErrO v e Δ) (hG : Glob G) : FnG Tryd.prog 36 [v] [G, Δ] (fun u Δs => ∃ a, u = .agg #[.int .i64 e, .int .i64 a] ∧ Δs = []) := by
  rcases hv with ⟨rfl, rfl, rfl⟩ | hv
  · exact trap_first0
  · exact trap_firstV hv hG
theorem trap_Errno {v : Value} {e : Int} {Δ G : Chunk} (hv : ErrO v e Δ) (hG : Glob G) : FnG Tryd.prog 23 [v] [G, Δ] (fun u Δs => u = .int .i64 e ∧ Δs = []) := by
  refine FnG.mk fun E F w hS hF => ?_
  have hFg : G ∈ F := hF _ (by simp)
  have hFe : Δ ∈ F := hF _ (by simp)
  refine returns_enter Tryd.func23 rfl Tryd.ntmps23 rfl ?_
  refine cw_seq fun K1 hK1 => ?_
  refine cw_region ?_
  refine wl_op rfl rfl (ow_vr (vr_assign (v := .int .i64 0) rfl) ?_)
  refine wl_nil ?_
  refine hK1 _ _ ?_
  refine cw_seq fun K2 hK2 => ?_
  refine cw_region ?_
  refine wl_op rfl rfl (ow_vr (vr_move (v := v) rfl) ?_)
  refine wl_op rfl rfl (ow_fng (vs := [v]) en_36 rfl hS (trap_first hv hG) (by repeat (first | exact needs0 | (refine needsC ?_ ?_; · (repeat (first | exact List.mem_cons_self | assumption | refine List.mem_cons_of_mem _ ?_))))) ?_)
  clear hS; rintro v4 _ w ⟨a, rfl, rfl⟩ hS; (try simp only [List.cons_append, List.nil_append] at hS)
  refine wl_op rfl rfl (ow_vr (vr_field (v := .int .i64 e) rfl Tryd.underlying79 rfl Tryd.underlying28 rfl rfl) ?_)
  refine wl_op rfl rfl (ow_vr (vr_assign (v := .int .i64 _) rfl) ?_)
  refine wl_nil ?_
  refine hK2 _ _ ?_
  refine cw_ret ?_
  refine ret_one (fn := Tryd.f23) (n := 6) (t := 2) (.inl rfl) rfl rfl ?_
  exact ⟨[], ⟨rfl, rfl⟩, hS⟩
end Go.Proofs.YtjcagoighpmdkaaDoor
