/- errors.As at a *trap.Trap's variable; trap.first, trap.Errno. -/
import Derived.Test.YtjcagoighpmdkaaGreatDoorErr
namespace Go.Proofs.YtjcagoighpmdkaaGreatDoor
open Go Go.RowKit Go.Extern.Stop Go.Stop Go.Extern
set_option linter.unusedVariables false
set_option linter.unusedSimpArgs false
abbrev tyH (T : Nat) : Value := .pointer (some ⟨2, T, none⟩)
abbrev valH (T q : Nat) (fl : Int) : Value := .agg #[tyH T, ptr q, .int .u64 fl]
abbrev rtH (T : Nat) : Value := .iface 168 (.agg #[tyH T])
section
variable {E : World} {Γ : List Chunk} {f : Nat → Value} {w : World} {K : (Nat → Value) → World → Prop} {d : Nat} {ty : TypeId} {pos : String} {af : Array Edge} {g : Option (Nat × Bool)} {args : Array Operand} {ats : Array TypeId}
theorem ow_xValueOf {t : Nat} (hS : Sat E Γ w) (ha : args.toList.map (ev f) = [.iface 134 (ptr t)])
    (h : ∀ q w', Sat E ([(q, .cells [ptr t].toArray 134 (0, 0))] :: Γ) w' → K (upd f d (valH 134 q 150)) w') : OW Tryz.prog ⟨some d, .call ⟨.value (.func 97), args, ats⟩, ty, pos, af, g⟩ f w K :=
  ow_extern (ext := fun args => ReflectliteValue.unpack (args.getD 0 (.tuple #[]))) Tryz.func97 (by kernel_rfl) (by kernel_rfl) (by kernel_rfl) (by kernel_rfl) ha (xValueOf _ w) (h _ _ (hS.alloc _))
theorem ow_xValueOfT {t : Nat} (hS : Sat E Γ w) (ha : args.toList.map (ev f) = [.iface 132 (ptr t)])
    (h : ∀ q w', Sat E ([(q, .cells [ptr t].toArray 132 (0, 0))] :: Γ) w' → K (upd f d (valH 132 q 150)) w') : OW Tryz.prog ⟨some d, .call ⟨.value (.func 97), args, ats⟩, ty, pos, af, g⟩ f w K :=
  ow_extern (ext := fun args => ReflectliteValue.unpack (args.getD 0 (.tuple #[]))) Tryz.func97 (by kernel_rfl) (by kernel_rfl) (by kernel_rfl) (by kernel_rfl) ha (xValueOfT _ w) (h _ _ (hS.alloc _))
theorem vr_xType {q : Nat} (ha : args.toList.map (ev f) = [valH 134 q 150]) : VR Tryz.prog f ⟨some d, .call ⟨.value (.func 98), args, ats⟩, ty, pos, af, g⟩ (rtH 134) :=
  vr_extern (ext := ReflectliteValue.methodAny (ReflectliteValue.valueError "reflectlite.Value.Type" 0) (fun t _ _ _ => ReflectliteType.toType t)) Tryz.func98 (by kernel_rfl) (by kernel_rfl) (by kernel_rfl) (by kernel_rfl) ha (fun w => xType _ w)
theorem lr_xIsNil {q t : Nat} {T : TypeId} {fr : Nat × Nat} {D : Chunk} (ha : args.toList.map (ev f) = [valH 134 q 150]) (hD : D ∈ Γ) (hm : (q, Obj.cells [ptr t].toArray T fr) ∈ D) : LR Tryz.prog (Sat E Γ) f ⟨some d, .call ⟨.value (.func 99), args, ats⟩, ty, pos, af, g⟩ (.bool false) :=
  lr_extern (ext := ReflectliteValue.method (ReflectliteValue.valueError "reflectlite.Value.IsNil" 0) ReflectliteValue.isNil) Tryz.func99 (by kernel_rfl) (by kernel_rfl) (by kernel_rfl) (by kernel_rfl) ha
    (fun w hS => xIsNil _ ⟨t, 0, none⟩ w (cell_at (l := [ptr t]) (hS.mem _ (List.mem_flatten.2 ⟨D, hD, hm⟩))))
theorem lr_xElem {q t : Nat} {T : TypeId} {fr : Nat × Nat} {D : Chunk} (ha : args.toList.map (ev f) = [valH 134 q 150]) (hD : D ∈ Γ) (hm : (q, Obj.cells [ptr t].toArray T fr) ∈ D) : LR Tryz.prog (Sat E Γ) f ⟨some d, .call ⟨.value (.func 107), args, ats⟩, ty, pos, af, g⟩ (valH 132 t 406) :=
  lr_extern (ext := ReflectliteValue.method (ReflectliteValue.valueError "reflectlite.Value.Elem" 0) ReflectliteValue.elem) Tryz.func107 (by kernel_rfl) (by kernel_rfl) (by kernel_rfl) (by kernel_rfl) ha
    (fun w hS => xElemV _ ⟨t, 0, none⟩ w (cell_at (l := [ptr t]) (hS.mem _ (List.mem_flatten.2 ⟨D, hD, hm⟩))))
theorem vr_xKind {x : Operand} {T : Nat} (hx : ev f x = rtH T) (h0 : args = #[]) (hk : ∀ w, ((ReflectliteType.abiMethod fun t => (fun a : Nat => Value.int IntKind.u8 (a : Int)) <$> Rtype.kind t) #[tyH T]).run Tryz.prog w = .ok (.int .u8 22) w) :
    VR Tryz.prog f ⟨some d, .call ⟨.invoke x "Kind", args, ats⟩, ty, pos, af, g⟩ (.int .u8 22) :=
  vr_invokeX (ext := ReflectliteType.abiMethod fun t => do pure (.int .u8 (← Rtype.kind t))) (vs := []) hx (fun w => mKind _ w) Tryz.func125 (by kernel_rfl) (by kernel_rfl) (by kernel_rfl) (by kernel_rfl) (by subst h0; rfl) hk
theorem vr_xElemT {x : Operand} (hx : ev f x = rtH 134) (h0 : args = #[]) :
    VR Tryz.prog f ⟨some d, .call ⟨.invoke x "Elem", args, ats⟩, ty, pos, af, g⟩ (rtH 132) :=
  vr_invokeX (ext := ReflectliteType.method ReflectliteType.elem) (vs := []) hx (fun w => mElem _ w) Tryz.func139 (by kernel_rfl) (by kernel_rfl) (by kernel_rfl) (by kernel_rfl) (by subst h0; rfl) (fun w => xElem w)
theorem vr_xImplements {x : Operand} (hx : ev f x = rtH 132) (ha : args.toList.map (ev f) = [handleE]) :
    VR Tryz.prog f ⟨some d, .call ⟨.invoke x "Implements", args, ats⟩, ty, pos, af, g⟩ (.bool true) :=
  vr_invokeX (ext := ReflectliteType.relation "Implements" ReflectliteType.implements_) (vs := [handleE]) hx (fun w => mImplements _ w) Tryz.func140 (by kernel_rfl) (by kernel_rfl) (by kernel_rfl) (by kernel_rfl) ha (fun w => xImplements w)
theorem vr_xTypeOf {T b : Nat} (hT : T = 132 ∨ T = 129) (ha : args.toList.map (ev f) = [.iface T (ptr b)]) : VR Tryz.prog f ⟨some d, .call ⟨.value (.func 106), args, ats⟩, ty, pos, af, g⟩ (rtH T) :=
  vr_extern (ext := ReflectliteType.typeOf) Tryz.func106 (by kernel_rfl) (by kernel_rfl) (by kernel_rfl) (by kernel_rfl) ha (fun w => by rcases hT with rfl | rfl; exact xTypeOf1 _ w; exact xTypeOf2 _ w)
theorem vr_xAssignable {x : Operand} {T : Nat} (hT : T = 132 ∨ T = 129) (hx : ev f x = rtH T) (ha : args.toList.map (ev f) = [rtH 132]) :
    VR Tryz.prog f ⟨some d, .call ⟨.invoke x "AssignableTo", args, ats⟩, ty, pos, af, g⟩ (.bool (decide (T = 132))) :=
  vr_invokeX (ext := ReflectliteType.relation "AssignableTo" ReflectliteType.assignableTo) (vs := [rtH 132]) hx (fun w => mAssignableTo _ w) Tryz.func137 (by kernel_rfl) (by kernel_rfl) (by kernel_rfl) (by kernel_rfl) ha (fun w => by rcases hT with rfl | rfl; exact xAssignable1 w; exact xAssignable2 w)
theorem ow_xSet {t q e : Nat} {T : TypeId} {fr : Nat × Nat} {T' : TypeId} {old : Value} {D : Chunk} {U : Obj → List Chunk} (hS : Sat E Γ w) (ha : args.toList.map (ev f) = [valH 132 t 406, valH 132 q 150]) (hD : D ∈ Γ) (hm : (q, Obj.cells [ptr e].toArray T fr) ∈ D) (hH : Has Γ t (.cells [old].toArray T' (0, 0)) U)
    (h : ∀ w', Sat E (U (.cells [ptr e].toArray T' (0, 0))) w' → K (upd f d (.tuple #[])) w') : OW Tryz.prog ⟨some d, .call ⟨.value (.func 108), args, ats⟩, ty, pos, af, g⟩ f w K :=
  ow_extern (ext := ReflectliteValue.set) Tryz.func108 (by kernel_rfl) (by kernel_rfl) (by kernel_rfl) (by kernel_rfl) ha
    (xSet ⟨t, 0, none⟩ ⟨q, 0, none⟩ ⟨e, 0, none⟩ old w (cell_at (l := [ptr e]) (hS.mem _ (List.mem_flatten.2 ⟨D, hD, hm⟩))) (cell_at (l := [old]) (hH.get hS)) (frozen_at (l := [old]) (hH.get hS))) (h _ (hS.setCell (off := 0) hH (ptr e)))
end
attribute [local irreducible] actF WL CW OW PL SW VR LR yes Returns Fn
theorem seen_Unwrap {b : Nat} {s : List UInt8} {v : Value} {D : Chunk} (hm : (b, Obj.cells [str s, v].toArray 131 (0, 0)) ∈ D) : FnG Tryz.prog 130 [ptr b] [D] (fun u Δs => u = v ∧ Δs = []) := by
  refine FnG.mk fun E F w hS hF => ?_
  have hD : D ∈ F := hF _ (by simp)
  refine returns_enter Tryz.func130 rfl Tryz.ntmps130 rfl ?_
  refine cw_seq fun K1 hK1 => ?_
  refine cw_region ?_
  refine wl_op rfl rfl (ow_vr (vr_assign (v := .nilIface) rfl) ?_)
  refine wl_nil ?_
  refine hK1 _ _ ?_
  refine cw_seq fun K2 hK2 => ?_
  refine cw_region ?_
  refine wl_op rfl rfl (ow_vr (vr_move (v := .pointer _) rfl) ?_)
  refine wl_op rfl rfl (ow_vr (vr_nilCheck rfl) ?_)
  first | (refine wl_op rfl rfl (ow_vr (vr_fieldAddr fo_131_1 rfl) ?_)) | (refine wl_op rfl rfl (ow_vr (vr_fieldAddrV fo_131_1 rfl (by first | assumption | (refine Own.view ?_ (by assumption); exact fun _ => rfl) | exact OwnB.view (by assumption)) (by first | omega | (simp <;> omega))) ?_))
  refine wl_op rfl rfl (ow_lr (S := Sat _ _) (lr_loadM1 (v := v) Tryz.underlying67 rfl rfl hD hm rfl) hS ?_)
  refine wl_op rfl rfl (ow_vr (vr_assign (v := v) rfl) ?_)
  refine wl_nil ?_
  refine hK2 _ _ ?_
  refine cw_ret ?_
  refine ret_one (fn := Tryz.f130) (n := 7) (t := 2) (.inl rfl) rfl rfl ?_
  exact ⟨[], ⟨rfl, rfl⟩, hS⟩
theorem errors_as {v : Value} {e : Int} {Δ : Chunk} (hv : ErrV v e Δ) {t q : Nat} {T : TypeId} {fr : Nat × Nat} {Dq : Chunk} (hq : (q, Obj.cells [ptr t].toArray T fr) ∈ Dq) :
    FnM Tryz.prog 100 [v, .iface 134 (ptr t), valH 134 q 150, rtH 132] [[(t, .cells [.pointer none].toArray 132 (0, 0))]] [Dq, Δ] (fun u Δs => u = .bool true ∧ ∃ b a, Δs = [[(t, .cells [ptr b].toArray 132 (0, 0))]] ∧ (b, Obj.cells [.int .i64 e, .int .i64 a].toArray 102 (0, 0)) ∈ Δ) := by
  refine FnM.mk fun E F w hS hF => ?_
  have hFq : Dq ∈ F := hF _ (by simp)
  have hFe : Δ ∈ F := hF _ (by simp)
  obtain ⟨S0, b0, rfl, _⟩ := hv.shape
  replace hS : Sat E ([(t, .cells [.pointer none].toArray 132 (0, 0))] :: F) w := hS
  refine returns_enter Tryz.func100 rfl Tryz.ntmps100 rfl ?_
  refine cw_seq fun K1 hK1 => ?_
  refine cw_region ?_
  refine wl_op rfl rfl (ow_box (v := valH 134 q 150) (cs := [tyH 134, ptr q, .int .u64 150]) hS rfl rfl ?_)
  clear hS; intro b6 w hS
  refine wl_op rfl rfl (ow_vr (vr_assign (v := .bool false) rfl) ?_)
  refine wl_nil ?_
  refine hK1 _ _ ?_
  refine cw_block ?_
  refine cw_loop (fun m f w => ∃ (S : Nat) (b : Nat) (Δ' : Chunk) (g : Nat → Value), f = (upd (upd (upd (upd g 0 (.iface S (ptr b))) 1 (.iface 134 (ptr t))) 3 (rtH 132)) 6 (ptr b6)) ∧ (ErrV (.iface S (ptr b)) e Δ' ∧ ∀ p ∈ Δ', p ∈ Δ) ∧ m = Δ'.length ∧ Sat E ([(b6, .cells [tyH 134, ptr q, .int .u64 150].toArray 152 (0, 0))] :: [(t, .cells [.pointer none].toArray 132 (0, 0))] :: F) w) ⟨S0, b0, Δ, _, (reb (reb (reb (reb rfl rfl) rfl) rfl) rfl), ?_, rfl, hS⟩ ?_
  · exact ⟨hv, fun _ h => h⟩
  clear hS; rintro m f w ⟨S, b, Δ', g, rfl, hI0, rfl, hS⟩
  obtain ⟨hv', hsub⟩ := hI0
  obtain ⟨S', b', hEq, hsh⟩ := hv'.shape
  obtain ⟨rfl, rfl⟩ : S = S' ∧ b = b' := by cases hEq; exact ⟨rfl, rfl⟩
  clear hEq
  have hSS : S = 132 ∨ S = 129 := by rcases hsh with ⟨h, _⟩ | ⟨h, _⟩; exact .inl h; exact .inr h
  refine cw_block ?_
  refine cw_seq fun K2 hK2 => ?_
  refine cw_seq fun K3 hK3 => ?_
  refine cw_region ?_
  refine wl_op rfl rfl (ow_vr (vr_move (v := .iface S (ptr b)) rfl) ?_)
  refine wl_op rfl rfl (ow_vr (vr_xTypeOf hSS rfl) ?_)
  refine wl_op rfl rfl (ow_vr (vr_move (v := (rtH 132)) rfl) ?_)
  refine wl_op rfl rfl (ow_vr (vr_xAssignable hSS rfl rfl) ?_)
  refine wl_nil ?_
  refine hK3 _ _ ?_
  refine cw_cond rfl rfl (fun hc => ?_) (fun hc => ?_)
  · (try simp only [decide_eq_true_eq, decide_eq_false_iff_not, Bool.not_eq_true, Bool.not_eq_false, Bool.not_eq_true', Bool.not_eq_false', Bool.and_eq_true, Bool.or_eq_true, Bool.and_eq_false_iff, Bool.or_eq_false_iff, Int.not_lt, Int.not_le, gt_iff_lt, ge_iff_le, ne_eq, Decidable.not_not, beq_iff_eq] at hc)
    have hT := hc; clear hc
    refine cw_seq fun K4 hK4 => ?_
    obtain rfl : S = 132 := by simpa using hT
    obtain ⟨a, hΔ⟩ : ∃ a, Δ' = [(b, .cells [.int .i64 e, .int .i64 a].toArray 102 (0, 0))] := by
      rcases hsh with ⟨_, h⟩ | ⟨h, _⟩
      · exact h
      · cases h
    refine cw_region ?_
    refine wl_op rfl rfl (ow_lr (S := Sat _ _) (lr_loadA (vs := [tyH 134, ptr q, .int .u64 150]) Tryz.underlying152 rfl sz_152 rfl Has.here rfl rfl) hS ?_)
    refine wl_op rfl rfl (ow_lr (S := Sat _ _) (lr_xElem rfl (List.mem_cons_of_mem _ (List.mem_cons_of_mem _ hFq)) hq) hS ?_)
    refine wl_op rfl rfl (ow_vr (vr_move (v := .iface 132 (ptr b)) rfl) ?_)
    refine wl_op rfl rfl (ow_xValueOfT hS rfl ?_)
    clear hS; intro q23 w hS
    refine wl_op rfl rfl (ow_xSet hS rfl List.mem_cons_self (List.mem_singleton.2 rfl) (Has.there (Has.there Has.here)) ?_)
    clear hS; intro w hS
    refine wl_nil ?_
    refine hK4 _ _ ?_
    refine cw_seq fun K5 hK5 => ?_
    refine cw_region ?_
    refine wl_op rfl rfl (ow_vr (vr_assign (v := .bool true) rfl) ?_)
    refine wl_nil ?_
    refine hK5 _ _ ?_
    refine cw_ret ?_
    refine thenF_ret (inB_ret (thenF_ret (inB_ret (?_))))
    refine ret_one (fn := Tryz.f100) (n := 62) (t := 8) (.inl rfl) rfl rfl ?_
    exact ⟨[_], ⟨rfl, b, a, rfl, hsub _ (by rw [hΔ]; simp)⟩, hS.tail1.tail1⟩
  · (try simp only [decide_eq_true_eq, decide_eq_false_iff_not, Bool.not_eq_true, Bool.not_eq_false, Bool.not_eq_true', Bool.not_eq_false', Bool.and_eq_true, Bool.or_eq_true, Bool.and_eq_false_iff, Bool.or_eq_false_iff, Int.not_lt, Int.not_le, gt_iff_lt, ge_iff_le, ne_eq, Decidable.not_not, beq_iff_eq] at hc)
    have hT := hc; clear hc
    refine cw_skip ?_
    refine hK2 _ _ ?_
    refine cw_seq fun K6 hK6 => ?_
    refine cw_seq fun K7 hK7 => ?_
    obtain rfl : S = 129 := by rcases hSS with rfl | rfl; exact absurd rfl hT; rfl
    obtain ⟨s, v2, Δ2, rfl, hv2⟩ : ∃ s v2 Δ2, Δ' = (b, .cells [str s, v2].toArray 131 (0, 0)) :: Δ2 ∧ ErrV v2 e Δ2 := by
      rcases hsh with ⟨h, _⟩ | ⟨_, h⟩
      · cases h
      · exact h
    have hm2 : (b, Obj.cells [str s, v2].toArray 131 (0, 0)) ∈ Δ := hsub _ (by simp)
    obtain ⟨S2, b2, rfl, _⟩ := hv2.shape
    refine cw_region ?_
    refine wl_op rfl rfl (ow_vr (vr_move (v := .iface 129 (ptr b)) rfl) ?_)
    refine wl_op rfl rfl (ow_vr (vr_assertI (b := false) rfl Tryz.underlying173 zr_173 (by kernel_rfl)) ?_)
    refine wl_op rfl rfl (ow_vr (vr_move (v := .tuple _) rfl) ?_)
    refine wl_op rfl rfl (ow_vr (vr_extract (v := _) rfl rfl) ?_)
    refine wl_op rfl rfl (ow_vr (vr_extract (v := .bool _) rfl rfl) ?_)
    refine wl_op rfl rfl (ow_vr (vr_assign rfl) ?_)
    refine wl_op rfl rfl (ow_vr (vr_assign (v := .bool _) rfl) ?_)
    refine wl_nil ?_
    refine hK7 _ _ ?_
    refine cw_seq fun K8 hK8 => ?_
    refine cw_region ?_
    refine wl_op rfl rfl (ow_vr (vr_move (v := .bool _) rfl) ?_)
    refine wl_op rfl rfl (ow_vr (vr_move (v := .bool _) rfl) ?_)
    refine wl_known 31 rfl (c := false) (rfl) ?_
    refine wl_noD rfl rfl rfl rfl rfl rfl ?_
    refine wl_noD rfl rfl rfl rfl rfl rfl ?_
    refine wl_noD rfl rfl rfl rfl rfl rfl ?_
    refine wl_op rfl rfl (ow_vr (vr_pick (b := false) (v := .bool _) rfl rfl) ?_)
    refine wl_nil ?_
    refine hK8 _ _ ?_
    refine cw_cond_f rfl rfl (rfl) ?_
    refine cw_skip ?_
    refine hK6 _ _ ?_
    refine cw_seq fun K9 hK9 => ?_
    refine cw_region ?_
    refine wl_op rfl rfl (ow_vr (vr_move (v := .iface 129 (ptr b)) rfl) ?_)
    refine wl_nil ?_
    refine hK9 _ _ ?_
    refine cw_block ?_
    refine cw_seq fun K10 hK10 => ?_
    refine cw_region ?_
    refine wl_op rfl rfl (ow_vr (vr_assertI (b := true) rfl Tryz.underlying176 zr_176 (by kernel_rfl)) ?_)
    refine wl_op rfl rfl (ow_vr (vr_extract (v := .bool _) rfl rfl) ?_)
    refine wl_op rfl rfl (ow_vr (vr_extract (v := _) rfl rfl) ?_)
    refine wl_nil ?_
    refine hK10 _ _ ?_
    refine cw_cond_t rfl rfl (rfl) ?_
    refine cw_seq fun K11 hK11 => ?_
    refine cw_region ?_
    refine wl_op rfl rfl (ow_vr (vr_assign rfl) ?_)
    refine wl_nil ?_
    refine hK11 _ _ ?_
    refine cw_seq fun K12 hK12 => ?_
    refine cw_region ?_
    refine wl_op rfl rfl (ow_vr (vr_move rfl) ?_)
    refine wl_op rfl rfl (ow_invoke rfl (fun w => mUnwrap _ w) en_130 rfl ((seen_Unwrap hm2 E _ w hS (fun D hD => by simp at hD; subst hD; exact List.mem_cons_of_mem _ (List.mem_cons_of_mem _ hFe))).mono ?_))
    clear hS; rintro _ w ⟨_, ⟨rfl, rfl⟩, hS⟩; simp only [List.nil_append] at hS
    refine wl_op rfl rfl (ow_vr (vr_assign (v := .iface S2 (ptr b2)) rfl) ?_)
    refine wl_nil ?_
    refine hK12 _ _ ?_
    refine cw_seq fun K13 hK13 => ?_
    refine cw_region ?_
    refine wl_op rfl rfl (ow_vr (vr_move (v := .iface S2 (ptr b2)) rfl) ?_)
    refine wl_op rfl rfl (ow_vr (vr_eqnilI (v := .iface S2 (ptr b2)) Tryz.underlying67 rfl rfl) ?_)
    refine wl_nil ?_
    refine hK13 _ _ ?_
    refine cw_cond_f rfl rfl (rfl) ?_
    refine cw_skip ?_
    refine inB_normal (inB_normal (?_))
    refine thenF_normal ⟨_, ?_, S2, b2, Δ2, _, (reb (reb (reb (reb rfl rfl) rfl) rfl) rfl), ?_, rfl, hS⟩
    · simp
    · exact ⟨hv2, fun p hp => hsub p (List.mem_cons_of_mem _ hp)⟩
theorem errors_As {v : Value} {e : Int} {Δ G : Chunk} (hv : ErrV v e Δ) (hG : Glob G) {t : Nat} :
    FnM Tryz.prog 86 [v, .iface 134 (ptr t)] [[(t, .cells [.pointer none].toArray 132 (0, 0))]] [G, Δ] (fun u Δs => u = .bool true ∧ ∃ b a, Δs = [[(t, .cells [ptr b].toArray 132 (0, 0))]] ∧ (b, Obj.cells [.int .i64 e, .int .i64 a].toArray 102 (0, 0)) ∈ Δ) := by
  refine FnM.mk fun E F w hS hF => ?_
  have hFg : G ∈ F := hF _ (by simp)
  have hFe : Δ ∈ F := hF _ (by simp)
  obtain ⟨S0, b0, rfl, _⟩ := hv.shape
  obtain ⟨lg, Tg, frg, hmg, hlg⟩ := hG
  replace hS : Sat E ([(t, .cells [.pointer none].toArray 132 (0, 0))] :: F) w := hS
  refine returns_enter Tryz.func86 rfl Tryz.ntmps86 rfl ?_
  refine cw_seq fun K1 hK1 => ?_
  refine cw_region ?_
  refine wl_op rfl rfl (ow_vr (vr_assign (v := .bool false) rfl) ?_)
  refine wl_nil ?_
  refine hK1 _ _ ?_
  refine cw_seq fun K2 hK2 => ?_
  refine cw_seq fun K3 hK3 => ?_
  refine cw_region ?_
  refine wl_op rfl rfl (ow_vr (vr_move (v := .iface S0 (ptr b0)) rfl) ?_)
  refine wl_op rfl rfl (ow_vr (vr_eqnilI (v := .iface S0 (ptr b0)) Tryz.underlying67 rfl (by first | assumption | rfl)) ?_)
  refine wl_nil ?_
  refine hK3 _ _ ?_
  refine cw_cond_f rfl rfl (rfl) ?_
  refine cw_skip ?_
  refine hK2 _ _ ?_
  refine cw_seq fun K4 hK4 => ?_
  refine cw_seq fun K5 hK5 => ?_
  refine cw_region ?_
  refine wl_op rfl rfl (ow_vr (vr_move (v := .iface 134 (ptr t)) rfl) ?_)
  refine wl_op rfl rfl (ow_vr (vr_eqnilI (v := .iface 134 (ptr t)) Tryz.underlying20 rfl (by first | assumption | rfl)) ?_)
  refine wl_nil ?_
  refine hK5 _ _ ?_
  refine cw_cond_f rfl rfl (rfl) ?_
  refine cw_skip ?_
  refine hK4 _ _ ?_
  refine cw_seq fun K6 hK6 => ?_
  refine cw_region ?_
  refine wl_op rfl rfl (ow_vr (vr_move (v := .iface 134 (ptr t)) rfl) ?_)
  refine wl_op rfl rfl (ow_xValueOf hS rfl ?_)
  clear hS; intro q w hS
  refine wl_op rfl rfl (ow_alloc (z := .agg #[.pointer none, .pointer none, .int .u64 0]) (cs := [.pointer none, .pointer none, .int .u64 0]) hS zr_152 rfl ?_)
  clear hS; intro b5 w hS
  refine wl_op rfl rfl (ow_storeA (vs := [tyH 134, ptr q, .int .u64 150]) hS sz_152 rfl rfl rfl rfl Has.here (by simp) ?_)
  clear hS; intro w hS; simp only [putAt, List.set_cons_zero, List.set_cons_succ] at hS
  refine wl_nil ?_
  refine hK6 _ _ ?_
  refine cw_seq fun K7 hK7 => ?_
  refine cw_region ?_
  refine wl_op rfl rfl (ow_lr (S := Sat _ _) (lr_loadA (vs := [tyH 134, ptr q, .int .u64 150]) Tryz.underlying152 rfl sz_152 rfl Has.here rfl rfl) hS ?_)
  refine wl_op rfl rfl (ow_vr (vr_xType rfl) ?_)
  refine wl_op rfl rfl (ow_vr (vr_assign rfl) ?_)
  refine wl_nil ?_
  refine hK7 _ _ ?_
  refine cw_seq fun K8 hK8 => ?_
  refine cw_seq fun K9 hK9 => ?_
  refine cw_region ?_
  refine wl_op rfl rfl (ow_vr (vr_move rfl) ?_)
  refine wl_op rfl rfl (ow_vr (vr_xKind rfl rfl xKind1) ?_)
  refine wl_op rfl rfl (ow_vr (vr_neq rfl rfl) ?_)
  refine wl_op rfl rfl (ow_vr (vr_move (v := .bool _) rfl) ?_)
  refine wl_known 20 rfl (c := false) (rfl) ?_
  refine wl_yes rfl rfl rfl rfl rfl (ow_lr (S := Sat _ _) (lr_loadA (vs := [tyH 134, ptr q, .int .u64 150]) Tryz.underlying152 rfl sz_152 rfl Has.here rfl rfl) hS ?_)
  refine wl_yes rfl rfl rfl rfl rfl (ow_lr (S := Sat _ _) (lr_xIsNil rfl (List.mem_cons_of_mem _ List.mem_cons_self) (List.mem_singleton.2 rfl)) hS ?_)
  refine wl_op rfl rfl (ow_vr (vr_pick (b := false) (v := .bool _) rfl rfl) ?_)
  refine wl_nil ?_
  refine hK9 _ _ ?_
  refine cw_cond_f rfl rfl (rfl) ?_
  refine cw_skip ?_
  refine hK8 _ _ ?_
  refine cw_seq fun K10 hK10 => ?_
  refine cw_region ?_
  refine wl_op rfl rfl (ow_vr (vr_move rfl) ?_)
  refine wl_op rfl rfl (ow_vr (vr_xElemT rfl rfl) ?_)
  refine wl_op rfl rfl (ow_vr (vr_assign rfl) ?_)
  refine wl_nil ?_
  refine hK10 _ _ ?_
  refine cw_seq fun K11 hK11 => ?_
  refine cw_seq fun K12 hK12 => ?_
  refine cw_region ?_
  refine wl_op rfl rfl (ow_vr (vr_move rfl) ?_)
  refine wl_op rfl rfl (ow_vr (vr_xKind rfl rfl xKind2) ?_)
  refine wl_op rfl rfl (ow_vr (vr_neq rfl rfl) ?_)
  refine wl_op rfl rfl (ow_vr (vr_move (v := .bool _) rfl) ?_)
  refine wl_known 30 rfl (c := true) (rfl) ?_
  refine wl_yes rfl rfl rfl rfl rfl (ow_vr (vr_move rfl) ?_)
  refine wl_yes rfl rfl rfl rfl rfl (ow_lr (S := Sat _ _) (lr_loadM1 (v := handleE) Tryz.underlying155 rfl rfl (List.mem_cons_of_mem _ (List.mem_cons_of_mem _ (List.mem_cons_of_mem _ hFg))) hmg hlg) hS ?_)
  refine wl_yes rfl rfl rfl rfl rfl (ow_vr (vr_xImplements rfl rfl) ?_)
  refine wl_yes rfl rfl rfl rfl rfl (ow_vr (vr_not rfl) ?_)
  refine wl_op rfl rfl (ow_vr (vr_pick (b := true) (v := .bool _) rfl rfl) ?_)
  refine wl_nil ?_
  refine hK12 _ _ ?_
  refine cw_cond_f rfl rfl (rfl) ?_
  refine cw_skip ?_
  refine hK11 _ _ ?_
  refine cw_seq fun K13 hK13 => ?_
  replace hS := hS.front2
  refine cw_region ?_
  refine wl_op rfl rfl (ow_vr (vr_move (v := .iface S0 (ptr b0)) rfl) ?_)
  refine wl_op rfl rfl (ow_vr (vr_move (v := .iface 134 (ptr t)) rfl) ?_)
  refine wl_op rfl rfl (ow_lr (S := Sat _ _) (lr_loadA (vs := [tyH 134, ptr q, .int .u64 150]) Tryz.underlying152 rfl sz_152 rfl (Has.there Has.here) rfl rfl) hS ?_)
  refine wl_op rfl rfl (ow_vr (vr_move rfl) ?_)
  refine wl_op rfl rfl (ow_fnm (vs := [.iface S0 (ptr b0), .iface 134 (ptr t), valH 134 q 150, rtH 132]) en_100 rfl (by exact hS) (errors_as hv (Dq := [(q, .cells [ptr t].toArray 134 (0, 0))]) (List.mem_singleton.2 rfl)) (by intro D hD; simp at hD; rcases hD with rfl | rfl; exact List.mem_cons_of_mem _ List.mem_cons_self; exact List.mem_cons_of_mem _ (List.mem_cons_of_mem _ hFe)) ?_)
  clear hS; rintro _ _ w ⟨rfl, b, a, rfl, hba⟩ hS; simp only [List.cons_append, List.nil_append] at hS
  refine wl_op rfl rfl (ow_vr (vr_assign (v := .bool _) rfl) ?_)
  refine wl_nil ?_
  refine hK13 _ _ ?_
  refine cw_ret ?_
  refine ret_one (fn := Tryz.f86) (n := 42) (t := 4) (.inl rfl) rfl rfl ?_
  exact ⟨[_], ⟨rfl, b, a, rfl, hba⟩, hS.front1.tail1.front1.tail1⟩
theorem errors_As0 (t : Value) : FnV Tryz.prog 86 [.nilIface, t] (.bool false) := by
  refine FnV.mk fun E F w hS => ?_
  refine returns_enter Tryz.func86 rfl Tryz.ntmps86 rfl ?_
  refine cw_seq fun K1 hK1 => ?_
  refine cw_region ?_
  refine wl_op rfl rfl (ow_vr (vr_assign (v := .bool false) rfl) ?_)
  refine wl_nil ?_
  refine hK1 _ _ ?_
  refine cw_seq fun K2 hK2 => ?_
  refine cw_seq fun K3 hK3 => ?_
  refine cw_region ?_
  refine wl_op rfl rfl (ow_vr (vr_move (v := .nilIface) rfl) ?_)
  refine wl_op rfl rfl (ow_vr (vr_eqnilI (v := .nilIface) Tryz.underlying67 rfl (by first | assumption | rfl)) ?_)
  refine wl_nil ?_
  refine hK3 _ _ ?_
  refine cw_cond_t rfl rfl (rfl) ?_
  refine cw_seq fun K4 hK4 => ?_
  refine cw_region ?_
  refine wl_op rfl rfl (ow_vr (vr_assign (v := .bool false) rfl) ?_)
  refine wl_nil ?_
  refine hK4 _ _ ?_
  refine cw_ret ?_
  refine thenF_ret (?_)
  refine ret_one (fn := Tryz.f86) (n := 42) (t := 4) (.inl rfl) rfl rfl ?_
  exact ⟨rfl, hS⟩
theorem trap_first0 {Δ G : Chunk} : FnG Tryz.prog 64 [.nilIface] [G, Δ] (fun u Δs => ∃ a, u = .agg #[.int .i64 0, .int .i64 a] ∧ Δs = []) := by
  refine FnG.mk fun E F w hS hF => ?_
  refine returns_enter Tryz.func64 rfl Tryz.ntmps64 rfl ?_
  refine cw_seq fun K1 hK1 => ?_
  refine cw_region ?_
  refine wl_op rfl rfl (ow_alloc (cs := [_, _]) hS zr_102 rfl ?_)
  clear hS; intro b2 w hS
  refine wl_nil ?_
  refine hK1 _ _ ?_
  refine cw_seq fun K2 hK2 => ?_
  refine cw_region ?_
  refine wl_op rfl rfl (ow_alloc (z := .pointer none) (cs := [.pointer none]) hS zr_132 rfl ?_)
  clear hS; intro b3 w hS
  refine wl_nil ?_
  refine hK2 _ _ ?_
  refine cw_seq fun K3 hK3 => ?_
  refine cw_seq fun K4 hK4 => ?_
  refine cw_region ?_
  refine wl_op rfl rfl (ow_vr (vr_move (v := .nilIface) rfl) ?_)
  refine wl_op rfl rfl (ow_vr (vr_makeIface Tryz.underlying134 rfl rfl) ?_)
  refine wl_op rfl rfl (ow_fn (vs := [.nilIface, _]) en_86 rfl hS (errors_As0 _) ?_)
  clear hS; rintro v6 _ w ⟨rfl, rfl⟩ hS; (try simp only [List.cons_append, List.nil_append] at hS)
  refine wl_op rfl rfl (ow_vr (vr_not rfl) ?_)
  refine wl_op rfl rfl (ow_vr (vr_move (v := .bool _) rfl) ?_)
  refine wl_known 8 rfl (c := true) (rfl) ?_
  refine wl_noD rfl rfl rfl rfl rfl rfl ?_
  refine wl_noD rfl rfl rfl rfl rfl rfl ?_
  refine wl_op rfl rfl (ow_vr (vr_pick (b := true) (v := .bool _) rfl rfl) ?_)
  refine wl_nil ?_
  refine hK4 _ _ ?_
  refine cw_cond_t rfl rfl (rfl) ?_
  refine cw_seq fun K5 hK5 => ?_
  refine cw_region ?_
  refine wl_op rfl rfl (ow_vr (vr_build (vs := []) (cs := [.int .i64 _, .int .i64 _]) zr_102 pl_102 rfl rfl) ?_)
  refine wl_op rfl rfl (ow_storeA (vs := [.int .i64 _, .int .i64 _]) hS sz_102 rfl rfl rfl (by first | rfl | (simp only [List.all_cons, List.all_nil, Bool.and_true, Bool.and_eq_true]; repeat (first | refine ⟨by first | rfl | assumption, ?_⟩ | rfl | assumption))) (by first | exact Has.here | exact Has.there (Has.here) | exact Has.there (Has.there (Has.here)) | exact Has.there (Has.there (Has.there (Has.here))) | exact Has.there (Has.there (Has.there (Has.there (Has.here)))) | exact Has.there (Has.there (Has.there (Has.there (Has.there (Has.here))))) | exact Has.there (Has.there (Has.there (Has.there (Has.there (Has.there (Has.here)))))) | exact Has.there (Has.there (Has.there (Has.there (Has.there (Has.there (Has.there (Has.here)))))))) (by simp) ?_)
  clear hS; intro w hS; try simp only [putAt, List.set_cons_zero, List.set_cons_succ] at hS
  refine wl_nil ?_
  refine hK5 _ _ ?_
  refine cw_ret ?_
  refine thenF_ret (?_)
  refine ret_g1 (fn := Tryz.f64) (n := 16) (.inl rfl) rfl (RV.cellA (vs := [.int .i64 _, .int .i64 _]) hS rfl Tryz.underlying102 rfl sz_102 rfl (by first | exact Has.here | exact Has.there (Has.here) | exact Has.there (Has.there (Has.here)) | exact Has.there (Has.there (Has.there (Has.here))) | exact Has.there (Has.there (Has.there (Has.there (Has.here)))) | exact Has.there (Has.there (Has.there (Has.there (Has.there (Has.here))))) | exact Has.there (Has.there (Has.there (Has.there (Has.there (Has.there (Has.here)))))) | exact Has.there (Has.there (Has.there (Has.there (Has.there (Has.there (Has.there (Has.here)))))))) rfl rfl) ?_
  exact ⟨[], ⟨0, rfl, rfl⟩, hS.tail1.tail1⟩
theorem trap_firstV {v : Value} {e : Int} {Δ G : Chunk} (hv : ErrV v e Δ) (hG : Glob G) : FnG Tryz.prog 64 [v] [G, Δ] (fun u Δs => ∃ a, u = .agg #[.int .i64 e, .int .i64 a] ∧ Δs = []) := by
  refine FnG.mk fun E F w hS hF => ?_
  have hFg : G ∈ F := hF _ (by simp)
  have hFe : Δ ∈ F := hF _ (by simp)
  have hv1 := hv
  obtain ⟨S0, b0, rfl, _⟩ := hv1.shape
  refine returns_enter Tryz.func64 rfl Tryz.ntmps64 rfl ?_
  refine cw_seq fun K1 hK1 => ?_
  refine cw_region ?_
  refine wl_op rfl rfl (ow_alloc (cs := [_, _]) hS zr_102 rfl ?_)
  clear hS; intro b2 w hS
  refine wl_nil ?_
  refine hK1 _ _ ?_
  refine cw_seq fun K2 hK2 => ?_
  refine cw_region ?_
  refine wl_op rfl rfl (ow_alloc (z := .pointer none) (cs := [.pointer none]) hS zr_132 rfl ?_)
  clear hS; intro b3 w hS
  refine wl_nil ?_
  refine hK2 _ _ ?_
  refine cw_seq fun K3 hK3 => ?_
  refine cw_seq fun K4 hK4 => ?_
  refine cw_region ?_
  refine wl_op rfl rfl (ow_vr (vr_move (v := .iface S0 (ptr b0)) rfl) ?_)
  refine wl_op rfl rfl (ow_vr (vr_makeIface Tryz.underlying134 rfl rfl) ?_)
  refine wl_op rfl rfl (ow_fnm (vs := [.iface S0 (ptr b0), .iface 134 (ptr b3)]) en_86 rfl hS (errors_As hv hG) (by intro D hD; simp at hD; rcases hD with rfl | rfl; exact List.mem_cons_of_mem _ hFg; exact List.mem_cons_of_mem _ hFe) ?_)
  clear hS; rintro _ _ w ⟨rfl, b, a, rfl, hba⟩ hS; simp only [List.cons_append, List.nil_append] at hS
  refine wl_op rfl rfl (ow_vr (vr_not rfl) ?_)
  refine wl_op rfl rfl (ow_vr (vr_move (v := .bool _) rfl) ?_)
  refine wl_known 8 rfl (c := false) (rfl) ?_
  refine wl_yes rfl rfl rfl rfl rfl (ow_lr (S := Sat _ _) (lr_load1 Tryz.underlying132 rfl rfl (by first | exact Has.here | exact Has.there (Has.here) | exact Has.there (Has.there (Has.here)) | exact Has.there (Has.there (Has.there (Has.here))) | exact Has.there (Has.there (Has.there (Has.there (Has.here)))) | exact Has.there (Has.there (Has.there (Has.there (Has.there (Has.here))))) | exact Has.there (Has.there (Has.there (Has.there (Has.there (Has.there (Has.here)))))) | exact Has.there (Has.there (Has.there (Has.there (Has.there (Has.there (Has.there (Has.here)))))))) rfl) hS ?_)
  refine wl_yes rfl rfl rfl rfl rfl (ow_vr (vr_eqnil Tryz.underlying132 rfl) ?_)
  refine wl_op rfl rfl (ow_vr (vr_pick (b := false) (v := .bool _) rfl rfl) ?_)
  refine wl_nil ?_
  refine hK4 _ _ ?_
  refine cw_cond_f rfl rfl (rfl) ?_
  refine cw_skip ?_
  refine hK3 _ _ ?_
  refine cw_seq fun K5 hK5 => ?_
  refine cw_region ?_
  refine wl_op rfl rfl (ow_lr (S := Sat _ _) (lr_load1 Tryz.underlying132 rfl rfl (by first | exact Has.here | exact Has.there (Has.here) | exact Has.there (Has.there (Has.here)) | exact Has.there (Has.there (Has.there (Has.here))) | exact Has.there (Has.there (Has.there (Has.there (Has.here)))) | exact Has.there (Has.there (Has.there (Has.there (Has.there (Has.here))))) | exact Has.there (Has.there (Has.there (Has.there (Has.there (Has.there (Has.here)))))) | exact Has.there (Has.there (Has.there (Has.there (Has.there (Has.there (Has.there (Has.here)))))))) rfl) hS ?_)
  refine wl_op rfl rfl (ow_vr (vr_nilCheck rfl) ?_)
  refine wl_op rfl rfl (ow_lr (S := Sat _ _) (lr_loadMA (vs := [.int .i64 e, .int .i64 a]) Tryz.underlying102 rfl sz_102 rfl (List.mem_cons_of_mem _ (List.mem_cons_of_mem _ hFe)) hba rfl rfl) hS ?_)
  refine wl_op rfl rfl (ow_storeA (vs := [.int .i64 _, .int .i64 _]) hS sz_102 rfl rfl rfl (by first | rfl | (simp only [List.all_cons, List.all_nil, Bool.and_true, Bool.and_eq_true]; repeat (first | refine ⟨by first | rfl | assumption, ?_⟩ | rfl | assumption))) (by first | exact Has.here | exact Has.there (Has.here) | exact Has.there (Has.there (Has.here)) | exact Has.there (Has.there (Has.there (Has.here))) | exact Has.there (Has.there (Has.there (Has.there (Has.here)))) | exact Has.there (Has.there (Has.there (Has.there (Has.there (Has.here))))) | exact Has.there (Has.there (Has.there (Has.there (Has.there (Has.there (Has.here)))))) | exact Has.there (Has.there (Has.there (Has.there (Has.there (Has.there (Has.there (Has.here)))))))) (by simp) ?_)
  clear hS; intro w hS; try simp only [putAt, List.set_cons_zero, List.set_cons_succ] at hS
  refine wl_nil ?_
  refine hK5 _ _ ?_
  refine cw_ret ?_
  refine ret_g1 (fn := Tryz.f64) (n := 16) (.inl rfl) rfl (RV.cellA (vs := [.int .i64 _, .int .i64 _]) hS rfl Tryz.underlying102 rfl sz_102 rfl (by first | exact Has.here | exact Has.there (Has.here) | exact Has.there (Has.there (Has.here)) | exact Has.there (Has.there (Has.there (Has.here))) | exact Has.there (Has.there (Has.there (Has.there (Has.here)))) | exact Has.there (Has.there (Has.there (Has.there (Has.there (Has.here))))) | exact Has.there (Has.there (Has.there (Has.there (Has.there (Has.there (Has.here)))))) | exact Has.there (Has.there (Has.there (Has.there (Has.there (Has.there (Has.there (Has.here)))))))) rfl rfl) ?_
  exact ⟨[], ⟨a, rfl, rfl⟩, hS.tail1.tail1⟩
theorem trap_first {v : Value} {e : Int} {Δ G : Chunk} (hv : ErrO v e Δ) (hG : Glob G) : FnG Tryz.prog 64 [v] [G, Δ] (fun u Δs => ∃ a, u = .agg #[.int .i64 e, .int .i64 a] ∧ Δs = []) := by
  rcases hv with ⟨rfl, rfl, rfl⟩ | hv
  · exact trap_first0
  · exact trap_firstV hv hG
theorem trap_Errno {v : Value} {e : Int} {Δ G : Chunk} (hv : ErrO v e Δ) (hG : Glob G) : FnG Tryz.prog 27 [v] [G, Δ] (fun u Δs => u = .int .i64 e ∧ Δs = []) := by
  refine FnG.mk fun E F w hS hF => ?_
  have hFg : G ∈ F := hF _ (by simp)
  have hFe : Δ ∈ F := hF _ (by simp)
  refine returns_enter Tryz.func27 rfl Tryz.ntmps27 rfl ?_
  refine cw_seq fun K1 hK1 => ?_
  refine cw_region ?_
  refine wl_op rfl rfl (ow_vr (vr_assign (v := .int .i64 0) rfl) ?_)
  refine wl_nil ?_
  refine hK1 _ _ ?_
  refine cw_seq fun K2 hK2 => ?_
  refine cw_region ?_
  refine wl_op rfl rfl (ow_vr (vr_move (v := v) rfl) ?_)
  refine wl_op rfl rfl (ow_fng (vs := [v]) en_64 rfl hS (trap_first hv hG) (by repeat (first | exact needs0 | (refine needsC ?_ ?_; · (repeat (first | exact List.mem_cons_self | assumption | refine List.mem_cons_of_mem _ ?_))))) ?_)
  clear hS; rintro v4 _ w ⟨a, rfl, rfl⟩ hS; (try simp only [List.cons_append, List.nil_append] at hS)
  refine wl_op rfl rfl (ow_vr (vr_field (v := .int .i64 e) rfl Tryz.underlying102 rfl Tryz.underlying42 rfl rfl) ?_)
  refine wl_op rfl rfl (ow_vr (vr_assign (v := .int .i64 _) rfl) ?_)
  refine wl_nil ?_
  refine hK2 _ _ ?_
  refine cw_ret ?_
  refine ret_one (fn := Tryz.f27) (n := 6) (t := 2) (.inl rfl) rfl rfl ?_
  exact ⟨[], ⟨rfl, rfl⟩, hS⟩
end Go.Proofs.YtjcagoighpmdkaaGreatDoor
