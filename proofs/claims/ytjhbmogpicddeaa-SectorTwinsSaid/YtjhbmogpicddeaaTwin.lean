/- The disk's twin. -/
import Derived.Shelf.SlMaps.Clone
import Derived.Test.YtjhbmogpicddeaaLawSector
namespace Go.Proofs.Ytjhbmogpicddeaa
open Go Go.RowKit
set_option linter.unusedVariables false
set_option linter.unusedSimpArgs false
section
variable {P : Program} {E : World} {Γ : List Chunk} {f : Nat → Value} {w : World} {K : (Nat → Value) → World → Prop} {d : Nat} {ty : TypeId} {pos : String} {af : Array Edge} {g : Option (Nat × Bool)}
theorem vr_eqnilM {T t' k e : TypeId} {x : Operand} {r : Option Nat} (hu : P.underlying T = some (.map k e)) (hx : ev f x = .map r) : VR P f ⟨some d, .binOp .eql T x (.const (.map none)) t', ty, pos, af, g⟩ (.bool r.isNone) := by
  refine vr_eqlg hx rfl rfl (fun w => ?_) (fun w => run_equal fun n => run_equalIn_map_nil_sl w n T k e r hu)
  simp [eqGuard, run_underlying hu]
theorem vr_typeAssertM {T xT k e : TypeId} {x : Operand} {v : Value} (hu : P.underlying T = some (.map k e)) (hx : ev f x = .iface T v) : VR P f ⟨some d, .typeAssert x xT T false, ty, pos, af, g⟩ v := by
  intro w
  simp [execOp, hx, run_typeAssert_map_sl w T xT k e v hu]
theorem ow_mapsClone {β : Type} {val : β → Value} {N t r : Nat} {fn : Func} {args : Array Operand} {ats : Array TypeId} {mp : Int → Option β} {Δ : Chunk} (hf : P.funcs[N]? = some fn) (hname : (fn.name == "runtime.NumGoroutine") = false)
    (hb : fn.body.isNone = true) (hn : Extern.findNext fn = none) (he : Extern.find fn = some Extern.MapsClone.clone) (hS : Sat E Γ w) (ha : args.toList.map (ev f) = [.iface t (.map (some r))]) (hm : MapAt val r mp Δ) (hd : Δ ∈ Γ)
    (h : ∀ b Δ' w', MapAt val b mp Δ' → Sat E (Δ' :: Γ) w' → K (upd f d (.iface t (.map (some b)))) w') : OW P ⟨some d, .call ⟨.value (.func N), args, ats⟩, ty, pos, af, g⟩ f w K := by
  have hargs : args.map (ev f) = #[.iface t (.map (some r))] := Array.ext' (by simpa using ha)
  obtain ⟨L, clock, rfl, hL⟩ := hm
  have hg : w.heap[r]? = some (.map (L.map (mkE val)).toArray clock) := hS.mem (r, _) (List.mem_flatten.2 ⟨_, hd, List.mem_singleton.2 rfl⟩)
  have hc := run_callFunc_extern (P := P) hf hname hb hn he #[.iface t (.map (some r))] w
  rw [run_maps_clone_sl w t hg] at hc
  refine ow_val (v := .iface t (.map (some w.heap.size))) (w' := { w with heap := w.heap.push (.map (L.map (mkE val)).toArray clock) }) ?_ (h _ _ _ ⟨L, clock, rfl, hL⟩ (hS.alloc _))
  simp [execOp, resolve, ev, Deferred.ofValue, invoke, hargs, hc]
end
attribute [local irreducible] actF WL CW OW PL SW VR LR yes Returns Fn
theorem maps_Clone {r : Nat} {mp : Int → Option (List UInt8)} {D : Chunk} (hm : MapAt str r mp D) : FnG Try.prog 109 [.map (some r)] [D] (fun u Δs => ∃ b D', u = .map (some b) ∧ Δs = [D'] ∧ MapAt str b mp D') := by
  refine FnG.mk fun E F w hS hF => ?_
  have hF0 : D ∈ F := hF _ (by simp)
  refine returns_enter Try.func109 rfl Try.ntmps109 rfl ?_
  refine cw_seq fun K1 hK1 => ?_
  refine cw_region ?_
  refine wl_op rfl rfl (ow_vr (vr_assign (v := .map none) rfl) ?_)
  refine wl_nil ?_
  refine hK1 _ _ ?_
  refine cw_seq fun K2 hK2 => ?_
  refine cw_seq fun K3 hK3 => ?_
  refine cw_region ?_
  refine wl_op rfl rfl (ow_vr (vr_move (v := .map _) rfl) ?_)
  refine wl_op rfl rfl (ow_vr (vr_eqnilM Try.underlying89 rfl) ?_)
  refine wl_nil ?_
  refine hK3 _ _ ?_
  refine cw_cond_f rfl rfl (rfl) ?_
  refine cw_skip ?_
  refine hK2 _ _ ?_
  refine cw_seq fun K4 hK4 => ?_
  refine cw_region ?_
  refine wl_op rfl rfl (ow_vr (vr_move (v := .map _) rfl) ?_)
  refine wl_op rfl rfl (ow_vr (vr_makeIface Try.underlying89 rfl rfl) ?_)
  refine wl_op rfl rfl (ow_mapsClone (val := str) Try.func128 (by kernel_rfl) (by kernel_rfl) (by kernel_rfl) (by kernel_rfl) hS rfl hm hF0 ?_)
  clear hS; intro b7 D7 w hm7 hS
  refine wl_op rfl rfl (ow_vr (vr_typeAssertM Try.underlying89 rfl) ?_)
  refine wl_op rfl rfl (ow_vr (vr_assign (v := .map _) rfl) ?_)
  refine wl_nil ?_
  refine hK4 _ _ ?_
  refine cw_ret ?_
  refine ret_one (fn := Try.f109) (n := 9) (t := 2) (.inl rfl) rfl rfl ?_
  exact ⟨[D7], ⟨b7, D7, rfl, rfl, hm7⟩, hS⟩
theorem disk_Twin {p : Nat} {d : Dsk} {Δ : Chunk} (hd : DiskAt p d Δ) (hks : d.keep.length ≤ 1000000) (hwl : d.waits.length ≤ 1000000) : Fn Try.prog 58 [ptr p] [Δ] (fun v Δs => ∃ q Δ', v = ptr q ∧ Δs = [Δ', Δ] ∧ DiskAt q d Δ') := by
  refine Fn.mk fun E F w hS => ?_
  obtain ⟨r, vw, vk, Dm, Dw, Dk, rfl, hm, hw, hk⟩ := hd
  replace hS := Sat.opn4.1 hS
  have hw1 := hw.isOne
  have hk1 := hk.isOne
  refine returns_enter Try.func58 rfl Try.ntmps58 rfl ?_
  refine cw_seq fun K1 hK1 => ?_
  refine cw_region ?_
  refine wl_op rfl rfl (ow_vr (vr_assign (v := .pointer none) rfl) ?_)
  refine wl_nil ?_
  refine hK1 _ _ ?_
  refine cw_seq fun K2 hK2 => ?_
  refine cw_seq fun K3 hK3 => ?_
  refine cw_region ?_
  refine wl_op rfl rfl (ow_vr (vr_move (v := .pointer _) rfl) ?_)
  refine wl_op rfl rfl (ow_vr (vr_eqnil Try.underlying25 rfl) ?_)
  refine wl_nil ?_
  refine hK3 _ _ ?_
  refine cw_cond_f rfl rfl (rfl) ?_
  refine cw_skip ?_
  refine hK2 _ _ ?_
  refine cw_seq fun K4 hK4 => ?_
  refine cw_region ?_
  refine wl_op rfl rfl (ow_vr (vr_move (v := .pointer _) rfl) ?_)
  refine wl_op rfl rfl (ow_vr (vr_nilCheck rfl) ?_)
  first | (refine wl_op rfl rfl (ow_lr (S := Sat _ _) (lr_loadA (vs := [.map _, .slice _ _ _, .int .i64 _, .bool _, .int .i64 _, .bool _, .int .i64 _, .slice _ _ _]) Try.underlying92 rfl sz_92 rfl (by first | exact Has.here | exact Has.there (Has.here) | exact Has.there (Has.there (Has.here)) | exact Has.there (Has.there (Has.there (Has.here))) | exact Has.there (Has.there (Has.there (Has.there (Has.here)))) | exact Has.there (Has.there (Has.there (Has.there (Has.there (Has.here))))) | exact Has.there (Has.there (Has.there (Has.there (Has.there (Has.there (Has.here)))))) | exact Has.there (Has.there (Has.there (Has.there (Has.there (Has.there (Has.there (Has.here)))))))) rfl rfl) hS ?_)) | (refine wl_op rfl rfl (ow_lr (S := Sat _ _) (lr_loadA (vs := [_, _, _, _, _, _, _, _]) Try.underlying92 rfl sz_92 rfl (by first | exact Has.here | exact Has.there (Has.here) | exact Has.there (Has.there (Has.here)) | exact Has.there (Has.there (Has.there (Has.here))) | exact Has.there (Has.there (Has.there (Has.there (Has.here)))) | exact Has.there (Has.there (Has.there (Has.there (Has.there (Has.here))))) | exact Has.there (Has.there (Has.there (Has.there (Has.there (Has.there (Has.here)))))) | exact Has.there (Has.there (Has.there (Has.there (Has.there (Has.there (Has.there (Has.here)))))))) rfl rfl) hS ?_))
  refine wl_op rfl rfl (ow_alloc (cs := [_, _, _, _, _, _, _, _]) hS zr_92 rfl ?_)
  clear hS; intro b3 w hS
  refine wl_op rfl rfl (ow_storeA (vs := [_, _, _, _, _, _, _, _]) hS sz_92 rfl rfl rfl (by first | rfl | (simp only [List.all_cons, List.all_nil, Bool.and_true, Bool.and_eq_true]; repeat (first | refine ⟨by first | rfl | assumption, ?_⟩ | rfl | assumption))) (by first | exact Has.here | exact Has.there (Has.here) | exact Has.there (Has.there (Has.here)) | exact Has.there (Has.there (Has.there (Has.here))) | exact Has.there (Has.there (Has.there (Has.there (Has.here)))) | exact Has.there (Has.there (Has.there (Has.there (Has.there (Has.here))))) | exact Has.there (Has.there (Has.there (Has.there (Has.there (Has.there (Has.here)))))) | exact Has.there (Has.there (Has.there (Has.there (Has.there (Has.there (Has.there (Has.here)))))))) (by simp) ?_)
  clear hS; intro w hS; try simp only [putAt, List.set_cons_zero, List.set_cons_succ] at hS
  refine wl_nil ?_
  refine hK4 _ _ ?_
  refine cw_seq fun K5 hK5 => ?_
  refine cw_draw_sat hS [(0, 0), (1, 0), (2, 0), (3, 1), (5, 0), (6, 0), (7, 0), (8, 1), (10, 0), (11, 0), (12, 0), (13, 1), (4, 2), (9, 2), (14, 2), (15, 0), (16, 3), (17, 0), (18, 3), (19, 0), (20, 3)] mixed (planFast_ok (by kernel_rfl)) (by rintro _ _ _ ⟨⟩) ?_
  clear hS; intro w hS
  refine pl_take rfl (yes_none rfl) (vr_move (v := .pointer _) rfl) ?_
  refine pl_take rfl (yes_none rfl) (vr_nilCheck rfl) ?_
  first | (refine pl_take rfl (yes_none rfl) (vr_fieldAddr fo_92_0 rfl) ?_) | (refine pl_take rfl (yes_none rfl) (vr_fieldAddrV fo_92_0 rfl (by first | assumption | (refine Own.view ?_ (by assumption); exact fun _ => rfl) | exact OwnB.view (by assumption)) (by first | omega | (simp <;> omega))) ?_)
  refine pl_load rfl (yes_none rfl) (lr_load1 Try.underlying89 rfl rfl (by first | exact Has.here | exact Has.there (Has.here) | exact Has.there (Has.there (Has.here)) | exact Has.there (Has.there (Has.there (Has.here))) | exact Has.there (Has.there (Has.there (Has.there (Has.here)))) | exact Has.there (Has.there (Has.there (Has.there (Has.there (Has.here))))) | exact Has.there (Has.there (Has.there (Has.there (Has.there (Has.there (Has.here)))))) | exact Has.there (Has.there (Has.there (Has.there (Has.there (Has.there (Has.there (Has.here)))))))) rfl) ?_
  refine pl_take rfl (yes_none rfl) (vr_move (v := .pointer _) rfl) ?_
  refine pl_take rfl (yes_none rfl) (vr_nilCheck rfl) ?_
  first | (refine pl_take rfl (yes_none rfl) (vr_fieldAddr fo_92_1 rfl) ?_) | (refine pl_take rfl (yes_none rfl) (vr_fieldAddrV fo_92_1 rfl (by first | assumption | (refine Own.view ?_ (by assumption); exact fun _ => rfl) | exact OwnB.view (by assumption)) (by first | omega | (simp <;> omega))) ?_)
  refine pl_load rfl (yes_none rfl) (lr_load1 Try.underlying90 rfl rfl (by first | exact Has.here | exact Has.there (Has.here) | exact Has.there (Has.there (Has.here)) | exact Has.there (Has.there (Has.there (Has.here))) | exact Has.there (Has.there (Has.there (Has.there (Has.here)))) | exact Has.there (Has.there (Has.there (Has.there (Has.there (Has.here))))) | exact Has.there (Has.there (Has.there (Has.there (Has.there (Has.there (Has.here)))))) | exact Has.there (Has.there (Has.there (Has.there (Has.there (Has.there (Has.there (Has.here)))))))) rfl) ?_
  refine pl_take rfl (yes_none rfl) (vr_move (v := .pointer _) rfl) ?_
  refine pl_take rfl (yes_none rfl) (vr_nilCheck rfl) ?_
  first | (refine pl_take rfl (yes_none rfl) (vr_fieldAddr fo_92_7 rfl) ?_) | (refine pl_take rfl (yes_none rfl) (vr_fieldAddrV fo_92_7 rfl (by first | assumption | (refine Own.view ?_ (by assumption); exact fun _ => rfl) | exact OwnB.view (by assumption)) (by first | omega | (simp <;> omega))) ?_)
  refine pl_load rfl (yes_none rfl) (lr_load1 Try.underlying23 rfl rfl (by first | exact Has.here | exact Has.there (Has.here) | exact Has.there (Has.there (Has.here)) | exact Has.there (Has.there (Has.there (Has.here))) | exact Has.there (Has.there (Has.there (Has.there (Has.here)))) | exact Has.there (Has.there (Has.there (Has.there (Has.there (Has.here))))) | exact Has.there (Has.there (Has.there (Has.there (Has.there (Has.there (Has.here)))))) | exact Has.there (Has.there (Has.there (Has.there (Has.there (Has.there (Has.there (Has.here)))))))) rfl) ?_
  refine pl_act hS rfl (yes_none rfl) ?_
  clear hS; intro w hS
  refine (ow_fng (vs := [.map _]) en_109 rfl hS (maps_Clone hm) (by first | exact needs1 (by first | exact List.Mem.head _ | exact List.Mem.tail _ (List.Mem.head _) | exact List.Mem.tail _ (List.Mem.tail _ (List.Mem.head _)) | exact List.Mem.tail _ (List.Mem.tail _ (List.Mem.tail _ (List.Mem.head _))) | exact List.Mem.tail _ (List.Mem.tail _ (List.Mem.tail _ (List.Mem.tail _ (List.Mem.head _)))) | exact List.Mem.tail _ (List.Mem.tail _ (List.Mem.tail _ (List.Mem.tail _ (List.Mem.tail _ (List.Mem.head _))))) | exact List.Mem.tail _ (List.Mem.tail _ (List.Mem.tail _ (List.Mem.tail _ (List.Mem.tail _ (List.Mem.tail _ (List.Mem.head _)))))) | exact List.Mem.tail _ (List.Mem.tail _ (List.Mem.tail _ (List.Mem.tail _ (List.Mem.tail _ (List.Mem.tail _ (List.Mem.tail _ (List.Mem.head _))))))) | exact List.Mem.tail _ (List.Mem.tail _ (List.Mem.tail _ (List.Mem.tail _ (List.Mem.tail _ (List.Mem.tail _ (List.Mem.tail _ (List.Mem.tail _ (List.Mem.head _)))))))) | exact (by assumption) | exact List.Mem.tail _ ((by assumption)) | exact List.Mem.tail _ (List.Mem.tail _ ((by assumption))) | exact List.Mem.tail _ (List.Mem.tail _ (List.Mem.tail _ ((by assumption)))) | exact List.Mem.tail _ (List.Mem.tail _ (List.Mem.tail _ (List.Mem.tail _ ((by assumption))))) | exact List.Mem.tail _ (List.Mem.tail _ (List.Mem.tail _ (List.Mem.tail _ (List.Mem.tail _ ((by assumption))))))) | exact needs0 | exact needs2 (by first | exact List.Mem.head _ | exact List.Mem.tail _ (List.Mem.head _) | exact List.Mem.tail _ (List.Mem.tail _ (List.Mem.head _)) | exact List.Mem.tail _ (List.Mem.tail _ (List.Mem.tail _ (List.Mem.head _))) | exact List.Mem.tail _ (List.Mem.tail _ (List.Mem.tail _ (List.Mem.tail _ (List.Mem.head _)))) | exact List.Mem.tail _ (List.Mem.tail _ (List.Mem.tail _ (List.Mem.tail _ (List.Mem.tail _ (List.Mem.head _))))) | exact List.Mem.tail _ (List.Mem.tail _ (List.Mem.tail _ (List.Mem.tail _ (List.Mem.tail _ (List.Mem.tail _ (List.Mem.head _)))))) | exact List.Mem.tail _ (List.Mem.tail _ (List.Mem.tail _ (List.Mem.tail _ (List.Mem.tail _ (List.Mem.tail _ (List.Mem.tail _ (List.Mem.head _))))))) | exact List.Mem.tail _ (List.Mem.tail _ (List.Mem.tail _ (List.Mem.tail _ (List.Mem.tail _ (List.Mem.tail _ (List.Mem.tail _ (List.Mem.tail _ (List.Mem.head _)))))))) | exact (by assumption) | exact List.Mem.tail _ ((by assumption)) | exact List.Mem.tail _ (List.Mem.tail _ ((by assumption))) | exact List.Mem.tail _ (List.Mem.tail _ (List.Mem.tail _ ((by assumption)))) | exact List.Mem.tail _ (List.Mem.tail _ (List.Mem.tail _ (List.Mem.tail _ ((by assumption))))) | exact List.Mem.tail _ (List.Mem.tail _ (List.Mem.tail _ (List.Mem.tail _ (List.Mem.tail _ ((by assumption))))))) (by first | exact List.Mem.head _ | exact List.Mem.tail _ (List.Mem.head _) | exact List.Mem.tail _ (List.Mem.tail _ (List.Mem.head _)) | exact List.Mem.tail _ (List.Mem.tail _ (List.Mem.tail _ (List.Mem.head _))) | exact List.Mem.tail _ (List.Mem.tail _ (List.Mem.tail _ (List.Mem.tail _ (List.Mem.head _)))) | exact List.Mem.tail _ (List.Mem.tail _ (List.Mem.tail _ (List.Mem.tail _ (List.Mem.tail _ (List.Mem.head _))))) | exact List.Mem.tail _ (List.Mem.tail _ (List.Mem.tail _ (List.Mem.tail _ (List.Mem.tail _ (List.Mem.tail _ (List.Mem.head _)))))) | exact List.Mem.tail _ (List.Mem.tail _ (List.Mem.tail _ (List.Mem.tail _ (List.Mem.tail _ (List.Mem.tail _ (List.Mem.tail _ (List.Mem.head _))))))) | exact List.Mem.tail _ (List.Mem.tail _ (List.Mem.tail _ (List.Mem.tail _ (List.Mem.tail _ (List.Mem.tail _ (List.Mem.tail _ (List.Mem.tail _ (List.Mem.head _)))))))) | exact (by assumption) | exact List.Mem.tail _ ((by assumption)) | exact List.Mem.tail _ (List.Mem.tail _ ((by assumption))) | exact List.Mem.tail _ (List.Mem.tail _ (List.Mem.tail _ ((by assumption)))) | exact List.Mem.tail _ (List.Mem.tail _ (List.Mem.tail _ (List.Mem.tail _ ((by assumption))))) | exact List.Mem.tail _ (List.Mem.tail _ (List.Mem.tail _ (List.Mem.tail _ (List.Mem.tail _ ((by assumption))))))) | exact needs3 (by first | exact List.Mem.head _ | exact List.Mem.tail _ (List.Mem.head _) | exact List.Mem.tail _ (List.Mem.tail _ (List.Mem.head _)) | exact List.Mem.tail _ (List.Mem.tail _ (List.Mem.tail _ (List.Mem.head _))) | exact List.Mem.tail _ (List.Mem.tail _ (List.Mem.tail _ (List.Mem.tail _ (List.Mem.head _)))) | exact List.Mem.tail _ (List.Mem.tail _ (List.Mem.tail _ (List.Mem.tail _ (List.Mem.tail _ (List.Mem.head _))))) | exact List.Mem.tail _ (List.Mem.tail _ (List.Mem.tail _ (List.Mem.tail _ (List.Mem.tail _ (List.Mem.tail _ (List.Mem.head _)))))) | exact List.Mem.tail _ (List.Mem.tail _ (List.Mem.tail _ (List.Mem.tail _ (List.Mem.tail _ (List.Mem.tail _ (List.Mem.tail _ (List.Mem.head _))))))) | exact List.Mem.tail _ (List.Mem.tail _ (List.Mem.tail _ (List.Mem.tail _ (List.Mem.tail _ (List.Mem.tail _ (List.Mem.tail _ (List.Mem.tail _ (List.Mem.head _)))))))) | exact (by assumption) | exact List.Mem.tail _ ((by assumption)) | exact List.Mem.tail _ (List.Mem.tail _ ((by assumption))) | exact List.Mem.tail _ (List.Mem.tail _ (List.Mem.tail _ ((by assumption)))) | exact List.Mem.tail _ (List.Mem.tail _ (List.Mem.tail _ (List.Mem.tail _ ((by assumption))))) | exact List.Mem.tail _ (List.Mem.tail _ (List.Mem.tail _ (List.Mem.tail _ (List.Mem.tail _ ((by assumption))))))) (by first | exact List.Mem.head _ | exact List.Mem.tail _ (List.Mem.head _) | exact List.Mem.tail _ (List.Mem.tail _ (List.Mem.head _)) | exact List.Mem.tail _ (List.Mem.tail _ (List.Mem.tail _ (List.Mem.head _))) | exact List.Mem.tail _ (List.Mem.tail _ (List.Mem.tail _ (List.Mem.tail _ (List.Mem.head _)))) | exact List.Mem.tail _ (List.Mem.tail _ (List.Mem.tail _ (List.Mem.tail _ (List.Mem.tail _ (List.Mem.head _))))) | exact List.Mem.tail _ (List.Mem.tail _ (List.Mem.tail _ (List.Mem.tail _ (List.Mem.tail _ (List.Mem.tail _ (List.Mem.head _)))))) | exact List.Mem.tail _ (List.Mem.tail _ (List.Mem.tail _ (List.Mem.tail _ (List.Mem.tail _ (List.Mem.tail _ (List.Mem.tail _ (List.Mem.head _))))))) | exact List.Mem.tail _ (List.Mem.tail _ (List.Mem.tail _ (List.Mem.tail _ (List.Mem.tail _ (List.Mem.tail _ (List.Mem.tail _ (List.Mem.tail _ (List.Mem.head _)))))))) | exact (by assumption) | exact List.Mem.tail _ ((by assumption)) | exact List.Mem.tail _ (List.Mem.tail _ ((by assumption))) | exact List.Mem.tail _ (List.Mem.tail _ (List.Mem.tail _ ((by assumption)))) | exact List.Mem.tail _ (List.Mem.tail _ (List.Mem.tail _ (List.Mem.tail _ ((by assumption))))) | exact List.Mem.tail _ (List.Mem.tail _ (List.Mem.tail _ (List.Mem.tail _ (List.Mem.tail _ ((by assumption))))))) (by first | exact List.Mem.head _ | exact List.Mem.tail _ (List.Mem.head _) | exact List.Mem.tail _ (List.Mem.tail _ (List.Mem.head _)) | exact List.Mem.tail _ (List.Mem.tail _ (List.Mem.tail _ (List.Mem.head _))) | exact List.Mem.tail _ (List.Mem.tail _ (List.Mem.tail _ (List.Mem.tail _ (List.Mem.head _)))) | exact List.Mem.tail _ (List.Mem.tail _ (List.Mem.tail _ (List.Mem.tail _ (List.Mem.tail _ (List.Mem.head _))))) | exact List.Mem.tail _ (List.Mem.tail _ (List.Mem.tail _ (List.Mem.tail _ (List.Mem.tail _ (List.Mem.tail _ (List.Mem.head _)))))) | exact List.Mem.tail _ (List.Mem.tail _ (List.Mem.tail _ (List.Mem.tail _ (List.Mem.tail _ (List.Mem.tail _ (List.Mem.tail _ (List.Mem.head _))))))) | exact List.Mem.tail _ (List.Mem.tail _ (List.Mem.tail _ (List.Mem.tail _ (List.Mem.tail _ (List.Mem.tail _ (List.Mem.tail _ (List.Mem.tail _ (List.Mem.head _)))))))) | exact (by assumption) | exact List.Mem.tail _ ((by assumption)) | exact List.Mem.tail _ (List.Mem.tail _ ((by assumption))) | exact List.Mem.tail _ (List.Mem.tail _ (List.Mem.tail _ ((by assumption)))) | exact List.Mem.tail _ (List.Mem.tail _ (List.Mem.tail _ (List.Mem.tail _ ((by assumption))))) | exact List.Mem.tail _ (List.Mem.tail _ (List.Mem.tail _ (List.Mem.tail _ (List.Mem.tail _ ((by assumption)))))))) ?_)
  clear hS; rintro v13 _ w ⟨b13, D13, rfl, rfl, hm13⟩ hS; (try simp only [List.cons_append, List.nil_append] at hS)
  refine ⟨by first | exact hS | exact hS.tail1 | exact hS.tail1.tail1 | exact hS.tail1.tail1.tail1, ?_⟩
  refine pl_act hS rfl (yes_none rfl) ?_
  clear hS; intro w hS
  refine (ow_fng (vs := [vw]) en_110 rfl hS (clone_writes d.waits _ _ (hw.view fun _ => rfl) hwl) (by first | exact needs1 (by first | exact List.Mem.head _ | exact List.Mem.tail _ (List.Mem.head _) | exact List.Mem.tail _ (List.Mem.tail _ (List.Mem.head _)) | exact List.Mem.tail _ (List.Mem.tail _ (List.Mem.tail _ (List.Mem.head _))) | exact List.Mem.tail _ (List.Mem.tail _ (List.Mem.tail _ (List.Mem.tail _ (List.Mem.head _)))) | exact List.Mem.tail _ (List.Mem.tail _ (List.Mem.tail _ (List.Mem.tail _ (List.Mem.tail _ (List.Mem.head _))))) | exact List.Mem.tail _ (List.Mem.tail _ (List.Mem.tail _ (List.Mem.tail _ (List.Mem.tail _ (List.Mem.tail _ (List.Mem.head _)))))) | exact List.Mem.tail _ (List.Mem.tail _ (List.Mem.tail _ (List.Mem.tail _ (List.Mem.tail _ (List.Mem.tail _ (List.Mem.tail _ (List.Mem.head _))))))) | exact List.Mem.tail _ (List.Mem.tail _ (List.Mem.tail _ (List.Mem.tail _ (List.Mem.tail _ (List.Mem.tail _ (List.Mem.tail _ (List.Mem.tail _ (List.Mem.head _)))))))) | exact (by assumption) | exact List.Mem.tail _ ((by assumption)) | exact List.Mem.tail _ (List.Mem.tail _ ((by assumption))) | exact List.Mem.tail _ (List.Mem.tail _ (List.Mem.tail _ ((by assumption)))) | exact List.Mem.tail _ (List.Mem.tail _ (List.Mem.tail _ (List.Mem.tail _ ((by assumption))))) | exact List.Mem.tail _ (List.Mem.tail _ (List.Mem.tail _ (List.Mem.tail _ (List.Mem.tail _ ((by assumption))))))) | exact needs0 | exact needs2 (by first | exact List.Mem.head _ | exact List.Mem.tail _ (List.Mem.head _) | exact List.Mem.tail _ (List.Mem.tail _ (List.Mem.head _)) | exact List.Mem.tail _ (List.Mem.tail _ (List.Mem.tail _ (List.Mem.head _))) | exact List.Mem.tail _ (List.Mem.tail _ (List.Mem.tail _ (List.Mem.tail _ (List.Mem.head _)))) | exact List.Mem.tail _ (List.Mem.tail _ (List.Mem.tail _ (List.Mem.tail _ (List.Mem.tail _ (List.Mem.head _))))) | exact List.Mem.tail _ (List.Mem.tail _ (List.Mem.tail _ (List.Mem.tail _ (List.Mem.tail _ (List.Mem.tail _ (List.Mem.head _)))))) | exact List.Mem.tail _ (List.Mem.tail _ (List.Mem.tail _ (List.Mem.tail _ (List.Mem.tail _ (List.Mem.tail _ (List.Mem.tail _ (List.Mem.head _))))))) | exact List.Mem.tail _ (List.Mem.tail _ (List.Mem.tail _ (List.Mem.tail _ (List.Mem.tail _ (List.Mem.tail _ (List.Mem.tail _ (List.Mem.tail _ (List.Mem.head _)))))))) | exact (by assumption) | exact List.Mem.tail _ ((by assumption)) | exact List.Mem.tail _ (List.Mem.tail _ ((by assumption))) | exact List.Mem.tail _ (List.Mem.tail _ (List.Mem.tail _ ((by assumption)))) | exact List.Mem.tail _ (List.Mem.tail _ (List.Mem.tail _ (List.Mem.tail _ ((by assumption))))) | exact List.Mem.tail _ (List.Mem.tail _ (List.Mem.tail _ (List.Mem.tail _ (List.Mem.tail _ ((by assumption))))))) (by first | exact List.Mem.head _ | exact List.Mem.tail _ (List.Mem.head _) | exact List.Mem.tail _ (List.Mem.tail _ (List.Mem.head _)) | exact List.Mem.tail _ (List.Mem.tail _ (List.Mem.tail _ (List.Mem.head _))) | exact List.Mem.tail _ (List.Mem.tail _ (List.Mem.tail _ (List.Mem.tail _ (List.Mem.head _)))) | exact List.Mem.tail _ (List.Mem.tail _ (List.Mem.tail _ (List.Mem.tail _ (List.Mem.tail _ (List.Mem.head _))))) | exact List.Mem.tail _ (List.Mem.tail _ (List.Mem.tail _ (List.Mem.tail _ (List.Mem.tail _ (List.Mem.tail _ (List.Mem.head _)))))) | exact List.Mem.tail _ (List.Mem.tail _ (List.Mem.tail _ (List.Mem.tail _ (List.Mem.tail _ (List.Mem.tail _ (List.Mem.tail _ (List.Mem.head _))))))) | exact List.Mem.tail _ (List.Mem.tail _ (List.Mem.tail _ (List.Mem.tail _ (List.Mem.tail _ (List.Mem.tail _ (List.Mem.tail _ (List.Mem.tail _ (List.Mem.head _)))))))) | exact (by assumption) | exact List.Mem.tail _ ((by assumption)) | exact List.Mem.tail _ (List.Mem.tail _ ((by assumption))) | exact List.Mem.tail _ (List.Mem.tail _ (List.Mem.tail _ ((by assumption)))) | exact List.Mem.tail _ (List.Mem.tail _ (List.Mem.tail _ (List.Mem.tail _ ((by assumption))))) | exact List.Mem.tail _ (List.Mem.tail _ (List.Mem.tail _ (List.Mem.tail _ (List.Mem.tail _ ((by assumption))))))) | exact needs3 (by first | exact List.Mem.head _ | exact List.Mem.tail _ (List.Mem.head _) | exact List.Mem.tail _ (List.Mem.tail _ (List.Mem.head _)) | exact List.Mem.tail _ (List.Mem.tail _ (List.Mem.tail _ (List.Mem.head _))) | exact List.Mem.tail _ (List.Mem.tail _ (List.Mem.tail _ (List.Mem.tail _ (List.Mem.head _)))) | exact List.Mem.tail _ (List.Mem.tail _ (List.Mem.tail _ (List.Mem.tail _ (List.Mem.tail _ (List.Mem.head _))))) | exact List.Mem.tail _ (List.Mem.tail _ (List.Mem.tail _ (List.Mem.tail _ (List.Mem.tail _ (List.Mem.tail _ (List.Mem.head _)))))) | exact List.Mem.tail _ (List.Mem.tail _ (List.Mem.tail _ (List.Mem.tail _ (List.Mem.tail _ (List.Mem.tail _ (List.Mem.tail _ (List.Mem.head _))))))) | exact List.Mem.tail _ (List.Mem.tail _ (List.Mem.tail _ (List.Mem.tail _ (List.Mem.tail _ (List.Mem.tail _ (List.Mem.tail _ (List.Mem.tail _ (List.Mem.head _)))))))) | exact (by assumption) | exact List.Mem.tail _ ((by assumption)) | exact List.Mem.tail _ (List.Mem.tail _ ((by assumption))) | exact List.Mem.tail _ (List.Mem.tail _ (List.Mem.tail _ ((by assumption)))) | exact List.Mem.tail _ (List.Mem.tail _ (List.Mem.tail _ (List.Mem.tail _ ((by assumption))))) | exact List.Mem.tail _ (List.Mem.tail _ (List.Mem.tail _ (List.Mem.tail _ (List.Mem.tail _ ((by assumption))))))) (by first | exact List.Mem.head _ | exact List.Mem.tail _ (List.Mem.head _) | exact List.Mem.tail _ (List.Mem.tail _ (List.Mem.head _)) | exact List.Mem.tail _ (List.Mem.tail _ (List.Mem.tail _ (List.Mem.head _))) | exact List.Mem.tail _ (List.Mem.tail _ (List.Mem.tail _ (List.Mem.tail _ (List.Mem.head _)))) | exact List.Mem.tail _ (List.Mem.tail _ (List.Mem.tail _ (List.Mem.tail _ (List.Mem.tail _ (List.Mem.head _))))) | exact List.Mem.tail _ (List.Mem.tail _ (List.Mem.tail _ (List.Mem.tail _ (List.Mem.tail _ (List.Mem.tail _ (List.Mem.head _)))))) | exact List.Mem.tail _ (List.Mem.tail _ (List.Mem.tail _ (List.Mem.tail _ (List.Mem.tail _ (List.Mem.tail _ (List.Mem.tail _ (List.Mem.head _))))))) | exact List.Mem.tail _ (List.Mem.tail _ (List.Mem.tail _ (List.Mem.tail _ (List.Mem.tail _ (List.Mem.tail _ (List.Mem.tail _ (List.Mem.tail _ (List.Mem.head _)))))))) | exact (by assumption) | exact List.Mem.tail _ ((by assumption)) | exact List.Mem.tail _ (List.Mem.tail _ ((by assumption))) | exact List.Mem.tail _ (List.Mem.tail _ (List.Mem.tail _ ((by assumption)))) | exact List.Mem.tail _ (List.Mem.tail _ (List.Mem.tail _ (List.Mem.tail _ ((by assumption))))) | exact List.Mem.tail _ (List.Mem.tail _ (List.Mem.tail _ (List.Mem.tail _ (List.Mem.tail _ ((by assumption))))))) (by first | exact List.Mem.head _ | exact List.Mem.tail _ (List.Mem.head _) | exact List.Mem.tail _ (List.Mem.tail _ (List.Mem.head _)) | exact List.Mem.tail _ (List.Mem.tail _ (List.Mem.tail _ (List.Mem.head _))) | exact List.Mem.tail _ (List.Mem.tail _ (List.Mem.tail _ (List.Mem.tail _ (List.Mem.head _)))) | exact List.Mem.tail _ (List.Mem.tail _ (List.Mem.tail _ (List.Mem.tail _ (List.Mem.tail _ (List.Mem.head _))))) | exact List.Mem.tail _ (List.Mem.tail _ (List.Mem.tail _ (List.Mem.tail _ (List.Mem.tail _ (List.Mem.tail _ (List.Mem.head _)))))) | exact List.Mem.tail _ (List.Mem.tail _ (List.Mem.tail _ (List.Mem.tail _ (List.Mem.tail _ (List.Mem.tail _ (List.Mem.tail _ (List.Mem.head _))))))) | exact List.Mem.tail _ (List.Mem.tail _ (List.Mem.tail _ (List.Mem.tail _ (List.Mem.tail _ (List.Mem.tail _ (List.Mem.tail _ (List.Mem.tail _ (List.Mem.head _)))))))) | exact (by assumption) | exact List.Mem.tail _ ((by assumption)) | exact List.Mem.tail _ (List.Mem.tail _ ((by assumption))) | exact List.Mem.tail _ (List.Mem.tail _ (List.Mem.tail _ ((by assumption)))) | exact List.Mem.tail _ (List.Mem.tail _ (List.Mem.tail _ (List.Mem.tail _ ((by assumption))))) | exact List.Mem.tail _ (List.Mem.tail _ (List.Mem.tail _ (List.Mem.tail _ (List.Mem.tail _ ((by assumption)))))))) ?_)
  clear hS; rintro v18 _ w ⟨D18, rfl, ho18⟩ hS; (try simp only [List.cons_append, List.nil_append] at hS)
  refine ⟨by first | exact hS | exact hS.tail1 | exact hS.tail1.tail1 | exact hS.tail1.tail1.tail1, ?_⟩
  refine pl_act hS rfl (yes_none rfl) ?_
  clear hS; intro w hS
  refine (ow_fng (vs := [vk]) en_64 rfl hS (clone_ints d.keep _ _ (hk.view fun _ => rfl) hks) (by first | exact needs1 (by first | exact List.Mem.head _ | exact List.Mem.tail _ (List.Mem.head _) | exact List.Mem.tail _ (List.Mem.tail _ (List.Mem.head _)) | exact List.Mem.tail _ (List.Mem.tail _ (List.Mem.tail _ (List.Mem.head _))) | exact List.Mem.tail _ (List.Mem.tail _ (List.Mem.tail _ (List.Mem.tail _ (List.Mem.head _)))) | exact List.Mem.tail _ (List.Mem.tail _ (List.Mem.tail _ (List.Mem.tail _ (List.Mem.tail _ (List.Mem.head _))))) | exact List.Mem.tail _ (List.Mem.tail _ (List.Mem.tail _ (List.Mem.tail _ (List.Mem.tail _ (List.Mem.tail _ (List.Mem.head _)))))) | exact List.Mem.tail _ (List.Mem.tail _ (List.Mem.tail _ (List.Mem.tail _ (List.Mem.tail _ (List.Mem.tail _ (List.Mem.tail _ (List.Mem.head _))))))) | exact List.Mem.tail _ (List.Mem.tail _ (List.Mem.tail _ (List.Mem.tail _ (List.Mem.tail _ (List.Mem.tail _ (List.Mem.tail _ (List.Mem.tail _ (List.Mem.head _)))))))) | exact (by assumption) | exact List.Mem.tail _ ((by assumption)) | exact List.Mem.tail _ (List.Mem.tail _ ((by assumption))) | exact List.Mem.tail _ (List.Mem.tail _ (List.Mem.tail _ ((by assumption)))) | exact List.Mem.tail _ (List.Mem.tail _ (List.Mem.tail _ (List.Mem.tail _ ((by assumption))))) | exact List.Mem.tail _ (List.Mem.tail _ (List.Mem.tail _ (List.Mem.tail _ (List.Mem.tail _ ((by assumption))))))) | exact needs0 | exact needs2 (by first | exact List.Mem.head _ | exact List.Mem.tail _ (List.Mem.head _) | exact List.Mem.tail _ (List.Mem.tail _ (List.Mem.head _)) | exact List.Mem.tail _ (List.Mem.tail _ (List.Mem.tail _ (List.Mem.head _))) | exact List.Mem.tail _ (List.Mem.tail _ (List.Mem.tail _ (List.Mem.tail _ (List.Mem.head _)))) | exact List.Mem.tail _ (List.Mem.tail _ (List.Mem.tail _ (List.Mem.tail _ (List.Mem.tail _ (List.Mem.head _))))) | exact List.Mem.tail _ (List.Mem.tail _ (List.Mem.tail _ (List.Mem.tail _ (List.Mem.tail _ (List.Mem.tail _ (List.Mem.head _)))))) | exact List.Mem.tail _ (List.Mem.tail _ (List.Mem.tail _ (List.Mem.tail _ (List.Mem.tail _ (List.Mem.tail _ (List.Mem.tail _ (List.Mem.head _))))))) | exact List.Mem.tail _ (List.Mem.tail _ (List.Mem.tail _ (List.Mem.tail _ (List.Mem.tail _ (List.Mem.tail _ (List.Mem.tail _ (List.Mem.tail _ (List.Mem.head _)))))))) | exact (by assumption) | exact List.Mem.tail _ ((by assumption)) | exact List.Mem.tail _ (List.Mem.tail _ ((by assumption))) | exact List.Mem.tail _ (List.Mem.tail _ (List.Mem.tail _ ((by assumption)))) | exact List.Mem.tail _ (List.Mem.tail _ (List.Mem.tail _ (List.Mem.tail _ ((by assumption))))) | exact List.Mem.tail _ (List.Mem.tail _ (List.Mem.tail _ (List.Mem.tail _ (List.Mem.tail _ ((by assumption))))))) (by first | exact List.Mem.head _ | exact List.Mem.tail _ (List.Mem.head _) | exact List.Mem.tail _ (List.Mem.tail _ (List.Mem.head _)) | exact List.Mem.tail _ (List.Mem.tail _ (List.Mem.tail _ (List.Mem.head _))) | exact List.Mem.tail _ (List.Mem.tail _ (List.Mem.tail _ (List.Mem.tail _ (List.Mem.head _)))) | exact List.Mem.tail _ (List.Mem.tail _ (List.Mem.tail _ (List.Mem.tail _ (List.Mem.tail _ (List.Mem.head _))))) | exact List.Mem.tail _ (List.Mem.tail _ (List.Mem.tail _ (List.Mem.tail _ (List.Mem.tail _ (List.Mem.tail _ (List.Mem.head _)))))) | exact List.Mem.tail _ (List.Mem.tail _ (List.Mem.tail _ (List.Mem.tail _ (List.Mem.tail _ (List.Mem.tail _ (List.Mem.tail _ (List.Mem.head _))))))) | exact List.Mem.tail _ (List.Mem.tail _ (List.Mem.tail _ (List.Mem.tail _ (List.Mem.tail _ (List.Mem.tail _ (List.Mem.tail _ (List.Mem.tail _ (List.Mem.head _)))))))) | exact (by assumption) | exact List.Mem.tail _ ((by assumption)) | exact List.Mem.tail _ (List.Mem.tail _ ((by assumption))) | exact List.Mem.tail _ (List.Mem.tail _ (List.Mem.tail _ ((by assumption)))) | exact List.Mem.tail _ (List.Mem.tail _ (List.Mem.tail _ (List.Mem.tail _ ((by assumption))))) | exact List.Mem.tail _ (List.Mem.tail _ (List.Mem.tail _ (List.Mem.tail _ (List.Mem.tail _ ((by assumption))))))) | exact needs3 (by first | exact List.Mem.head _ | exact List.Mem.tail _ (List.Mem.head _) | exact List.Mem.tail _ (List.Mem.tail _ (List.Mem.head _)) | exact List.Mem.tail _ (List.Mem.tail _ (List.Mem.tail _ (List.Mem.head _))) | exact List.Mem.tail _ (List.Mem.tail _ (List.Mem.tail _ (List.Mem.tail _ (List.Mem.head _)))) | exact List.Mem.tail _ (List.Mem.tail _ (List.Mem.tail _ (List.Mem.tail _ (List.Mem.tail _ (List.Mem.head _))))) | exact List.Mem.tail _ (List.Mem.tail _ (List.Mem.tail _ (List.Mem.tail _ (List.Mem.tail _ (List.Mem.tail _ (List.Mem.head _)))))) | exact List.Mem.tail _ (List.Mem.tail _ (List.Mem.tail _ (List.Mem.tail _ (List.Mem.tail _ (List.Mem.tail _ (List.Mem.tail _ (List.Mem.head _))))))) | exact List.Mem.tail _ (List.Mem.tail _ (List.Mem.tail _ (List.Mem.tail _ (List.Mem.tail _ (List.Mem.tail _ (List.Mem.tail _ (List.Mem.tail _ (List.Mem.head _)))))))) | exact (by assumption) | exact List.Mem.tail _ ((by assumption)) | exact List.Mem.tail _ (List.Mem.tail _ ((by assumption))) | exact List.Mem.tail _ (List.Mem.tail _ (List.Mem.tail _ ((by assumption)))) | exact List.Mem.tail _ (List.Mem.tail _ (List.Mem.tail _ (List.Mem.tail _ ((by assumption))))) | exact List.Mem.tail _ (List.Mem.tail _ (List.Mem.tail _ (List.Mem.tail _ (List.Mem.tail _ ((by assumption))))))) (by first | exact List.Mem.head _ | exact List.Mem.tail _ (List.Mem.head _) | exact List.Mem.tail _ (List.Mem.tail _ (List.Mem.head _)) | exact List.Mem.tail _ (List.Mem.tail _ (List.Mem.tail _ (List.Mem.head _))) | exact List.Mem.tail _ (List.Mem.tail _ (List.Mem.tail _ (List.Mem.tail _ (List.Mem.head _)))) | exact List.Mem.tail _ (List.Mem.tail _ (List.Mem.tail _ (List.Mem.tail _ (List.Mem.tail _ (List.Mem.head _))))) | exact List.Mem.tail _ (List.Mem.tail _ (List.Mem.tail _ (List.Mem.tail _ (List.Mem.tail _ (List.Mem.tail _ (List.Mem.head _)))))) | exact List.Mem.tail _ (List.Mem.tail _ (List.Mem.tail _ (List.Mem.tail _ (List.Mem.tail _ (List.Mem.tail _ (List.Mem.tail _ (List.Mem.head _))))))) | exact List.Mem.tail _ (List.Mem.tail _ (List.Mem.tail _ (List.Mem.tail _ (List.Mem.tail _ (List.Mem.tail _ (List.Mem.tail _ (List.Mem.tail _ (List.Mem.head _)))))))) | exact (by assumption) | exact List.Mem.tail _ ((by assumption)) | exact List.Mem.tail _ (List.Mem.tail _ ((by assumption))) | exact List.Mem.tail _ (List.Mem.tail _ (List.Mem.tail _ ((by assumption)))) | exact List.Mem.tail _ (List.Mem.tail _ (List.Mem.tail _ (List.Mem.tail _ ((by assumption))))) | exact List.Mem.tail _ (List.Mem.tail _ (List.Mem.tail _ (List.Mem.tail _ (List.Mem.tail _ ((by assumption))))))) (by first | exact List.Mem.head _ | exact List.Mem.tail _ (List.Mem.head _) | exact List.Mem.tail _ (List.Mem.tail _ (List.Mem.head _)) | exact List.Mem.tail _ (List.Mem.tail _ (List.Mem.tail _ (List.Mem.head _))) | exact List.Mem.tail _ (List.Mem.tail _ (List.Mem.tail _ (List.Mem.tail _ (List.Mem.head _)))) | exact List.Mem.tail _ (List.Mem.tail _ (List.Mem.tail _ (List.Mem.tail _ (List.Mem.tail _ (List.Mem.head _))))) | exact List.Mem.tail _ (List.Mem.tail _ (List.Mem.tail _ (List.Mem.tail _ (List.Mem.tail _ (List.Mem.tail _ (List.Mem.head _)))))) | exact List.Mem.tail _ (List.Mem.tail _ (List.Mem.tail _ (List.Mem.tail _ (List.Mem.tail _ (List.Mem.tail _ (List.Mem.tail _ (List.Mem.head _))))))) | exact List.Mem.tail _ (List.Mem.tail _ (List.Mem.tail _ (List.Mem.tail _ (List.Mem.tail _ (List.Mem.tail _ (List.Mem.tail _ (List.Mem.tail _ (List.Mem.head _)))))))) | exact (by assumption) | exact List.Mem.tail _ ((by assumption)) | exact List.Mem.tail _ (List.Mem.tail _ ((by assumption))) | exact List.Mem.tail _ (List.Mem.tail _ (List.Mem.tail _ ((by assumption)))) | exact List.Mem.tail _ (List.Mem.tail _ (List.Mem.tail _ (List.Mem.tail _ ((by assumption))))) | exact List.Mem.tail _ (List.Mem.tail _ (List.Mem.tail _ (List.Mem.tail _ (List.Mem.tail _ ((by assumption)))))))) ?_)
  clear hS; rintro v23 _ w ⟨D23, rfl, ho23⟩ hS; (try simp only [List.cons_append, List.nil_append] at hS)
  refine ⟨by first | exact hS | exact hS.tail1 | exact hS.tail1.tail1 | exact hS.tail1.tail1.tail1, ?_⟩
  first | (refine pl_take rfl (yes_none rfl) (vr_fieldAddr fo_92_0 rfl) ?_) | (refine pl_take rfl (yes_none rfl) (vr_fieldAddrV fo_92_0 rfl (by first | assumption | (refine Own.view ?_ (by assumption); exact fun _ => rfl) | exact OwnB.view (by assumption)) (by first | omega | (simp <;> omega))) ?_)
  refine pl_end hS rfl (yes_none rfl) ?_
  clear hS; intro w hS
  refine (ow_store1 (v := .map _) hS sz_89 rfl rfl (by first | rfl | exact Own.isOne (by assumption)) (by first | exact Has.here | exact Has.there (Has.here) | exact Has.there (Has.there (Has.here)) | exact Has.there (Has.there (Has.there (Has.here))) | exact Has.there (Has.there (Has.there (Has.there (Has.here)))) | exact Has.there (Has.there (Has.there (Has.there (Has.there (Has.here))))) | exact Has.there (Has.there (Has.there (Has.there (Has.there (Has.there (Has.here)))))) | exact Has.there (Has.there (Has.there (Has.there (Has.there (Has.there (Has.there (Has.here)))))))) (by simp) ?_)
  clear hS; intro w hS; try simp only [List.set_cons_zero, List.set_cons_succ] at hS
  first | (refine pl_take rfl (yes_none rfl) (vr_fieldAddr fo_92_1 rfl) ?_) | (refine pl_take rfl (yes_none rfl) (vr_fieldAddrV fo_92_1 rfl (by first | assumption | (refine Own.view ?_ (by assumption); exact fun _ => rfl) | exact OwnB.view (by assumption)) (by first | omega | (simp <;> omega))) ?_)
  refine pl_end hS rfl (yes_none rfl) ?_
  clear hS; intro w hS
  refine (ow_store1 (v := v18) hS sz_90 rfl rfl (by first | rfl | exact Own.isOne (by assumption)) (by first | exact Has.here | exact Has.there (Has.here) | exact Has.there (Has.there (Has.here)) | exact Has.there (Has.there (Has.there (Has.here))) | exact Has.there (Has.there (Has.there (Has.there (Has.here)))) | exact Has.there (Has.there (Has.there (Has.there (Has.there (Has.here))))) | exact Has.there (Has.there (Has.there (Has.there (Has.there (Has.there (Has.here)))))) | exact Has.there (Has.there (Has.there (Has.there (Has.there (Has.there (Has.there (Has.here)))))))) (by simp) ?_)
  clear hS; intro w hS; try simp only [List.set_cons_zero, List.set_cons_succ] at hS
  first | (refine pl_take rfl (yes_none rfl) (vr_fieldAddr fo_92_7 rfl) ?_) | (refine pl_take rfl (yes_none rfl) (vr_fieldAddrV fo_92_7 rfl (by first | assumption | (refine Own.view ?_ (by assumption); exact fun _ => rfl) | exact OwnB.view (by assumption)) (by first | omega | (simp <;> omega))) ?_)
  refine pl_end hS rfl (yes_none rfl) ?_
  clear hS; intro w hS
  refine (ow_store1 (v := v23) hS sz_23 rfl rfl (by first | rfl | exact Own.isOne (by assumption)) (by first | exact Has.here | exact Has.there (Has.here) | exact Has.there (Has.there (Has.here)) | exact Has.there (Has.there (Has.there (Has.here))) | exact Has.there (Has.there (Has.there (Has.there (Has.here)))) | exact Has.there (Has.there (Has.there (Has.there (Has.there (Has.here))))) | exact Has.there (Has.there (Has.there (Has.there (Has.there (Has.there (Has.here)))))) | exact Has.there (Has.there (Has.there (Has.there (Has.there (Has.there (Has.there (Has.here)))))))) (by simp) ?_)
  clear hS; intro w hS; try simp only [List.set_cons_zero, List.set_cons_succ] at hS
  refine pl_nil hS ?_
  clear hS; intro w hS
  refine hK5 _ _ ?_
  refine cw_seq fun K6 hK6 => ?_
  refine cw_region ?_
  refine wl_op rfl rfl (ow_vr (vr_assign (v := .pointer _) rfl) ?_)
  refine wl_nil ?_
  refine hK6 _ _ ?_
  refine cw_ret ?_
  refine ret_one (fn := Try.f58) (n := 27) (t := 2) (.inl rfl) rfl rfl ?_
  exact ⟨[_, _], ⟨b3, _, rfl, rfl, DiskAt.mk (d := d) hm13 ho18 ho23⟩, ((hS.front3.perm (flat_cons ((flat_cons flat_swap).trans (flat_swap.trans (flat_cons flat_swap))))).perm (by simp [List.append_assoc]))⟩
def twD1 (a b : List UInt8) : Dsk := ⟨setM (fun _ => none) 0 (fullB a), [(1, fullB b)], 3, false, 3, false, 0, []⟩
def twD2 (a b c : List UInt8) : Dsk := ⟨setM (fun _ => none) 0 (fullB a), [(1, fullB b), (2, fullB c)], 3, false, 4, false, 0, []⟩
theorem sector_twins (a b c : List UInt8) (ha : a.length ≤ 9223372036854775807) (hb : b.length ≤ 9223372036854775807) (hc : c.length ≤ 9223372036854775807) (ks : List Int) (vk : Value) (Δk : Chunk) (hvk : View 1 encI vk ks Δk) (hkl : ks.length ≤ maxLen) :
    FnG Try.prog 11 [str a, str b, str c, vk] [Δk] (fun u Δs => u = .bool true ∧ Δs = []) := by
  refine FnG.mk fun E F w hS hF => ?_
  have hFk : Δk ∈ F := hF _ (by simp)
  have h11 : keptB [1, 1] 0 = true := by rw [kept_some (by simp)]; simp [and_one]
  have h12 : keptB [1, 1] 1 = true := by rw [kept_some (by simp)]; simp [and_one]
  have h00 : keptB [] 0 = false := rfl
  refine returns_enter Try.func11 rfl Try.ntmps11 rfl ?_
  refine cw_seq fun K1 hK1 => ?_
  refine cw_region ?_
  refine wl_op rfl rfl (ow_vr (vr_assign (v := .bool false) rfl) ?_)
  refine wl_nil ?_
  refine hK1 _ _ ?_
  refine cw_seq fun K2 hK2 => ?_
  refine cw_seq fun K3 hK3 => ?_
  refine cw_region ?_
  refine wl_op rfl rfl (ow_vr (vr_move (v := vk) rfl) ?_)
  first | (refine wl_op rfl rfl (ow_vr (vr_len_sl Try.underlying23 rfl) ?_)) | (refine wl_op rfl rfl (ow_vr (vr_len_v (v := vk) Try.underlying23 rfl (by first | assumption | (refine Own.view ?_ (by assumption); exact fun _ => rfl) | exact OwnB.view (by assumption))) ?_))
  refine wl_op rfl rfl (ow_vr (vr_gtr rfl rfl) ?_)
  refine wl_op rfl rfl (ow_vr (vr_move (v := .bool _) rfl) ?_)
  refine wl_split 22 rfl (fun hc => ?_) (fun hc => ?_)
  · (try simp only [decide_eq_true_eq, decide_eq_false_iff_not, Bool.not_eq_true, Bool.not_eq_false, Bool.not_eq_true', Bool.not_eq_false', Bool.and_eq_true, Bool.or_eq_true, Bool.and_eq_false_iff, Bool.or_eq_false_iff, Int.not_lt, Int.not_le, gt_iff_lt, ge_iff_le, ne_eq, Decidable.not_not, beq_iff_eq] at hc)
    have hg22 := hc; clear hc
    refine wl_noD rfl rfl rfl rfl rfl rfl ?_
    refine wl_noD rfl rfl rfl rfl rfl rfl ?_
    refine wl_op rfl rfl (ow_vr (vr_pick (b := true) (v := .bool _) rfl rfl) ?_)
    refine wl_nil ?_
    refine hK3 _ _ ?_
    refine cw_cond_t rfl rfl (rfl) ?_
    refine cw_seq fun K4 hK4 => ?_
    refine cw_region ?_
    refine wl_op rfl rfl (ow_fn (vs := []) en_12 rfl hS (alive2) ?_)
    clear hS; rintro _ _ w ⟨rfl, rfl⟩ hS; (try simp only [List.cons_append, List.nil_append] at hS)
    refine wl_op rfl rfl (ow_vr (vr_assign (v := .bool _) rfl) ?_)
    refine wl_nil ?_
    refine hK4 _ _ ?_
    refine cw_ret ?_
    refine thenF_ret (?_)
    refine ret_one (fn := Try.f11) (n := 130) (t := 8) (.inl rfl) rfl rfl ?_
    exact ⟨[], ⟨rfl, rfl⟩, hS⟩
  · (try simp only [decide_eq_true_eq, decide_eq_false_iff_not, Bool.not_eq_true, Bool.not_eq_false, Bool.not_eq_true', Bool.not_eq_false', Bool.and_eq_true, Bool.or_eq_true, Bool.and_eq_false_iff, Bool.or_eq_false_iff, Int.not_lt, Int.not_le, gt_iff_lt, ge_iff_le, ne_eq, Decidable.not_not, beq_iff_eq] at hc)
    have hg22 := hc; clear hc
    refine wl_yes rfl rfl rfl rfl rfl (ow_fn (vs := []) en_12 rfl hS (alive2) ?_)
    clear hS; rintro _ _ w ⟨rfl, rfl⟩ hS; (try simp only [List.cons_append, List.nil_append] at hS)
    refine wl_yes rfl rfl rfl rfl rfl (ow_vr (vr_not rfl) ?_)
    refine wl_op rfl rfl (ow_vr (vr_pick (b := false) (v := .bool _) rfl rfl) ?_)
    refine wl_nil ?_
    refine hK3 _ _ ?_
    refine cw_cond rfl rfl (fun hc => ?_) (fun hc => ?_)
    · (try simp only [decide_eq_true_eq, decide_eq_false_iff_not, Bool.not_eq_true, Bool.not_eq_false, Bool.not_eq_true', Bool.not_eq_false', Bool.and_eq_true, Bool.or_eq_true, Bool.and_eq_false_iff, Bool.or_eq_false_iff, Int.not_lt, Int.not_le, gt_iff_lt, ge_iff_le, ne_eq, Decidable.not_not, beq_iff_eq] at hc)
      have hc0 := hc; clear hc
      refine cw_seq fun K5 hK5 => ?_
      refine cw_region ?_
      refine wl_op rfl rfl (ow_fn (vs := []) en_12 rfl hS (alive2) ?_)
      clear hS; rintro _ _ w ⟨rfl, rfl⟩ hS; (try simp only [List.cons_append, List.nil_append] at hS)
      refine wl_op rfl rfl (ow_vr (vr_assign (v := .bool _) rfl) ?_)
      refine wl_nil ?_
      refine hK5 _ _ ?_
      refine cw_ret ?_
      refine thenF_ret (?_)
      refine ret_one (fn := Try.f11) (n := 130) (t := 8) (.inl rfl) rfl rfl ?_
      exact ⟨[], ⟨rfl, rfl⟩, hS⟩
    · (try simp only [decide_eq_true_eq, decide_eq_false_iff_not, Bool.not_eq_true, Bool.not_eq_false, Bool.not_eq_true', Bool.not_eq_false', Bool.and_eq_true, Bool.or_eq_true, Bool.and_eq_false_iff, Bool.or_eq_false_iff, Int.not_lt, Int.not_le, gt_iff_lt, ge_iff_le, ne_eq, Decidable.not_not, beq_iff_eq] at hc)
      have hc0 := hc; clear hc
      refine cw_skip ?_
      refine hK2 _ _ ?_
      refine cw_seq fun K6 hK6 => ?_
      refine cw_region ?_
      refine wl_op rfl rfl (ow_fn (vs := [.int .i64 _]) en_13 rfl hS (disk_New' (n := 3) (by omega) (by omega)) ?_)
      clear hS; rintro _ _ w ⟨p, Δ0, rfl, rfl, hd0⟩ hS; (try simp only [List.cons_append, List.nil_append] at hS)
      refine wl_op rfl rfl (ow_vr (vr_assign (v := .pointer _) rfl) ?_)
      refine wl_nil ?_
      refine hK6 _ _ ?_
      refine cw_seq fun K7 hK7 => ?_
      refine cw_seq fun K8 hK8 => ?_
      refine cw_region ?_
      refine wl_op rfl rfl (ow_vr (vr_move (v := .pointer _) rfl) ?_)
      refine wl_op rfl rfl (ow_vr (vr_eqnil Try.underlying25 rfl) ?_)
      refine wl_op rfl rfl (ow_vr (vr_move (v := .bool _) rfl) ?_)
      refine wl_known 30 rfl (c := false) (rfl) ?_
      refine wl_yes rfl rfl rfl rfl rfl (ow_vr (vr_move (v := .pointer _) rfl) ?_)
      refine wl_yes rfl rfl rfl rfl rfl (ow_vr (vr_move (v := str _) rfl) ?_)
      refine wl_yes rfl rfl rfl rfl rfl (ow_fn (vs := [str _]) en_14 rfl hS (law_Full a ha) ?_)
      clear hS; rintro _ _ w ⟨rfl, rfl⟩ hS; (try simp only [List.cons_append, List.nil_append] at hS)
      refine wl_yes rfl rfl rfl rfl rfl (ow_fn (vs := [.pointer _, .int .i64 _, str _]) en_15 rfl hS (disk_WriteOk hd0 0 (fullB a) (by simp [newD]) (by simp [newD]) rfl rfl (by omega) (by simp [newD]) (fullB_length _) (by simp [newD, inI64])) ?_)
      clear hS; rintro _ _ w ⟨rfl, Δ1, rfl, hd1⟩ hS; (try simp only [List.cons_append, List.nil_append] at hS)
      refine wl_yes rfl rfl rfl rfl rfl (ow_vr (vr_neq rfl rfl) ?_)
      refine wl_op rfl rfl (ow_vr (vr_pick (b := false) (v := .bool _) rfl rfl) ?_)
      refine wl_op rfl rfl (ow_vr (vr_move (v := .bool _) rfl) ?_)
      refine wl_known 37 rfl (c := false) (by decide) ?_
      refine wl_yes rfl rfl rfl rfl rfl (ow_vr (vr_move (v := .pointer _) rfl) ?_)
      refine wl_yes rfl rfl rfl rfl rfl (ow_fn (vs := [.pointer _]) en_56 rfl hS (disk_BarrierOk hd1 (by simp [newD]) (by simp [newD]) rfl rfl (by simp [newD, inI64])) ?_)
      clear hS; rintro _ _ w ⟨rfl, Δ2, rfl, hd2⟩ hS; (try simp only [List.cons_append, List.nil_append] at hS)
      refine wl_yes rfl rfl rfl rfl rfl (ow_vr (vr_neq rfl rfl) ?_)
      refine wl_op rfl rfl (ow_vr (vr_pick (b := false) (v := .bool _) rfl rfl) ?_)
      refine wl_op rfl rfl (ow_vr (vr_move (v := .bool _) rfl) ?_)
      refine wl_known 42 rfl (c := false) (by decide) ?_
      refine wl_yes rfl rfl rfl rfl rfl (ow_vr (vr_move (v := .pointer _) rfl) ?_)
      refine wl_yes rfl rfl rfl rfl rfl (ow_vr (vr_move (v := str _) rfl) ?_)
      refine wl_yes rfl rfl rfl rfl rfl (ow_fn (vs := [str _]) en_14 rfl hS (law_Full b hb) ?_)
      clear hS; rintro _ _ w ⟨rfl, rfl⟩ hS; (try simp only [List.cons_append, List.nil_append] at hS)
      refine wl_yes rfl rfl rfl rfl rfl (ow_fn (vs := [.pointer _, .int .i64 _, str _]) en_15 rfl hS (disk_WriteOk hd2 1 (fullB b) (by simp [newD]) (by simp [newD]) rfl rfl (by omega) (by simp [newD]) (fullB_length _) (by simp [newD, inI64])) ?_)
      clear hS; rintro _ _ w ⟨rfl, Δ3, rfl, hd3⟩ hS; (try simp only [List.cons_append, List.nil_append] at hS)
      refine wl_yes rfl rfl rfl rfl rfl (ow_vr (vr_neq rfl rfl) ?_)
      refine wl_op rfl rfl (ow_vr (vr_pick (b := false) (v := .bool _) rfl rfl) ?_)
      refine wl_nil ?_
      refine hK8 _ _ ?_
      refine cw_cond_f rfl rfl (by decide) ?_
      refine cw_skip ?_
      refine hK7 _ _ ?_
      refine cw_seq fun K9 hK9 => ?_
      replace hd3 : DiskAt p (twD1 a b) Δ3 := hd3
      refine cw_region ?_
      refine wl_op rfl rfl (ow_vr (vr_move (v := .pointer _) rfl) ?_)
      refine wl_op rfl rfl (ow_fn (vs := [.pointer _]) en_58 rfl hS (disk_Twin hd3 (by simp [twD1]) (by simp [twD1])) ?_)
      clear hS; rintro _ _ w ⟨q, Δt, rfl, rfl, hdt⟩ hS; (try simp only [List.cons_append, List.nil_append] at hS)
      refine wl_op rfl rfl (ow_vr (vr_assign (v := .pointer _) rfl) ?_)
      refine wl_nil ?_
      refine hK9 _ _ ?_
      refine cw_seq fun K10 hK10 => ?_
      refine cw_seq fun K11 hK11 => ?_
      refine cw_region ?_
      refine wl_op rfl rfl (ow_vr (vr_move (v := .pointer _) rfl) ?_)
      refine wl_op rfl rfl (ow_vr (vr_eqnil Try.underlying25 rfl) ?_)
      refine wl_op rfl rfl (ow_vr (vr_move (v := .bool _) rfl) ?_)
      refine wl_known 53 rfl (c := false) (rfl) ?_
      refine wl_yes rfl rfl rfl rfl rfl (ow_vr (vr_move (v := .pointer _) rfl) ?_)
      refine wl_yes rfl rfl rfl rfl rfl (ow_fn (vs := [.pointer _]) en_57 rfl hS (disk_Waits hdt) ?_)
      clear hS; rintro _ _ w ⟨rfl, rfl⟩ hS; (try simp only [List.cons_append, List.nil_append] at hS)
      refine wl_yes rfl rfl rfl rfl rfl (ow_vr (vr_neq rfl rfl) ?_)
      refine wl_op rfl rfl (ow_vr (vr_pick (b := false) (v := .bool _) rfl rfl) ?_)
      refine wl_op rfl rfl (ow_vr (vr_move (v := .bool _) rfl) ?_)
      refine wl_known 58 rfl (c := false) (rfl) ?_
      refine wl_yes rfl rfl rfl rfl rfl (ow_vr (vr_move (v := .pointer _) rfl) ?_)
      refine wl_yes rfl rfl rfl rfl rfl (ow_vr (vr_move (v := str _) rfl) ?_)
      refine wl_yes rfl rfl rfl rfl rfl (ow_fn (vs := [str _]) en_14 rfl hS (law_Full c hc) ?_)
      clear hS; rintro _ _ w ⟨rfl, rfl⟩ hS; (try simp only [List.cons_append, List.nil_append] at hS)
      refine wl_yes rfl rfl rfl rfl rfl (ow_fn (vs := [.pointer _, .int .i64 _, str _]) en_15 rfl hS (disk_WriteOk hdt 2 (fullB c) (by simp [twD1]) (by simp [twD1]) rfl rfl (by omega) (by simp [twD1]) (fullB_length _) (by simp [twD1, inI64])) ?_)
      clear hS; rintro _ _ w ⟨rfl, Δt1, rfl, hdt1⟩ hS; (try simp only [List.cons_append, List.nil_append] at hS)
      refine wl_yes rfl rfl rfl rfl rfl (ow_vr (vr_neq rfl rfl) ?_)
      refine wl_op rfl rfl (ow_vr (vr_pick (b := false) (v := .bool _) rfl rfl) ?_)
      refine wl_nil ?_
      refine hK11 _ _ ?_
      refine cw_cond_f rfl rfl (by decide) ?_
      refine cw_skip ?_
      refine hK10 _ _ ?_
      refine cw_seq fun K12 hK12 => ?_
      replace hdt1 : DiskAt q (twD2 a b c) Δt1 := hdt1
      replace hS := hS.front1
      refine cw_region ?_
      refine wl_op rfl rfl (ow_vr (vr_move (v := .pointer _) rfl) ?_)
      refine wl_op rfl rfl (ow_fn (vs := [.pointer _, .slice _ _ _]) en_17 rfl hS (disk_CrashNil hd3 (by simp [twD1])) ?_)
      clear hS; rintro _ _ w ⟨rfl, Δ4, rfl, hd4⟩ hS; (try simp only [List.cons_append, List.nil_append] at hS)
      refine wl_nil ?_
      refine hK12 _ _ ?_
      refine cw_seq fun K13 hK13 => ?_
      replace hS := hS.front1
      have hcr1 : (crashD (twD1 a b) []).2 = ⟨setM (fun _ => none) 0 (fullB a), [], 3, true, 3, false, 0, []⟩ := rfl
      rw [hcr1] at hd4
      refine cw_region ?_
      refine wl_op rfl rfl (ow_vr (vr_move (v := .pointer _) rfl) ?_)
      refine wl_op rfl rfl (ow_buildSliceD (m := 1) (len := 2) (vs := [.int .i64 _, .int .i64 _]) (cs := [.int .i64 _, .int .i64 _]) hS Try.underlying23 if_3 rfl (by decide) (by decide) rfl rfl (by simp [Value.cells]) rfl ?_)
      clear hS; intro b68 w hS
      replace hS := hS.front1
      refine wl_op rfl rfl (ow_fnm (vs := [.pointer _, .slice _ _ _]) en_17 rfl hS (disk_CrashM hdt1 _ [1, 1] _ (View.lits rfl rfl rfl) (by simp) (by simp [twD2])) (by first | exact needs1 (by first | exact List.Mem.head _ | exact List.Mem.tail _ (List.Mem.head _) | exact List.Mem.tail _ (List.Mem.tail _ (List.Mem.head _)) | exact List.Mem.tail _ (List.Mem.tail _ (List.Mem.tail _ (List.Mem.head _))) | exact List.Mem.tail _ (List.Mem.tail _ (List.Mem.tail _ (List.Mem.tail _ (List.Mem.head _)))) | exact List.Mem.tail _ (List.Mem.tail _ (List.Mem.tail _ (List.Mem.tail _ (List.Mem.tail _ (List.Mem.head _))))) | exact List.Mem.tail _ (List.Mem.tail _ (List.Mem.tail _ (List.Mem.tail _ (List.Mem.tail _ (List.Mem.tail _ (List.Mem.head _)))))) | exact List.Mem.tail _ (List.Mem.tail _ (List.Mem.tail _ (List.Mem.tail _ (List.Mem.tail _ (List.Mem.tail _ (List.Mem.tail _ (List.Mem.head _))))))) | exact List.Mem.tail _ (List.Mem.tail _ (List.Mem.tail _ (List.Mem.tail _ (List.Mem.tail _ (List.Mem.tail _ (List.Mem.tail _ (List.Mem.tail _ (List.Mem.head _)))))))) | exact (by assumption) | exact List.Mem.tail _ ((by assumption)) | exact List.Mem.tail _ (List.Mem.tail _ ((by assumption))) | exact List.Mem.tail _ (List.Mem.tail _ (List.Mem.tail _ ((by assumption)))) | exact List.Mem.tail _ (List.Mem.tail _ (List.Mem.tail _ (List.Mem.tail _ ((by assumption))))) | exact List.Mem.tail _ (List.Mem.tail _ (List.Mem.tail _ (List.Mem.tail _ (List.Mem.tail _ ((by assumption))))))) | exact needs0 | exact needs2 (by first | exact List.Mem.head _ | exact List.Mem.tail _ (List.Mem.head _) | exact List.Mem.tail _ (List.Mem.tail _ (List.Mem.head _)) | exact List.Mem.tail _ (List.Mem.tail _ (List.Mem.tail _ (List.Mem.head _))) | exact List.Mem.tail _ (List.Mem.tail _ (List.Mem.tail _ (List.Mem.tail _ (List.Mem.head _)))) | exact List.Mem.tail _ (List.Mem.tail _ (List.Mem.tail _ (List.Mem.tail _ (List.Mem.tail _ (List.Mem.head _))))) | exact List.Mem.tail _ (List.Mem.tail _ (List.Mem.tail _ (List.Mem.tail _ (List.Mem.tail _ (List.Mem.tail _ (List.Mem.head _)))))) | exact List.Mem.tail _ (List.Mem.tail _ (List.Mem.tail _ (List.Mem.tail _ (List.Mem.tail _ (List.Mem.tail _ (List.Mem.tail _ (List.Mem.head _))))))) | exact List.Mem.tail _ (List.Mem.tail _ (List.Mem.tail _ (List.Mem.tail _ (List.Mem.tail _ (List.Mem.tail _ (List.Mem.tail _ (List.Mem.tail _ (List.Mem.head _)))))))) | exact (by assumption) | exact List.Mem.tail _ ((by assumption)) | exact List.Mem.tail _ (List.Mem.tail _ ((by assumption))) | exact List.Mem.tail _ (List.Mem.tail _ (List.Mem.tail _ ((by assumption)))) | exact List.Mem.tail _ (List.Mem.tail _ (List.Mem.tail _ (List.Mem.tail _ ((by assumption))))) | exact List.Mem.tail _ (List.Mem.tail _ (List.Mem.tail _ (List.Mem.tail _ (List.Mem.tail _ ((by assumption))))))) (by first | exact List.Mem.head _ | exact List.Mem.tail _ (List.Mem.head _) | exact List.Mem.tail _ (List.Mem.tail _ (List.Mem.head _)) | exact List.Mem.tail _ (List.Mem.tail _ (List.Mem.tail _ (List.Mem.head _))) | exact List.Mem.tail _ (List.Mem.tail _ (List.Mem.tail _ (List.Mem.tail _ (List.Mem.head _)))) | exact List.Mem.tail _ (List.Mem.tail _ (List.Mem.tail _ (List.Mem.tail _ (List.Mem.tail _ (List.Mem.head _))))) | exact List.Mem.tail _ (List.Mem.tail _ (List.Mem.tail _ (List.Mem.tail _ (List.Mem.tail _ (List.Mem.tail _ (List.Mem.head _)))))) | exact List.Mem.tail _ (List.Mem.tail _ (List.Mem.tail _ (List.Mem.tail _ (List.Mem.tail _ (List.Mem.tail _ (List.Mem.tail _ (List.Mem.head _))))))) | exact List.Mem.tail _ (List.Mem.tail _ (List.Mem.tail _ (List.Mem.tail _ (List.Mem.tail _ (List.Mem.tail _ (List.Mem.tail _ (List.Mem.tail _ (List.Mem.head _)))))))) | exact (by assumption) | exact List.Mem.tail _ ((by assumption)) | exact List.Mem.tail _ (List.Mem.tail _ ((by assumption))) | exact List.Mem.tail _ (List.Mem.tail _ (List.Mem.tail _ ((by assumption)))) | exact List.Mem.tail _ (List.Mem.tail _ (List.Mem.tail _ (List.Mem.tail _ ((by assumption))))) | exact List.Mem.tail _ (List.Mem.tail _ (List.Mem.tail _ (List.Mem.tail _ (List.Mem.tail _ ((by assumption)))))))) ?_)
      clear hS; rintro v69 _ w ⟨rfl, Δt2, rfl, hdt2⟩ hS; (try simp only [List.cons_append, List.nil_append] at hS)
      refine wl_nil ?_
      refine hK13 _ _ ?_
      refine cw_seq fun K14 hK14 => ?_
      have hcr2 : (crashD (twD2 a b c) [1, 1]).2 = ⟨setM (setM (setM (fun _ => none) 0 (fullB a)) 1 (fullB b)) 2 (fullB c), [], 3, true, 4, false, 0, []⟩ := by simp [crashD, crashM, twD2, h11, h12]
      rw [hcr2] at hdt2
      replace hS := hS.front2
      refine cw_region ?_
      refine wl_op rfl rfl (ow_vr (vr_move (v := .pointer _) rfl) ?_)
      refine wl_op rfl rfl (ow_fn (vs := [.pointer _]) en_18 rfl hS (disk_Power hd4) ?_)
      clear hS; rintro _ _ w ⟨rfl, Δ5, rfl, hd5⟩ hS; (try simp only [List.cons_append, List.nil_append] at hS)
      refine wl_nil ?_
      refine hK14 _ _ ?_
      refine cw_seq fun K15 hK15 => ?_
      replace hS := hS.front1
      refine cw_region ?_
      refine wl_op rfl rfl (ow_vr (vr_move (v := .pointer _) rfl) ?_)
      refine wl_op rfl rfl (ow_fn (vs := [.pointer _]) en_18 rfl hS (disk_Power hdt2) ?_)
      clear hS; rintro _ _ w ⟨rfl, Δt3, rfl, hdt3⟩ hS; (try simp only [List.cons_append, List.nil_append] at hS)
      refine wl_nil ?_
      refine hK15 _ _ ?_
      refine cw_seq fun K16 hK16 => ?_
      replace hS := hS.front1
      refine cw_region ?_
      refine wl_op rfl rfl (ow_vr (vr_move (v := .pointer _) rfl) ?_)
      refine wl_op rfl rfl (ow_fn (vs := [.pointer _, .int .i64 _]) en_16 rfl hS (disk_ReadOk hd5 1 (by simp) rfl (by omega) (by simp)) ?_)
      clear hS; rintro _ _ w ⟨rfl, rfl⟩ hS; (try simp only [List.cons_append, List.nil_append] at hS)
      refine wl_op rfl rfl (ow_vr (vr_move (v := .tuple _) rfl) ?_)
      refine wl_op rfl rfl (ow_vr (vr_extract (v := str _) rfl rfl) ?_)
      refine wl_op rfl rfl (ow_vr (vr_extract (v := .int .i64 _) rfl rfl) ?_)
      refine wl_op rfl rfl (ow_vr (vr_assign (v := str _) rfl) ?_)
      refine wl_op rfl rfl (ow_vr (vr_assign (v := .int .i64 _) rfl) ?_)
      refine wl_nil ?_
      refine hK16 _ _ ?_
      refine cw_seq fun K17 hK17 => ?_
      replace hS := hS.front1
      refine cw_region ?_
      refine wl_op rfl rfl (ow_vr (vr_move (v := .pointer _) rfl) ?_)
      refine wl_op rfl rfl (ow_fn (vs := [.pointer _, .int .i64 _]) en_16 rfl hS (disk_ReadOk hdt3 1 (by simp) rfl (by omega) (by simp)) ?_)
      clear hS; rintro _ _ w ⟨rfl, rfl⟩ hS; (try simp only [List.cons_append, List.nil_append] at hS)
      refine wl_op rfl rfl (ow_vr (vr_move (v := .tuple _) rfl) ?_)
      refine wl_op rfl rfl (ow_vr (vr_extract (v := str _) rfl rfl) ?_)
      refine wl_op rfl rfl (ow_vr (vr_extract (v := .int .i64 _) rfl rfl) ?_)
      refine wl_op rfl rfl (ow_vr (vr_assign (v := str _) rfl) ?_)
      refine wl_op rfl rfl (ow_vr (vr_assign (v := .int .i64 _) rfl) ?_)
      refine wl_nil ?_
      refine hK17 _ _ ?_
      refine cw_seq fun K18 hK18 => ?_
      refine cw_region ?_
      refine wl_op rfl rfl (ow_vr (vr_move (v := .pointer _) rfl) ?_)
      refine wl_op rfl rfl (ow_fn (vs := [.pointer _, .int .i64 _]) en_16 rfl hS (disk_ReadOk hdt3 2 (by simp) rfl (by omega) (by simp)) ?_)
      clear hS; rintro _ _ w ⟨rfl, rfl⟩ hS; (try simp only [List.cons_append, List.nil_append] at hS)
      refine wl_op rfl rfl (ow_vr (vr_move (v := .tuple _) rfl) ?_)
      refine wl_op rfl rfl (ow_vr (vr_extract (v := str _) rfl rfl) ?_)
      refine wl_op rfl rfl (ow_vr (vr_extract (v := .int .i64 _) rfl rfl) ?_)
      refine wl_op rfl rfl (ow_vr (vr_assign (v := str _) rfl) ?_)
      refine wl_op rfl rfl (ow_vr (vr_assign (v := .int .i64 _) rfl) ?_)
      refine wl_nil ?_
      refine hK18 _ _ ?_
      refine cw_seq fun K19 hK19 => ?_
      replace hS := hS.front1
      refine cw_region ?_
      refine wl_op rfl rfl (ow_vr (vr_move (v := .pointer _) rfl) ?_)
      refine wl_op rfl rfl (ow_fn (vs := [.pointer _, .int .i64 _]) en_16 rfl hS (disk_ReadOk hd5 2 (by simp) rfl (by omega) (by simp)) ?_)
      clear hS; rintro _ _ w ⟨rfl, rfl⟩ hS; (try simp only [List.cons_append, List.nil_append] at hS)
      refine wl_op rfl rfl (ow_vr (vr_move (v := .tuple _) rfl) ?_)
      refine wl_op rfl rfl (ow_vr (vr_extract (v := str _) rfl rfl) ?_)
      refine wl_op rfl rfl (ow_vr (vr_extract (v := .int .i64 _) rfl rfl) ?_)
      refine wl_op rfl rfl (ow_vr (vr_assign (v := str _) rfl) ?_)
      refine wl_op rfl rfl (ow_vr (vr_assign (v := .int .i64 _) rfl) ?_)
      refine wl_nil ?_
      refine hK19 _ _ ?_
      refine cw_seq fun K20 hK20 => ?_
      refine cw_region ?_
      refine wl_op rfl rfl (ow_vr (vr_move (v := .int .i64 _) rfl) ?_)
      refine wl_op rfl rfl (ow_vr (vr_eql rfl rfl) ?_)
      refine wl_op rfl rfl (ow_vr (vr_move (v := .bool _) rfl) ?_)
      refine wl_known 96 rfl (c := true) (by decide) ?_
      refine wl_yes rfl rfl rfl rfl rfl (ow_vr (vr_move (v := .int .i64 _) rfl) ?_)
      refine wl_yes rfl rfl rfl rfl rfl (ow_vr (vr_eql rfl rfl) ?_)
      refine wl_op rfl rfl (ow_vr (vr_pick (b := true) (v := .bool _) rfl rfl) ?_)
      refine wl_op rfl rfl (ow_vr (vr_move (v := .bool _) rfl) ?_)
      refine wl_known 100 rfl (c := true) (by decide) ?_
      refine wl_yes rfl rfl rfl rfl rfl (ow_vr (vr_move (v := .int .i64 _) rfl) ?_)
      refine wl_yes rfl rfl rfl rfl rfl (ow_vr (vr_eql rfl rfl) ?_)
      refine wl_op rfl rfl (ow_vr (vr_pick (b := true) (v := .bool _) rfl rfl) ?_)
      refine wl_op rfl rfl (ow_vr (vr_move (v := .bool _) rfl) ?_)
      refine wl_known 104 rfl (c := true) (by decide) ?_
      refine wl_yes rfl rfl rfl rfl rfl (ow_vr (vr_move (v := .int .i64 _) rfl) ?_)
      refine wl_yes rfl rfl rfl rfl rfl (ow_vr (vr_eql rfl rfl) ?_)
      refine wl_op rfl rfl (ow_vr (vr_pick (b := true) (v := .bool _) rfl rfl) ?_)
      refine wl_op rfl rfl (ow_vr (vr_move (v := .bool _) rfl) ?_)
      refine wl_known 108 rfl (c := true) (by decide) ?_
      refine wl_yes rfl rfl rfl rfl rfl (ow_vr (vr_move (v := str _) rfl) ?_)
      refine wl_yes rfl rfl rfl rfl rfl (ow_fn (vs := [str _]) en_14 rfl hS (law_Full [] (by simp)) ?_)
      clear hS; rintro _ _ w ⟨rfl, rfl⟩ hS; (try simp only [List.cons_append, List.nil_append] at hS)
      refine wl_yes rfl rfl rfl rfl rfl (ow_vr (vr_eql_s rfl rfl) ?_)
      refine wl_op rfl rfl (ow_vr (vr_pick (b := true) (v := .bool _) rfl rfl) ?_)
      refine wl_op rfl rfl (ow_vr (vr_move (v := .bool _) rfl) ?_)
      refine wl_known 113 rfl (c := true) (by simp [readD, lastW, setM, full_nil]) ?_
      refine wl_yes rfl rfl rfl rfl rfl (ow_vr (vr_move (v := str _) rfl) ?_)
      refine wl_yes rfl rfl rfl rfl rfl (ow_vr (vr_move (v := str _) rfl) ?_)
      refine wl_yes rfl rfl rfl rfl rfl (ow_fn (vs := [str _]) en_14 rfl hS (law_Full b hb) ?_)
      clear hS; rintro _ _ w ⟨rfl, rfl⟩ hS; (try simp only [List.cons_append, List.nil_append] at hS)
      refine wl_yes rfl rfl rfl rfl rfl (ow_vr (vr_eql_s rfl rfl) ?_)
      refine wl_op rfl rfl (ow_vr (vr_pick (b := true) (v := .bool _) rfl rfl) ?_)
      refine wl_op rfl rfl (ow_vr (vr_move (v := .bool _) rfl) ?_)
      refine wl_known 119 rfl (c := true) (by simp [readD, lastW, setM]) ?_
      refine wl_yes rfl rfl rfl rfl rfl (ow_vr (vr_move (v := str _) rfl) ?_)
      refine wl_yes rfl rfl rfl rfl rfl (ow_vr (vr_move (v := str _) rfl) ?_)
      refine wl_yes rfl rfl rfl rfl rfl (ow_fn (vs := [str _]) en_14 rfl hS (law_Full c hc) ?_)
      clear hS; rintro _ _ w ⟨rfl, rfl⟩ hS; (try simp only [List.cons_append, List.nil_append] at hS)
      refine wl_yes rfl rfl rfl rfl rfl (ow_vr (vr_eql_s rfl rfl) ?_)
      refine wl_op rfl rfl (ow_vr (vr_pick (b := true) (v := .bool _) rfl rfl) ?_)
      refine wl_op rfl rfl (ow_vr (vr_move (v := .bool _) rfl) ?_)
      refine wl_known 125 rfl (c := true) (by simp [readD, lastW, setM]) ?_
      refine wl_yes rfl rfl rfl rfl rfl (ow_vr (vr_move (v := str _) rfl) ?_)
      refine wl_yes rfl rfl rfl rfl rfl (ow_fn (vs := [str _]) en_14 rfl hS (law_Full [] (by simp)) ?_)
      clear hS; rintro _ _ w ⟨rfl, rfl⟩ hS; (try simp only [List.cons_append, List.nil_append] at hS)
      refine wl_yes rfl rfl rfl rfl rfl (ow_vr (vr_eql_s rfl rfl) ?_)
      refine wl_op rfl rfl (ow_vr (vr_pick (b := true) (v := .bool _) rfl rfl) ?_)
      refine wl_op rfl rfl (ow_vr (vr_assign (v := .bool _) rfl) ?_)
      refine wl_nil ?_
      refine hK20 _ _ ?_
      refine cw_ret ?_
      refine ret_one (fn := Try.f11) (n := 130) (t := 8) (.inl rfl) rfl rfl ?_
      exact ⟨[], ⟨congrArg Value.bool (by simp [readD, lastW, setM, full_nil]), rfl⟩, hS.tail1.tail1.tail1⟩
end Go.Proofs.Ytjhbmogpicddeaa
