/- Memory as known blocks: 'Sat E Γ w': each block that Γ names is there, no two are one; streams as E has them. And the operations on memory. -/
import Derived.Test.YtjcagoighpmdkaaGreatDoorOps
namespace Go.Proofs.YtjcagoighpmdkaaGreatDoor
open Go Go.RowKit
set_option linter.unusedVariables false
set_option linter.unusedSimpArgs false

abbrev Chunk := List (Nat × Obj)
structure Sat (E : World) (Γ : List Chunk) (w : World) : Prop where
  os : w.os = E.os
  tape : w.tape = E.tape
  output : w.output = E.output
  size : E.heap.size ≤ w.heap.size
  nd : (Γ.flatten.map Prod.fst).Nodup
  mem : ∀ p ∈ Γ.flatten, w.heap[p.1]? = some p.2

namespace Sat
variable {E : World} {Γ Δ : List Chunk} {w w' : World}
theorem lt (h : Sat E Γ w) {p : Nat × Obj} (hp : p ∈ Γ.flatten) : p.1 < w.heap.size := by
  have := h.mem p hp
  rw [Array.getElem?_eq_some_iff] at this
  exact this.1
theorem perm (h : Sat E Γ w) (hp : Γ.flatten.Perm Δ.flatten) : Sat E Δ w :=
  ⟨h.os, h.tape, h.output, h.size, (hp.map _).nodup_iff.1 h.nd, fun p hq => h.mem p (hp.mem_iff.2 hq)⟩
theorem sub (h : Sat E Γ w) (hp : Δ.flatten.Sublist Γ.flatten) : Sat E Δ w :=
  ⟨h.os, h.tape, h.output, h.size, h.nd.sublist (hp.map _), fun p hq => h.mem p (hp.subset hq)⟩
theorem alloc (h : Sat E Γ w) (o : Obj) : Sat E ([(w.heap.size, o)] :: Γ) { w with heap := w.heap.push o } := by
  refine ⟨h.os, h.tape, h.output, by simp; have := h.size; omega, ?_, ?_⟩
  · simp only [List.flatten_cons, List.cons_append, List.nil_append, List.map_cons, List.nodup_cons]
    refine ⟨fun hm => ?_, h.nd⟩
    obtain ⟨p, hp, he⟩ := List.mem_map.1 hm
    have := h.lt hp
    omega
  · intro p hp
    simp only [List.flatten_cons, List.cons_append, List.nil_append, List.mem_cons] at hp
    rcases hp with rfl | hp
    · simp
    · have h1 := h.lt hp
      rw [Array.getElem?_push, if_neg (by omega)]
      exact h.mem p hp
theorem drew (h : Sat E Γ w) (n : Nat) : Sat E Γ { w with drawn := n } := ⟨h.os, h.tape, h.output, h.size, h.nd, h.mem⟩
theorem below (h : Sat E Γ w) (hb : Below w.heap.size w w') : Sat E Γ w' := by
  refine ⟨hb.os.trans h.os, hb.tape.trans h.tape, hb.output.trans h.output, Nat.le_trans h.size hb.size, h.nd, fun p hp => ?_⟩
  rw [hb.block _ (h.lt hp)]; exact h.mem p hp
/-- All blocks of a world, as they are. -/
def all (w : World) : Chunk := (List.range w.heap.size).map fun i => (i, w.heap.getD i default)
theorem mem_all {w : World} {p : Nat × Obj} : p ∈ all w ↔ w.heap[p.1]? = some p.2 := by
  unfold all
  simp only [List.mem_map, List.mem_range, Array.getElem?_eq_some_iff]
  constructor
  · rintro ⟨i, hi, rfl⟩; exact ⟨hi, by simp [hi]⟩
  · rintro ⟨h, he⟩; exact ⟨p.1, h, by cases p; simp_all⟩
theorem init (w : World) : Sat w [all w] w := by
  refine ⟨rfl, rfl, rfl, Nat.le_refl _, ?_, ?_⟩
  · simp only [List.flatten_cons, List.flatten_nil, List.append_nil, all, List.map_map]
    have : (Prod.fst ∘ fun i => (i, w.heap.getD i default)) = (id : Nat → Nat) := rfl
    rw [this, List.map_id]; exact List.nodup_range
  · intro p hp
    simp only [List.flatten_cons, List.flatten_nil, List.append_nil] at hp
    exact mem_all.1 hp
theorem done {w w' : World} (h : Sat w (Γ ++ [all w]) w') : Below w.heap.size w w' := by
  refine ⟨h.os, h.tape, h.output, h.size, fun k hk => ?_⟩
  have hm : (k, w.heap.getD k default) ∈ all w := mem_all.2 (by simp [hk])
  have := h.mem (k, w.heap.getD k default) (List.mem_flatten.2 ⟨all w, by simp, hm⟩)
  rw [this]; simp [hk]
theorem front1 {a b : Chunk} {L : List Chunk} (h : Sat E (a :: b :: L) w) : Sat E (b :: a :: L) w := h.perm (by simp only [List.flatten_cons, ← List.append_assoc]; exact List.perm_append_comm.append_right _)
theorem tail1 {a : Chunk} {L : List Chunk} (h : Sat E (a :: L) w) : Sat E L w := h.sub (by simp)
theorem consL {a : Chunk} {L L' : List Chunk} (h : Sat E (a :: L) w) (hp : L.flatten.Perm L'.flatten) : Sat E (a :: L') w := h.perm (by simp only [List.flatten_cons]; exact hp.append_left _)
end Sat
theorem flat_swap {a b : Chunk} {L : List Chunk} : (a :: b :: L).flatten.Perm (b :: a :: L).flatten := by
  simp only [List.flatten_cons, ← List.append_assoc]; exact List.perm_append_comm.append_right _
theorem flat_cons {a : Chunk} {L L' : List Chunk} (h : L.flatten.Perm L'.flatten) : (a :: L).flatten.Perm (a :: L').flatten := by
  simp only [List.flatten_cons]; exact h.append_left _
namespace Sat
variable {E : World} {w : World}
theorem front2 {a b c : Chunk} {L : List Chunk} (h : Sat E (a :: b :: c :: L) w) : Sat E (c :: a :: b :: L) w := h.perm ((flat_cons flat_swap).trans flat_swap)
theorem front3 {a b c d : Chunk} {L : List Chunk} (h : Sat E (a :: b :: c :: d :: L) w) : Sat E (d :: a :: b :: c :: L) w := h.perm ((flat_cons (flat_cons flat_swap)).trans ((flat_cons flat_swap).trans flat_swap))
theorem front4 {a b c d e : Chunk} {L : List Chunk} (h : Sat E (a :: b :: c :: d :: e :: L) w) : Sat E (e :: a :: b :: c :: d :: L) w :=
  h.perm ((flat_cons (flat_cons (flat_cons flat_swap))).trans ((flat_cons (flat_cons flat_swap)).trans ((flat_cons flat_swap).trans flat_swap)))
/-- A chunk of two parts is two chunks. -/
theorem parts {a b : Chunk} {L : List Chunk} : Sat E ((a ++ b) :: L) w ↔ Sat E (a :: b :: L) w :=
  ⟨fun h => h.perm (by simp), fun h => h.perm (by simp)⟩
theorem nilc {L : List Chunk} : Sat E ([] :: L) w ↔ Sat E L w := ⟨fun h => h.perm (by simp), fun h => h.perm (by simp)⟩
end Sat

/-- Γ has the block b, which is o; 'U o'' is Γ with o' in its place. -/
def Has (Γ : List Chunk) (b : Nat) (o : Obj) (U : Obj → List Chunk) : Prop := ∃ A B, Γ = A ++ [(b, o)] :: B ∧ U = fun o' => A ++ [(b, o')] :: B
theorem Has.here {b : Nat} {o : Obj} {L : List Chunk} : Has ([(b, o)] :: L) b o (fun o' => [(b, o')] :: L) := ⟨[], L, rfl, rfl⟩
theorem Has.there {c : Chunk} {L : List Chunk} {b : Nat} {o : Obj} {U : Obj → List Chunk} (h : Has L b o U) : Has (c :: L) b o (fun o' => c :: U o') := by
  obtain ⟨A, B, rfl, rfl⟩ := h
  exact ⟨c :: A, B, rfl, rfl⟩
theorem Has.mem {Γ : List Chunk} {b : Nat} {o : Obj} {U : Obj → List Chunk} (h : Has Γ b o U) : (b, o) ∈ Γ.flatten := by
  obtain ⟨A, B, rfl, rfl⟩ := h
  simp
theorem Has.get {E : World} {Γ : List Chunk} {w : World} {b : Nat} {o : Obj} {U : Obj → List Chunk} (hS : Sat E Γ w) (h : Has Γ b o U) : w.heap[b]? = some o := hS.mem (b, o) h.mem
theorem Has.again {Γ : List Chunk} {b : Nat} {o o' : Obj} {U : Obj → List Chunk} (h : Has Γ b o U) : Has (U o') b o' U := by
  obtain ⟨A, B, rfl, rfl⟩ := h
  exact ⟨A, B, rfl, rfl⟩
theorem Has.keys {Γ : List Chunk} {b : Nat} {o : Obj} {U : Obj → List Chunk} (h : Has Γ b o U) (o' : Obj) : (U o').flatten.map Prod.fst = Γ.flatten.map Prod.fst := by
  obtain ⟨A, B, rfl, rfl⟩ := h
  simp
theorem Has.memU {Γ : List Chunk} {b : Nat} {o o' : Obj} {U : Obj → List Chunk} (h : Has Γ b o U) (hnd : (Γ.flatten.map Prod.fst).Nodup) {p : Nat × Obj} (hp : p ∈ (U o').flatten) :
    (p.1 = b ∧ p.2 = o') ∨ (p.1 ≠ b ∧ p ∈ Γ.flatten) := by
  obtain ⟨A, B, rfl, rfl⟩ := h
  simp only [List.flatten_append, List.flatten_cons, List.cons_append, List.nil_append, List.map_append, List.map_cons, List.nodup_append, List.nodup_cons] at hnd
  simp only [List.flatten_append, List.flatten_cons, List.cons_append, List.nil_append, List.mem_append, List.mem_cons] at hp
  rcases hp with hp | rfl | hp
  · refine .inr ⟨fun e => ?_, by simp only [List.flatten_append, List.mem_append]; exact .inl hp⟩
    exact hnd.2.2 p.1 (List.mem_map_of_mem hp) b (by simp) e
  · exact .inl ⟨rfl, rfl⟩
  · refine .inr ⟨fun e => hnd.2.1.1 (e ▸ List.mem_map_of_mem hp), by simp only [List.flatten_append, List.flatten_cons, List.cons_append, List.mem_append, List.mem_cons]; exact .inr (.inr (.inr hp))⟩
/-- The block is written. -/
theorem Sat.put {E : World} {Γ : List Chunk} {w w' : World} {b : Nat} {o o' : Obj} {U : Obj → List Chunk} (hS : Sat E Γ w) (h : Has Γ b o U)
    (h1 : w'.os = w.os) (h2 : w'.tape = w.tape) (h3 : w'.output = w.output) (h4 : w'.heap.size = w.heap.size) (hb : w'.heap[b]? = some o') (hk : ∀ k, k ≠ b → w'.heap[k]? = w.heap[k]?) : Sat E (U o') w' := by
  refine ⟨h1.trans hS.os, h2.trans hS.tape, h3.trans hS.output, by rw [h4]; exact hS.size, by rw [h.keys]; exact hS.nd, fun p hp => ?_⟩
  rcases h.memU hS.nd hp with ⟨e1, e2⟩ | ⟨e1, e2⟩
  · rw [e1, e2]; exact hb
  · rw [hk _ e1]; exact hS.mem p e2

theorem cell_at {w : World} {b off : Nat} {l : List Value} {T : TypeId} {fr : Nat × Nat} (h : w.heap[b]? = some (.cells l.toArray T fr)) : w.cell? ⟨b, off, none⟩ = l[off]? := by
  simp [World.cell?, h]
theorem frozen_at {w : World} {b off : Nat} {l : List Value} {T : TypeId} (h : w.heap[b]? = some (.cells l.toArray T (0, 0))) : w.frozen? ⟨b, off, none⟩ = false := by
  simp [World.frozen?, h]
theorem Sat.setCell {E : World} {Γ : List Chunk} {w : World} {b off : Nat} {l : List Value} {T : TypeId} {fr : Nat × Nat} {U : Obj → List Chunk} (hS : Sat E Γ w) (h : Has Γ b (.cells l.toArray T fr) U) (v : Value) :
    Sat E (U (.cells (l.set off v).toArray T fr)) (w.setCell ⟨b, off, none⟩ v) := by
  have hg := h.get hS
  refine hS.put h rfl rfl rfl (by simp [World.setCell]) ?_ ?_
  · simp [World.setCell, Array.getElem?_modify, hg]
  · intro k hk
    simp only [World.setCell, Array.getElem?_modify]
    rw [if_neg (fun e => hk e.symm)]

def notAgg : TypeDesc → Bool
  | .struct _ | .array _ _ => false
  | _ => true
def szIs (P : Program) (t : TypeId) (m : Nat) : Prop := (P.info? t).map (·.size) = some m
theorem run_sizeOf' {P : Program} {t : TypeId} {m : Nat} (h : szIs P t m) (w : World) : (sizeOf t).run P w = .ok m w := by
  unfold szIs at h
  cases hi : P.info? t with
  | none => rw [hi] at h; cases h
  | some i => rw [hi] at h; simp only [Option.map_some, Option.some.injEq] at h; simp [sizeOf, typeInfo, hi, h]

theorem run_loadCells_l {P : Program} {w : World} {b off m : Nat} {l vs : List Value} {T : TypeId} {fr : Nat × Nat} (hg : w.heap[b]? = some (.cells l.toArray T fr)) (hv : (l.drop off).take m = vs) (hm : vs.length = m) :
    (loadCells ⟨b, off, none⟩ m).run P w = .ok vs.toArray w := by
  subst hm
  refine run_loadCells_list (P := P) w ⟨b, off, none⟩ vs ?_
  intro j v hj
  have hlt : j < vs.length := by
    rcases Nat.lt_or_ge j vs.length with h | h
    · exact h
    · rw [List.getElem?_eq_none h] at hj; cases hj
  rw [← hv, List.getElem?_take, if_pos hlt, List.getElem?_drop] at hj
  have : (⟨b, off, none⟩ : Addr).add j = ⟨b, off + j, none⟩ := by
    unfold Addr.add; split
    · rename_i h; subst h; rfl
    · rfl
  rw [this, cell_at hg, hj]

section
variable {P : Program} {E : World} {Γ : List Chunk} {f : Nat → Value} {w : World} {K : (Nat → Value) → World → Prop} {d : Nat} {ty : TypeId} {pos : String} {af : Array Edge} {g : Option (Nat × Bool)}

theorem ow_box {T : TypeId} {x : Operand} {v : Value} {cs : List Value} (hS : Sat E Γ w) (hv : ev f x = v) (hc : v.cells.toList = cs)
    (h : ∀ b w', Sat E ([(b, .cells cs.toArray T (0, 0))] :: Γ) w' → K (upd f d (.pointer (some ⟨b, 0, none⟩))) w') : OW P ⟨some d, .box T x, ty, pos, af, g⟩ f w K := by
  refine ow_val (v := .pointer (some ⟨w.heap.size, 0, none⟩)) (w' := { w with heap := w.heap.push (.cells cs.toArray T) }) ?_ (h _ _ (hS.alloc _))
  have : v.cells = cs.toArray := by rw [← hc]
  simp [execOp, hv, Instr.box, newVar, newRow, this]
def zeroIs (P : Program) (t : TypeId) (z : Value) : Prop := (P.info? t).bind (·.zero) = some z
theorem run_zeroValue' {t : TypeId} {z : Value} (h : zeroIs P t z) (w : World) : (zeroValue t).run P w = .ok z w := by
  unfold zeroIs at h
  cases hi : P.info? t with
  | none => rw [hi] at h; cases h
  | some i => rw [hi] at h; simp only [Option.bind_some] at h; simp [zeroValue, typeInfo, hi, h]
theorem ow_alloc {T : TypeId} {z : Value} {cs : List Value} (hS : Sat E Γ w) (hz : zeroIs P T z) (hc : z.cells.toList = cs)
    (h : ∀ b w', Sat E ([(b, .cells cs.toArray T (0, 0))] :: Γ) w' → K (upd f d (.pointer (some ⟨b, 0, none⟩))) w') : OW P ⟨some d, .alloc T, ty, pos, af, g⟩ f w K := by
  refine ow_val (v := .pointer (some ⟨w.heap.size, 0, none⟩)) (w' := { w with heap := w.heap.push (.cells cs.toArray T) }) ?_ (h _ _ (hS.alloc _))
  have : z.cells = cs.toArray := by rw [← hc]
  simp [execOp, Instr.alloc, newVar, newRow, this, run_zeroValue' hz]

/-- It yields v in every world that meets S. -/
def LR (P : Program) (S : World → Prop) (f : Nat → Value) (o : Oper) (v : Value) : Prop := ∀ w, S w → (execOp (ev f) o).run P w = .ok (.value v) w
theorem ow_lr {S : World → Prop} {op : Op} {v : Value} (hr : LR P S f ⟨some d, op, ty, pos, af, g⟩ v) (hS : S w) (h : K (upd f d v) w) : OW P ⟨some d, op, ty, pos, af, g⟩ f w K := ow_val (hr w hS) h
theorem run_loadVar1 {T : TypeId} {du : TypeDesc} {b off : Nat} {v : Value} (hu : P.underlying T = some du) (hn : notAgg du = true) (hc : w.cell? ⟨b, off, none⟩ = some v) : (loadVar T ⟨b, off, none⟩).run P w = .ok v w := by
  cases du <;> simp [notAgg] at hn <;> simp [loadVar, isAgg, run_underlying hu, hc]
theorem lr_load1 {T : TypeId} {du : TypeDesc} {x : Operand} {b off : Nat} {l : List Value} {T' : TypeId} {fr : Nat × Nat} {U : Obj → List Chunk} {v : Value} (hu : P.underlying T = some du) (hn : notAgg du = true)
    (hx : ev f x = .pointer (some ⟨b, off, none⟩)) (hH : Has Γ b (.cells l.toArray T' fr) U) (hc : l[off]? = some v) : LR P (Sat E Γ) f ⟨some d, .load T x, ty, pos, af, g⟩ v := by
  intro w hS
  have := run_loadVar1 (P := P) hu hn ((cell_at (hH.get hS)).trans hc)
  simp [execOp, hx, Instr.loadAt, Instr.sureAddr, this]
theorem run_loadVarA {T : TypeId} {du : TypeDesc} {b off m : Nat} {l vs : List Value} {T' : TypeId} {fr : Nat × Nat} (hu : P.underlying T = some du) (hn : notAgg du = false) (hm : szIs P T m) (hg : w.heap[b]? = some (.cells l.toArray T' fr))
    (hv : (l.drop off).take m = vs) (hl : vs.length = m) : (loadVar T ⟨b, off, none⟩).run P w = .ok (.agg vs.toArray) w := by
  have h1 := run_loadCells_l (P := P) hg hv hl
  cases du <;> simp [notAgg] at hn <;> simp [loadVar, isAgg, run_underlying hu, run_sizeOf' hm, h1]
theorem lr_loadA {T : TypeId} {du : TypeDesc} {x : Operand} {b off m : Nat} {l vs : List Value} {T' : TypeId} {fr : Nat × Nat} {U : Obj → List Chunk} (hu : P.underlying T = some du) (hn : notAgg du = false) (hm : szIs P T m)
    (hx : ev f x = .pointer (some ⟨b, off, none⟩)) (hH : Has Γ b (.cells l.toArray T' fr) U) (hv : (l.drop off).take m = vs) (hl : vs.length = m) : LR P (Sat E Γ) f ⟨some d, .load T x, ty, pos, af, g⟩ (.agg vs.toArray) := by
  intro w hS
  have := run_loadVarA (P := P) hu hn hm (hH.get hS) hv hl
  simp [execOp, hx, Instr.loadAt, Instr.sureAddr, this]
/-- A value that one cell holds. -/
def one : Value → Bool
  | .agg _ | .tuple _ => false
  | _ => true
theorem run_store1 {b off : Nat} {v u : Value} (h1 : one v = true) (hc : w.cell? ⟨b, off, none⟩ = some u) (hf : w.frozen? ⟨b, off, none⟩ = false) : (store ⟨b, off, none⟩ v).run P w = .ok () (w.setCell ⟨b, off, none⟩ v) := by
  cases v <;> simp [one] at h1 <;> simp [store, Sem.run, hc, hf]
theorem ow_store1 {T : TypeId} {x y : Operand} {b off : Nat} {l : List Value} {T' : TypeId} {U : Obj → List Chunk} {v : Value} (hS : Sat E Γ w) (hm : szIs P T 1) (hx : ev f x = .pointer (some ⟨b, off, none⟩)) (hy : ev f y = v) (h1 : one v = true)
    (hH : Has Γ b (.cells l.toArray T' (0, 0)) U) (ho : off < l.length) (h : ∀ w', Sat E (U (.cells (l.set off v).toArray T' (0, 0))) w' → K f w') : OW P ⟨none, .store T x y, ty, pos, af, g⟩ f w K := by
  refine ow_skip (w' := w.setCell ⟨b, off, none⟩ v) ?_ (h _ (hS.setCell hH v))
  have hc : v.cells = #[v] := by cases v <;> simp [one] at h1 <;> rfl
  have hcell : w.cell? ⟨b, off, none⟩ = some l[off] := by rw [cell_at (hH.get hS)]; simp [ho]
  have hst := run_store1 (P := P) h1 hcell (frozen_at (hH.get hS))
  have hadd : (⟨b, off, none⟩ : Addr).add 0 = ⟨b, off, none⟩ := rfl
  simp [execOp, hx, hy, Instr.storeAt, Instr.sureAddr, storeVar, hc, run_sizeOf' hm, storeCells, hadd, hst]

/-- Cells written one behind the other. -/
def putAt (l : List Value) (off : Nat) : List Value → List Value
  | [] => l
  | v :: vs => putAt (l.set off v) (off + 1) vs
theorem run_storeCells {b : Nat} {T' : TypeId} : ∀ (vs : List Value) (off i : Nat) (l : List Value) (Γ : List Chunk) (U : Obj → List Chunk) (w : World), Sat E Γ w → Has Γ b (.cells l.toArray T' (0, 0)) U → vs.all one = true → off + i + vs.length ≤ l.length →
    ∃ w', (storeCells ⟨b, off, none⟩ vs i).run P w = .ok () w' ∧ Sat E (U (.cells (putAt l (off + i) vs).toArray T' (0, 0))) w'
  | [], off, i, l, Γ, U, w, hS, hH, _, _ => ⟨w, rfl, by
      have := hS.put hH rfl rfl rfl rfl (hH.get hS) (fun _ _ => rfl)
      exact this⟩
  | v :: vs, off, i, l, Γ, U, w, hS, hH, h1, hl => by
    simp only [List.all_cons, Bool.and_eq_true] at h1
    simp only [List.length_cons] at hl
    have ho : off + i < l.length := by omega
    have hcell : w.cell? ⟨b, off + i, none⟩ = some l[off + i] := by rw [cell_at (hH.get hS)]; simp [ho]
    have hst := run_store1 (P := P) h1.1 hcell (frozen_at (hH.get hS))
    have hadd : (⟨b, off, none⟩ : Addr).add i = ⟨b, off + i, none⟩ := by unfold Addr.add; split <;> simp_all
    have hS' := hS.setCell (off := off + i) hH v
    have hH' := hH.again (o' := .cells (l.set (off + i) v).toArray T' (0, 0))
    obtain ⟨w', hr, hw'⟩ := run_storeCells vs off (i + 1) (l.set (off + i) v) _ U _ hS' hH' h1.2 (by simp; omega)
    refine ⟨w', ?_, ?_⟩
    · rw [storeCells, Sem.run_bind, hadd, hst, Result.andThen_ok]; exact hr
    · simpa [putAt, Nat.add_assoc] using hw'
theorem ow_storeA {T : TypeId} {x y : Operand} {b off m : Nat} {l vs : List Value} {T' : TypeId} {U : Obj → List Chunk} (hS : Sat E Γ w) (hm : szIs P T m) (hx : ev f x = .pointer (some ⟨b, off, none⟩)) (hy : ev f y = .agg vs.toArray) (hlen : vs.length = m)
    (h1 : vs.all one = true) (hH : Has Γ b (.cells l.toArray T' (0, 0)) U) (ho : off + m ≤ l.length) (h : ∀ w', Sat E (U (.cells (putAt l off vs).toArray T' (0, 0))) w' → K f w') : OW P ⟨none, .store T x y, ty, pos, af, g⟩ f w K := by
  obtain ⟨w', hr, hw'⟩ := run_storeCells (P := P) vs off 0 l Γ U w hS hH h1 (by omega)
  refine ow_skip (w' := w') ?_ (h _ hw')
  simp [execOp, hx, hy, Instr.storeAt, Instr.sureAddr, storeVar, Value.cells, run_sizeOf' hm, hlen, hr]

/-! addresses -/

def fieldOff (P : Program) (S i n : Nat) : Prop := (match P.underlying S with | some (.struct fs) => (match fs[i]? with | some fd => (match P.info? fd.type with | some ti => if ti.size = 0 then none else some fd.offset | none => none) | none => none) | _ => none) = some n
theorem run_fieldAt {S i n b off : Nat} (h : fieldOff P S i n) : (Instr.fieldAt S (.pointer (some ⟨b, off, none⟩)) i).run P w = .ok (.pointer (some ⟨b, off + n, none⟩)) w := by
  unfold fieldOff at h
  cases hu : P.underlying S with
  | none => rw [hu] at h; cases h
  | some du =>
    cases du <;> rw [hu] at h <;> try (cases h; done)
    rename_i fs
    simp only at h
    cases hf : fs[i]? with
    | none => rw [hf] at h; cases h
    | some fd =>
      rw [hf] at h
      simp only at h
      cases hi : P.info? fd.type with
      | none => rw [hi] at h; cases h
      | some ti =>
        rw [hi] at h
        simp only at h
        split at h
        · cases h
        · rename_i hz
          cases h
          have hadd : (⟨b, off, none⟩ : Addr).add fd.offset = ⟨b, off + fd.offset, none⟩ := by unfold Addr.add; split <;> simp_all
          simp [Instr.fieldAt, run_underlying hu, hf, Instr.sureAddr, fieldPlace, sizeOf, typeInfo, hi, hz, hadd]
theorem vr_fieldAddr {S i n : Nat} {x : Operand} {b off : Nat} (hf : fieldOff P S i n) (hx : ev f x = .pointer (some ⟨b, off, none⟩)) : VR P f ⟨some d, .fieldAddr S x i, ty, pos, af, g⟩ (.pointer (some ⟨b, off + n, none⟩)) := by
  intro w
  simp [execOp, hx, run_fieldAt hf]
theorem vr_nilCheck {x : Operand} {a : Addr} (hx : ev f x = .pointer (some a)) : VR P f ⟨some d, .nilCheck x, ty, pos, af, g⟩ (.pointer (some a)) := by
  intro w
  simp [execOp, hx]
theorem vr_indexAddr {T e m : TypeId} {x i : Operand} {b off n c : Nat} {k : IntKind} {j : Int} (hu : P.underlying T = some (.slice e)) (hm : szIs P e m) (hx : ev f x = .slice (some ⟨b, off, none⟩) n c) (hi : ev f i = .int k j) (hj : 0 ≤ j) (hl : j < n) :
    VR P f ⟨some d, .indexAddr T x i, ty, pos, af, g⟩ (.pointer (some ⟨b, off + j.toNat * m, none⟩)) := by
  intro w
  have hadd : (⟨b, off, none⟩ : Addr).add (j.toNat * m) = ⟨b, off + j.toNat * m, none⟩ := by unfold Addr.add; split <;> simp_all
  simp [execOp, hx, hi, Instr.indexAt, asIntOf, run_underlying hu, hj, hl, run_sizeOf' hm, hadd]
theorem run_eq_nil {t e : TypeId} {a : Option Addr} (hu : P.underlying t = some (.pointer e)) : (Op.equal t (.pointer a) (.pointer none)).run P w = .ok a.isNone w :=
  run_equal fun n => by
    rw [Op.equalIn, Sem.run_bind, run_underlying hu]
    cases a <;> rfl
theorem vr_eqnil {x : Operand} {t t' e : TypeId} {a : Option Addr} (hu : P.underlying t = some (.pointer e)) (hx : ev f x = .pointer a) : VR P f ⟨some d, .binOp .eql t x (.const (.pointer none)) t', ty, pos, af, g⟩ (.bool a.isNone) :=
  vr_eqlg hx rfl rfl (fun _ => rfl) (fun _ => run_eq_nil hu)
theorem vr_nenil {x : Operand} {t t' e : TypeId} {a : Option Addr} (hu : P.underlying t = some (.pointer e)) (hx : ev f x = .pointer a) : VR P f ⟨some d, .binOp .neq t x (.const (.pointer none)) t', ty, pos, af, g⟩ (.bool (!a.isNone)) :=
  vr_neqg hx rfl rfl (fun _ => rfl) (fun _ => run_eq_nil hu)
theorem vr_makeIface {x : Operand} {t : TypeId} {v : Value} {du : TypeDesc} (hu : P.underlying t = some du) (hn : (match du with | .interface _ => false | _ => true) = true) (hx : ev f x = v) : VR P f ⟨some d, .makeInterface t x, ty, pos, af, g⟩ (.iface t v) := by
  intro w
  cases du <;> simp at hn <;> simp [execOp, hx, Instr.makeInterface, run_underlying hu]
theorem vr_makeFunc {N : Nat} {fs cp : Array Operand} {vs : List Value} (h0 : fs = #[]) (hv : cp.toList.map (ev f) = vs) : VR P f ⟨some d, .makeFunc (.func N) fs cp, ty, pos, af, g⟩ (.func (.func N) #[] vs.toArray) := by
  subst h0
  intro w
  have : cp.map (ev f) = vs.toArray := by subst hv; exact Array.ext' (by simp)
  simp [execOp, Instr.makeFunc, this]
/-- s[lo:hi] of a string. -/
theorem vr_slice_str {T : TypeId} {x : Operand} {lo hi : Option Operand} {s : ByteArray} {l h' : Nat} (hu : P.underlying T = some .string) (hx : ev f x = .string s) (hlo : (match lo with | some o => ∃ k, ev f o = .int k (l : Int) | none => l = 0))
    (hhi : (match hi with | some o => ∃ k, ev f o = .int k (h' : Int) | none => h' = s.size)) (h1 : l ≤ h') (h2 : h' ≤ s.size) : VR P f ⟨some d, .slice T x lo hi none, ty, pos, af, g⟩ (.string (s.extract l h')) := by
  intro w
  have i1 : (l : Int) ≤ (h' : Int) := by omega
  have i2 : (h' : Int) ≤ (s.size : Int) := by omega
  have e1 : ¬ h' < l := by omega
  have e2 : ¬ s.size < h' := by omega
  have e3 : ¬ s.size < l := by omega
  cases lo with
  | none =>
    simp only at hlo; subst hlo
    cases hi with
    | none => simp only at hhi; subst hhi; simp [execOp, hx, Instr.sliceAt, Instr.slice, Instr.sliceBounds, run_underlying hu]
    | some o => obtain ⟨k, hk⟩ := hhi; simp [execOp, hx, hk, Instr.sliceAt, Instr.slice, Instr.sliceBounds, Instr.sliceBound, asIntOf, run_underlying hu, i2, e2]
  | some o' =>
    obtain ⟨k', hk'⟩ := hlo
    cases hi with
    | none => simp only at hhi; subst hhi; simp [execOp, hx, hk', Instr.sliceAt, Instr.slice, Instr.sliceBounds, Instr.sliceBound, asIntOf, run_underlying hu, i1, e1, e3]
    | some o => obtain ⟨k, hk⟩ := hhi; simp [execOp, hx, hk, hk', Instr.sliceAt, Instr.slice, Instr.sliceBounds, Instr.sliceBound, asIntOf, run_underlying hu, i1, i2, e1, e2, h1, h2]
end
/-! structs by value -/
def placesIs (P : Program) (T : TypeId) (pl : List (Nat × Nat)) : Prop := (match P.underlying T with | some (.struct fs) => fs.toList.mapM (fun fd => (P.info? fd.type).map fun i => (fd.offset, i.size)) | _ => none) = some pl
theorem run_places {P : Program} {w : World} : ∀ (l : List Field) (pl : List (Nat × Nat)), l.mapM (fun fd => (P.info? fd.type).map fun i => (fd.offset, i.size)) = some pl →
    (l.mapM (fun f => do pure (f.offset, ← sizeOf f.type)) : Sem (List (Nat × Nat))).run P w = .ok pl w
  | [], pl, h => by simp at h; subst h; rfl
  | fd :: l, pl, h => by
    rw [List.mapM_cons] at h
    cases hi : P.info? fd.type with
    | none => rw [hi] at h; simp at h
    | some i =>
      rw [hi] at h
      simp only [Option.map_some, Option.bind_eq_bind, Option.bind_some] at h
      cases hr : l.mapM (fun fd => (P.info? fd.type).map fun i => (fd.offset, i.size)) with
      | none => rw [hr] at h; simp at h
      | some pl' =>
        rw [hr] at h
        simp only [Option.bind_some, Option.pure_def, Option.some.injEq] at h
        subst h
        have ih := run_places (w := w) l pl' hr
        have h1 : (sizeOf fd.type).run P w = .ok i.size w := run_sizeOf' (by simp [szIs, hi]) w
        rw [List.mapM_cons]
        simp only [Sem.run_bind, h1, Result.andThen_ok, Sem.run_pure, ih]
theorem vr_build {P : Program} {f : Nat → Value} {d : Nat} {ty : TypeId} {pos : String} {af : Array Edge} {g : Option (Nat × Bool)} {T : TypeId} {parts : Array (Nat × Operand)} {z : Value} {pl : List (Nat × Nat)} {vs : List (Nat × Value)} {cs : List Value}
    (hz : zeroIs P T z) (hp : placesIs P T pl) (hv : parts.toList.map (fun x => (x.1, ev f x.2)) = vs) (hf : Instr.fill (pl.toArray[·]?) z.cells vs = some cs.toArray) : VR P f ⟨some d, .build T parts, ty, pos, af, g⟩ (.agg cs.toArray) := by
  intro w
  unfold placesIs at hp
  cases hu : P.underlying T with
  | none => rw [hu] at hp; cases hp
  | some du =>
    cases du <;> rw [hu] at hp <;> try (cases hp; done)
    rename_i fs
    simp only at hp
    have hr : ((fs.mapM fun f => do pure (f.offset, ← sizeOf f.type)) : Sem (Array (Nat × Nat))).run P w = .ok pl.toArray w := by
      rw [Array.mapM_eq_mapM_toList, Sem.run_map, run_places _ _ hp]; rfl
    have hv' : (parts.map fun (i, x) => (i, ev f x)).toList = vs := by rw [← hv]; simp
    simp only [execOp, Instr.build, Sem.run_bind, run_zeroValue' hz, Result.andThen_ok, run_underlying hu, hr, hv', hf, Sem.run_pure]

theorem vr_buildA {P : Program} {f : Nat → Value} {d : Nat} {ty : TypeId} {pos : String} {af : Array Edge} {g : Option (Nat × Bool)} {T e n m : Nat} {parts : Array (Nat × Operand)} {z : Value} {vs : List (Nat × Value)} {cs : List Value}
    (hz : zeroIs P T z) (hu : P.underlying T = some (.array n e)) (hm : szIs P e m) (hv : parts.toList.map (fun x => (x.1, ev f x.2)) = vs) (hf : Instr.fill (fun i => some (i * m, m)) z.cells vs = some cs.toArray) : VR P f ⟨some d, .build T parts, ty, pos, af, g⟩ (.agg cs.toArray) := by
  intro w
  have hv' : (parts.map fun (i, x) => (i, ev f x)).toList = vs := by rw [← hv]; simp
  simp only [execOp, Instr.build, Sem.run_bind, run_zeroValue' hz, Result.andThen_ok, run_underlying hu, run_sizeOf' hm, hv', hf, Sem.run_pure]
/-- An array's cell by its address. -/
theorem vr_indexAddrA {P : Program} {f : Nat → Value} {d : Nat} {ty : TypeId} {pos : String} {af : Array Edge} {g : Option (Nat × Bool)} {T e m n b off : Nat} {x i : Operand} {k : IntKind} {j : Int} (hu : P.underlying T = some (.array n e)) (hm : szIs P e m) (hx : ev f x = .pointer (some ⟨b, off, none⟩)) (hi : ev f i = .int k j) (hj : 0 ≤ j) (hl : j < n) :
    VR P f ⟨some d, .indexAddr T x i, ty, pos, af, g⟩ (.pointer (some ⟨b, off + j.toNat * m, none⟩)) := by
  intro w
  have hadd : (⟨b, off, none⟩ : Addr).add (j.toNat * m) = ⟨b, off + j.toNat * m, none⟩ := by unfold Addr.add; split <;> simp_all
  simp [execOp, hx, hi, Instr.indexAt, Instr.sureAddr, asIntOf, run_underlying hu, hj, hl, run_sizeOf' hm, hadd]
/-! slices that are made -/
def infoIs (P : Program) (T size bytes : Nat) (z : Value) : Prop := (P.info? T).map (fun i => (i.size, i.bytes)) = some (size, bytes) ∧ zeroIs P T z
theorem run_makeSlice1 {P : Program} {w : World} {T e by_ n : Nat} {z : Value} (hu : P.underlying T = some (.slice e)) (hi : infoIs P e 1 by_ z) (h1 : one z = true) (hb : by_ * n ≤ 2 ^ 48) (hn : n ≤ 9223372036854775807) :
    (Instr.makeSlice T (.int .i64 (n : Int)) (.int .i64 (n : Int))).run P w = .ok (.slice (some ⟨w.heap.size, 0, none⟩) n n) { w with heap := w.heap.push (.cells (List.replicate n z).toArray e) } := by
  obtain ⟨h2, h3⟩ := hi
  cases hinf : P.info? e with
  | none => rw [hinf] at h2; cases h2
  | some i =>
    rw [hinf] at h2
    simp only [Option.map_some, Option.some.injEq, Prod.mk.injEq] at h2
    have hw : IntKind.i64.wrap (n : Int) = n := wrap_i64 ⟨by omega, by omega⟩
    have hzc : z.cells = #[z] := by cases z <;> simp [one] at h1 <;> rfl
    have c1 : ¬ ((n : Int) < 0) := by omega
    have c2 : ¬ ((by_ : Int) * (n : Int) > 2 ^ 48) := by
      have : ((by_ * n : Nat) : Int) ≤ ((2 ^ 48 : Nat) : Int) := Int.ofNat_le.2 hb
      simp only [Int.natCast_mul] at this
      omega
    have hz := run_zeroValue' h3 w
    simp only [Instr.makeSlice, Sem.run_bind, run_underlying hu, Result.andThen_ok, asInt, asIntOf, Sem.run_pure, typeInfo, hinf, run_program, h2.1, h2.2, hw, c1, c2, decide_false, Bool.or_false, Bool.or_self, Bool.not_false, Int.lt_irrefl, gt_iff_lt, run_askRoom, sizeOf, Int.toNat_natCast, Nat.mul_one]
    simp only [show ¬ ((2 : Int) ^ 48 < (by_ : Int) * (n : Int)) from c2, decide_false, Bool.or_self, Bool.false_eq_true, if_false, Sem.run_bind, run_askRoom, Result.andThen_ok, hinf, Sem.run_pure, h2.1, Nat.mul_one]
    have hsz : (sizeOf e).run P w = .ok 1 w := by simp [sizeOf, typeInfo, hinf, h2.1]
    have hti : (typeInfo e).run P w = .ok i w := by simp [typeInfo, hinf]
    by_cases h0 : n = 0
    · subst h0
      simp [h2.1, newRow, hinf]
      congr 2
      apply Array.ext
      · simp
      · intro k hk _; simp at hk
    · simp [h2.1, newRow, hinf, h0, hz, hzc]
      congr 2
      apply Array.ext
      · simp
      · intro k _ _; simp [Nat.mod_one]
theorem ow_makeSlice1 {P : Program} {E : World} {Γ : List Chunk} {f : Nat → Value} {w : World} {K : (Nat → Value) → World → Prop} {d : Nat} {ty : TypeId} {pos : String} {af : Array Edge} {g : Option (Nat × Bool)} {T e by_ n : Nat} {x y : Operand} {z : Value}
    (hS : Sat E Γ w) (hu : P.underlying T = some (.slice e)) (hi : infoIs P e 1 by_ z) (h1 : one z = true) (hx : ev f x = .int .i64 (n : Int)) (hy : ev f y = .int .i64 (n : Int)) (hb : by_ * n ≤ 2 ^ 48) (hn : n ≤ 9223372036854775807)
    (h : ∀ b w', Sat E ([(b, .cells (List.replicate n z).toArray e (0, 0))] :: Γ) w' → K (upd f d (.slice (some ⟨b, 0, none⟩) n n)) w') : OW P ⟨some d, .makeSlice T x y, ty, pos, af, g⟩ f w K := by
  refine ow_val (v := .slice (some ⟨w.heap.size, 0, none⟩) n n) (w' := { w with heap := w.heap.push (.cells (List.replicate n z).toArray e) }) ?_ (h _ _ (hS.alloc _))
  have := run_makeSlice1 (P := P) (w := w) hu hi h1 hb hn
  simp [execOp, hx, hy, this]

/-! contracts -/
/-- Called with args where the blocks Γ are known it returns; R says what it returned, and which blocks are known then; all else is as it was. -/
def Fn (P : Program) (N : FuncId) (args : List Value) (Γ : List Chunk) (R : Value → List Chunk → Prop) : Prop :=
  ∀ E F w, Sat E (Γ ++ F) w → Returns P N args.toArray w (fun v w' => ∃ Δ, R v Δ ∧ Sat E (Δ ++ F) w')
theorem Fn.mk {P : Program} {N : FuncId} {args : List Value} {Γ : List Chunk} {R : Value → List Chunk → Prop} (h : ∀ E F w, Sat E (Γ ++ F) w → Returns P N args.toArray w (fun v w' => ∃ Δ, R v Δ ∧ Sat E (Δ ++ F) w')) : Fn P N args Γ R := h
/-- It returns v, and has made nothing that matters. -/
abbrev FnV (P : Program) (N : FuncId) (args : List Value) (v : Value) : Prop := Fn P N args [] (fun u Δ => u = v ∧ Δ = [])
theorem FnV.mk {P : Program} {N : FuncId} {args : List Value} {v : Value} (h : ∀ E F w, Sat E F w → Returns P N args.toArray w (fun u w' => u = v ∧ Sat E F w')) : FnV P N args v :=
  fun E F w hS => Calls.mono (h E F w hS) fun e w' ⟨u, he, hu, hw⟩ => ⟨u, he, [], ⟨hu, rfl⟩, hw⟩
section
variable {P : Program} {E : World} {Γ F : List Chunk} {R : Value → List Chunk → Prop} {f : Nat → Value} {w : World} {K : (Nat → Value) → World → Prop} {d : Nat} {ty : TypeId} {pos : String} {af : Array Edge} {g : Option (Nat × Bool)}
theorem ow_fn {N : Nat} {args : Array Operand} {ats : Array TypeId} {vs : List Value} (hb : Enters P N) (ha : (args.toList.map (ev f)) = vs) (hS : Sat E (Γ ++ F) w) (hF : Fn P N vs Γ R)
    (h : ∀ v Δ w', R v Δ → Sat E (Δ ++ F) w' → K (upd f d v) w') : OW P ⟨some d, .call ⟨.value (.func N), args, ats⟩, ty, pos, af, g⟩ f w K :=
  ow_call hb ha ((hF E F w hS).mono fun v w' ⟨Δ, h1, h2⟩ => h v Δ w' h1 h2)
theorem ow_fn0 {N : Nat} {args : Array Operand} {ats : Array TypeId} {vs : List Value} (hb : Enters P N) (ha : (args.toList.map (ev f)) = vs) (hS : Sat E (Γ ++ F) w) (hF : Fn P N vs Γ R)
    (h : ∀ v Δ w', R v Δ → Sat E (Δ ++ F) w' → K f w') : OW P ⟨none, .call ⟨.value (.func N), args, ats⟩, ty, pos, af, g⟩ f w K :=
  ow_call0 hb ha ((hF E F w hS).mono fun v w' ⟨Δ, h1, h2⟩ => h v Δ w' h1 h2)
theorem ow_fnv {N : Nat} {x : Operand} {cap : Array Value} {args : Array Operand} {ats : Array TypeId} {vs : List Value} (hb : Enters P N) (hx : ev f x = .func (.func N) #[] cap) (ha : (args.toList.map (ev f)) ++ cap.toList = vs) (hS : Sat E (Γ ++ F) w) (hF : Fn P N vs Γ R)
    (h : ∀ v Δ w', R v Δ → Sat E (Δ ++ F) w' → K (upd f d v) w') : OW P ⟨some d, .call ⟨.value x, args, ats⟩, ty, pos, af, g⟩ f w K :=
  ow_callv hb hx ha ((hF E F w hS).mono fun v w' ⟨Δ, h1, h2⟩ => h v Δ w' h1 h2)
/-- A contract of the kit's kind: below the heap's size all is as it was. -/
theorem Fn.of_below {N : FuncId} {args : List Value} {v : Value} (h : ∀ w, Calls P N args.toArray w (fun e w' => e = .returned v ∧ Below w.heap.size w w')) : FnV P N args v :=
  fun E F w hS => Calls.mono (h w) fun e w' ⟨he, hb⟩ => ⟨v, he, [], ⟨rfl, rfl⟩, hS.below hb⟩
theorem Fn.mono {N : FuncId} {args : List Value} {R' : Value → List Chunk → Prop} (h : Fn P N args Γ R) (hr : ∀ v Δ, R v Δ → R' v Δ) : Fn P N args Γ R' :=
  fun E F w hS => (h E F w hS).mono fun v w' ⟨Δ, h1, h2⟩ => ⟨Δ, hr v Δ h1, h2⟩
end
/-! results of which some lie in cells -/
def RV (P : Program) (n : Nat) (f : Nat → Value) (w : World) : ResultVar → Value → Prop
  | .tmp t, v => t < n ∧ f t = v
  | .cell a T, v => a < n ∧ ∃ ad, f a = .pointer (some ad) ∧ (loadVar T ad).run P w = .ok v w
section
variable {P : Program} {E : World} {Γ : List Chunk} {f : Nat → Value} {w : World} {n : Nat}
theorem RV.tmp {t : Nat} {v : Value} (h : Nat.blt t n = true) (hv : f t = v) : RV P n f w (.tmp t) v := ⟨by simpa using h, hv⟩
theorem RV.cellA {a T b m : Nat} {du : TypeDesc} {l vs : List Value} {T' : TypeId} {fr : Nat × Nat} {U : Obj → List Chunk} (hS : Sat E Γ w) (h : Nat.blt a n = true) (hu : P.underlying T = some du) (hn : notAgg du = false) (hm : szIs P T m)
    (hx : f a = .pointer (some ⟨b, 0, none⟩)) (hH : Has Γ b (.cells l.toArray T' fr) U) (hv : (l.drop 0).take m = vs) (hl : vs.length = m) : RV P n f w (.cell a T) (.agg vs.toArray) :=
  ⟨by simpa using h, _, hx, run_loadVarA hu hn hm (hH.get hS) hv hl⟩
theorem RV.cell1 {a T b : Nat} {du : TypeDesc} {l : List Value} {v : Value} {T' : TypeId} {fr : Nat × Nat} {U : Obj → List Chunk} (hS : Sat E Γ w) (h : Nat.blt a n = true) (hu : P.underlying T = some du) (hn : notAgg du = true)
    (hx : f a = .pointer (some ⟨b, 0, none⟩)) (hH : Has Γ b (.cells l.toArray T' fr) U) (hc : l[0]? = some v) : RV P n f w (.cell a T) v :=
  ⟨by simpa using h, _, hx, run_loadVar1 hu hn ((cell_at (hH.get hS)).trans hc)⟩
def resRun (n : Nat) (f : Nat → Value) : ResultVar → Sem Value
  | .tmp t => pure ((actF n f).tmps.getD t undef)
  | .cell a T => do loadVar T (← asAddr ((actF n f).tmps.getD a undef))
theorem RV.run {r : ResultVar} {v : Value} (h : RV P n f w r v) : (resRun n f r).run P w = .ok v w := by
  cases r with
  | tmp t => obtain ⟨h1, rfl⟩ := h; simp only [resRun, actF_get h1]; rfl
  | cell a T => obtain ⟨h1, ad, h2, h3⟩ := h; simp only [resRun, actF_get h1, h2, asAddr]; simpa using h3
theorem results_run {fn : Func} {rs : Array ResultVar} (h : fn.results = rs) : results fn (actF n f).tmps = (do let vs ← rs.mapM (resRun n f); pure (if h : vs.size = 1 then vs[0] else .tuple vs)) := by
  subst h
  unfold results
  congr 1
theorem ret_g1 {e : Exit} {fn : Func} {R : Value → World → Prop} {r : ResultVar} {v : Value} (he : e = .ret ∨ e = .normal) (h : fn.results = #[r]) (h1 : RV P n f w r v) (hR : R v w) : RetQ P fn n R e f w :=
  RetQ.of he ⟨_, by rw [results_run h]; simp [h1.run], hR⟩
theorem ret_g2 {e : Exit} {fn : Func} {R : Value → World → Prop} {r s : ResultVar} {u v : Value} (he : e = .ret ∨ e = .normal) (h : fn.results = #[r, s]) (h1 : RV P n f w r u) (h2 : RV P n f w s v) (hR : R (.tuple #[u, v]) w) : RetQ P fn n R e f w :=
  RetQ.of he ⟨_, by rw [results_run h]; simp [h1.run, h2.run], hR⟩
theorem ret_g3 {e : Exit} {fn : Func} {R : Value → World → Prop} {r s t : ResultVar} {u v x : Value} (he : e = .ret ∨ e = .normal) (h : fn.results = #[r, s, t]) (h1 : RV P n f w r u) (h2 : RV P n f w s v) (h3 : RV P n f w t x) (hR : R (.tuple #[u, v, x]) w) : RetQ P fn n R e f w :=
  RetQ.of he ⟨_, by rw [results_run h]; simp [h1.run, h2.run, h3.run], hR⟩
theorem ret_g4 {e : Exit} {fn : Func} {R : Value → World → Prop} {r s t q : ResultVar} {u v x y : Value} (he : e = .ret ∨ e = .normal) (h : fn.results = #[r, s, t, q]) (h1 : RV P n f w r u) (h2 : RV P n f w s v) (h3 : RV P n f w t x) (h4 : RV P n f w q y) (hR : R (.tuple #[u, v, x, y]) w) : RetQ P fn n R e f w :=
  RetQ.of he ⟨_, by rw [results_run h]; simp [h1.run, h2.run, h3.run, h4.run], hR⟩
end
end Go.Proofs.YtjcagoighpmdkaaGreatDoor
