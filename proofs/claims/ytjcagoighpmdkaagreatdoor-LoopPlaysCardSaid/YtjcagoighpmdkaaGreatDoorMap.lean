/- Maps by int keys: looked up, written. -/
import Derived.Test.YtjcagoighpmdkaaGreatDoorSlice
namespace Go.Proofs.YtjcagoighpmdkaaGreatDoor
open Go Go.RowKit
set_option linter.unusedVariables false
set_option linter.unusedSimpArgs false
section
variable {β : Type} {val : β → Value}
def mkEnt (val : β → Value) (x : Int × β × Nat) : MapEntry := ⟨.int .i64 x.1, val x.2.1, x.2.2⟩
def getM : List (Int × β × Nat) → Int → Option β
  | [], _ => none
  | x :: L, k => if x.1 = k then some x.2.1 else getM L k
/-- The block r is a map that has m. -/
def MapAt (val : β → Value) (r : Nat) (m : Int → Option β) (Δ : Chunk) : Prop := ∃ L clock, Δ = [(r, .map (L.map (mkEnt val)).toArray clock)] ∧ ∀ k, getM L k = m k
theorem find_none : ∀ (L : List (Int × β × Nat)) (k : Int) (i : Nat), getM L k = none → Instr.findNow (.int .i64) (.int .i64 k) (L.map (mkEnt val)) i = some none
  | [], _, _, _ => rfl
  | x :: L, k, i, h => by
    rw [getM] at h
    split at h
    · cases h
    · rename_i hne
      have : (k == x.1) = false := by simp; omega
      simp only [List.map_cons, Instr.findNow, mkEnt, Instr.sameNow, if_true, this]
      exact find_none L k (i + 1) h
theorem find_some : ∀ (L : List (Int × β × Nat)) (k : Int) (i : Nat) (v : β), getM L k = some v → ∃ j x, Instr.findNow (.int .i64) (.int .i64 k) (L.map (mkEnt val)) i = some (some (i + j, val v)) ∧ L[j]? = some x ∧ x.1 = k ∧
      ∀ v' k', getM (L.modify j fun x => (x.1, v', x.2.2)) k' = if k' = k then some v' else getM L k'
  | [], _, _, _, h => by cases h
  | x :: L, k, i, v, h => by
    rw [getM] at h
    split at h
    · rename_i he
      cases h
      have : (k == x.1) = true := by simp; omega
      refine ⟨0, x, ?_, rfl, he, fun v' k' => ?_⟩
      · simp only [List.map_cons, Instr.findNow, mkEnt, Instr.sameNow, if_true, this]; rfl
      · simp only [List.modify_zero_cons, getM]
        by_cases hk : k' = k
        · rw [if_pos hk, if_pos (by omega)]
        · rw [if_neg hk, if_neg (by omega), if_neg (by omega)]
    · rename_i hne
      have : (k == x.1) = false := by simp; omega
      obtain ⟨j, y, h1, h2, h3, h4⟩ := find_some L k (i + 1) v h
      refine ⟨j + 1, y, ?_, h2, h3, fun v' k' => ?_⟩
      · simp only [List.map_cons, Instr.findNow, mkEnt, Instr.sameNow, if_true, this]
        rw [show i + (j + 1) = i + 1 + j by omega]; exact h1
      · simp only [List.modify_succ_cons, getM, h4]
        by_cases hk : k' = k
        · rw [if_pos hk, if_pos hk, if_neg (by omega)]
        · rw [if_neg hk, if_neg hk]
theorem getM_push (x : Int × β × Nat) : ∀ (L : List (Int × β × Nat)), getM L x.1 = none → ∀ k', getM (L ++ [x]) k' = if k' = x.1 then some x.2.1 else getM L k'
  | [], _, k' => by
    simp only [List.nil_append, getM]
    by_cases h : k' = x.1
    · rw [if_pos h, if_pos h.symm]
    · rw [if_neg h, if_neg (Ne.symm h)]
  | y :: L, h, k' => by
    rw [getM] at h
    split at h
    · cases h
    · rename_i hne
      rw [List.cons_append, getM, getM_push x L h k', getM]
      by_cases hk : k' = x.1
      · rw [if_pos hk, if_pos hk, if_neg (by omega)]
      · rw [if_neg hk, if_neg hk]
variable {P : Program} {E : World} {Γ : List Chunk} {f : Nat → Value} {w : World} {K : (Nat → Value) → World → Prop} {d : Nat} {ty : TypeId} {pos : String} {af : Array Edge} {g : Option (Nat × Bool)}
theorem run_checkKey {b : Bool} {t : TypeId} {k : Int} (hu : P.underlying t = some (.int .i64)) : (Instr.checkKey b 10000 t (.int .i64 k)).run P w = .ok () w := by
  rw [Instr.checkKey, Sem.run_bind, run_underlying hu]; rfl
def setM (m : Int → Option β) (k : Int) (v : β) : Int → Option β := fun k' => if k' = k then some v else m k'
/-- 'v, ok := m[k]' -/
theorem lr_lookup2 {T kt vt : TypeId} {x i : Operand} {r : Nat} {k : Int} {m : Int → Option β} {z : β} {Δ : Chunk} (hu : P.underlying T = some (.map kt vt)) (hk : P.underlying kt = some (.int .i64)) (hz : zeroIs P vt (val z))
    (hx : ev f x = .map (some r)) (hi : ev f i = .int .i64 k) (hm : MapAt val r m Δ) (hd : Δ ∈ Γ) : LR P (Sat E Γ) f ⟨some d, .lookup T x i true, ty, pos, af, g⟩ (.tuple #[val ((m k).getD z), .bool (m k).isSome]) := by
  intro w hS
  obtain ⟨L, clock, rfl, hL⟩ := hm
  have hg : w.heap[r]? = some (.map (L.map (mkEnt val)).toArray clock) := hS.mem (r, _) (List.mem_flatten.2 ⟨_, hd, List.mem_singleton.2 rfl⟩)
  have ho : (getObj r).run P w = .ok (.map (L.map (mkEnt val)).toArray clock) w := by simp [getObj, Sem.run, hg]
  have hf : (Instr.findKey kt (.int .i64 k) (L.map (mkEnt val))).run P w = .ok (match Instr.findNow (.int .i64) (.int .i64 k) (L.map (mkEnt val)) 0 with | some q => q | none => none) w := by
    rw [Instr.findKey, Sem.run_bind, run_underlying hk]
    simp only [Result.andThen_ok]
    cases hn : m k with
    | none => rw [find_none L k 0 (by rw [hL, hn])]; rfl
    | some b => obtain ⟨j, y, h1, -⟩ := find_some (val := val) L k 0 b (by rw [hL, hn]); rw [h1]; rfl
  cases hn : m k with
  | none =>
    rw [find_none L k 0 (by rw [hL, hn])] at hf
    simp [execOp, hx, hi, Instr.lookup, run_underlying hu, ho, run_checkKey hk, hf, run_zeroValue' hz]
  | some b =>
    obtain ⟨j, y, h1, -⟩ := find_some (val := val) L k 0 b (by rw [hL, hn])
    rw [h1] at hf
    simp [execOp, hx, hi, Instr.lookup, run_underlying hu, ho, run_checkKey hk, hf]
/-- 'm[k] = v' -/
theorem ow_mapUpdate {T kt vt : TypeId} {x i y : Operand} {r : Nat} {k : Int} {b : β} {m : Int → Option β} {Δ : Chunk} {U : Chunk → List Chunk} (hS : Sat E Γ w) (hu : P.underlying T = some (.map kt vt)) (hk : P.underlying kt = some (.int .i64))
    (hx : ev f x = .map (some r)) (hi : ev f i = .int .i64 k) (hy : ev f y = val b) (hm : MapAt val r m Δ) (hc : HasC Γ Δ U)
    (h : ∀ Δ' w', MapAt val r (setM m k b) Δ' → Sat E (U Δ') w' → K f w') : OW P ⟨none, .mapUpdate T x i y, ty, pos, af, g⟩ f w K := by
  obtain ⟨L, clock, rfl, hL⟩ := hm
  have hH := hc.has
  have hg := hH.get hS
  have ho : (getObj r).run P w = .ok (.map (L.map (mkEnt val)).toArray clock) w := by simp [getObj, Sem.run, hg]
  have put : ∀ o', (setObj r o').run P w = .ok () { w with heap := w.heap.set! r o' } ∧ Sat E (U [(r, o')]) { w with heap := w.heap.set! r o' } := by
    intro o'
    have hlt : r < w.heap.size := (Array.getElem?_eq_some_iff.1 hg).1
    refine ⟨by simp only [setObj, Sem.run]; rw [hg]; rfl, hS.put hH rfl rfl rfl (by simp) (by simp [hlt]) (fun k hk => by simp [Array.getElem?_setIfInBounds, Ne.symm hk])⟩
  cases hn : m k with
  | none =>
    have hnone := find_none (val := val) L k 0 (by rw [hL, hn])
    have hf : (Instr.findKey kt (.int .i64 k) (L.map (mkEnt val))).run P w = .ok none w := by
      rw [Instr.findKey, Sem.run_bind, run_underlying hk]
      simp only [Result.andThen_ok, hnone]; rfl
    obtain ⟨p1, p2⟩ := put (.map ((L ++ [(k, b, clock)]).map (mkEnt val)).toArray (clock + 1))
    have he : ((L.map (mkEnt val)).toArray.push { key := .int .i64 k, val := val b, born := clock }) = ((L ++ [(k, b, clock)]).map (mkEnt val)).toArray := by simp [mkEnt]
    have hr : (Instr.mapUpdate T (.map (some r)) (.int .i64 k) (val b)).run P w = .ok () { w with heap := w.heap.set! r (.map ((L ++ [(k, b, clock)]).map (mkEnt val)).toArray (clock + 1)) } := by
      unfold Instr.mapUpdate
      simp only [Sem.run_bind, run_underlying hu, Result.andThen_ok, ho, run_checkKey hk, hf, List.toList_toArray]
      rw [he]; exact p1
    refine ow_skip (by simp only [execOp, hx, hi, hy, Sem.run_bind, hr, Result.andThen_ok, Sem.run_pure]) (h _ _ ⟨L ++ [(k, b, clock)], clock + 1, rfl, fun k' => ?_⟩ p2)
    rw [getM_push (k, b, clock) L (by rw [hL, hn]) k', hL]; rfl
  | some c =>
    obtain ⟨j, y', h1, h2, h3, h4⟩ := find_some (val := val) L k 0 c (by rw [hL, hn])
    have hf : (Instr.findKey kt (.int .i64 k) (L.map (mkEnt val))).run P w = .ok (some (0 + j, val c)) w := by
      rw [Instr.findKey, Sem.run_bind, run_underlying hk]
      simp only [Result.andThen_ok, h1]; rfl
    obtain ⟨p1, p2⟩ := put (.map ((L.modify j fun x => (x.1, b, x.2.2)).map (mkEnt val)).toArray clock)
    have he : ((L.map (mkEnt val)).toArray.modify j fun e => { e with key := .int .i64 k, val := val b }) = ((L.modify j fun x => (x.1, b, x.2.2)).map (mkEnt val)).toArray := by
      apply Array.ext'
      simp only [Array.toList_modify, List.toList_toArray]
      apply List.ext_getElem?
      intro n
      simp only [List.getElem?_modify, List.getElem?_map]
      by_cases e : j = n
      · subst e; simp only [h2, Option.map_some, mkEnt, h3]; simp [mkEnt, h3]
      · simp [e]
    have hkey : ((L.map (mkEnt val)).toArray[0 + j]?).map (·.key) = some (.int .i64 k) := by
      rw [Nat.zero_add]; simp [h2, mkEnt, h3]
    have hst : Instr.keyThatStays (.int .i64 k) (.int .i64 k) = pure (.int .i64 k) := by simp [Instr.keyThatStays, Instr.sameBits]
    have hr : (Instr.mapUpdate T (.map (some r)) (.int .i64 k) (val b)).run P w = .ok () { w with heap := w.heap.set! r (.map ((L.modify j fun x => (x.1, b, x.2.2)).map (mkEnt val)).toArray clock) } := by
      rw [Nat.zero_add] at hkey
      unfold Instr.mapUpdate
      simp only [Sem.run_bind, run_underlying hu, Result.andThen_ok, ho, run_checkKey hk, hf, List.toList_toArray, Nat.zero_add, hkey, Option.getD_some, hst, Sem.run_pure]
      rw [he]; exact p1
    refine ow_skip (by simp only [execOp, hx, hi, hy, Sem.run_bind, hr, Result.andThen_ok, Sem.run_pure]) (h _ _ ⟨L.modify j fun x => (x.1, b, x.2.2), clock, rfl, fun k' => ?_⟩ p2)
    rw [h4, hL]; rfl
/-- map[..]..{} -/
theorem ow_makeMap {T : TypeId} (hS : Sat E Γ w) (h : ∀ b Δ w', MapAt val b (fun _ => none) Δ → Sat E (Δ :: Γ) w' → K (upd f d (.map (some b))) w') : OW P ⟨some d, .makeMap T none, ty, pos, af, g⟩ f w K := by
  refine ow_val (v := .map (some w.heap.size)) (w' := { w with heap := w.heap.push (.map #[] 0) }) ?_ (h _ _ _ ⟨[], 0, rfl, fun _ => rfl⟩ (hS.alloc _))
  simp [execOp, Instr.makeMap, newObj, Sem.run]
end
end Go.Proofs.YtjcagoighpmdkaaGreatDoor
