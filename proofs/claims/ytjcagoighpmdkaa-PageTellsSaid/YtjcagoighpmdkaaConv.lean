/- []byte(s): a block of its own with the model's mark behind its cells; one byte of it written. -/
import Derived.Test.YtjcagoighpmdkaaBytes
import Derived.Lib.ConvBytes
namespace Go.Proofs.Ytjcagoighpmdkaa
open Go Go.RowKit
set_option linter.unusedVariables false
set_option linter.unusedSimpArgs false
def OwnB (e : TypeId) (v : Value) (xs : List UInt8) (Δ : Chunk) : Prop :=
  ∃ g cap rest, v = .slice (some ⟨g, 0, none⟩) xs.length cap ∧ Δ = [(g, .cells (xs.flatMap encB ++ rest).toArray e ((xs.flatMap encB ++ rest).length, (xs.flatMap encB ++ rest).length + 1))] ∧ xs.length ≤ cap
theorem OwnB.view {e : TypeId} {v : Value} {xs : List UInt8} {Δ : Chunk} (h : OwnB e v xs Δ) : View 1 encB v xs Δ := by
  obtain ⟨g, cap, rest, rfl, rfl, h1⟩ := h
  refine ⟨_, _, rfl, h1, fun h => (by cases h), fun ad had => ?_⟩
  cases had
  refine .inr ⟨rfl, _, _, _, List.mem_singleton.2 rfl, ?_⟩
  simp only [List.drop_zero, List.toList_toArray]
  rw [← flatMap_len (m := 1) (enc := encB) (fun _ => rfl), List.take_left]
section
variable {P : Program} {E : World} {Γ : List Chunk} {f : Nat → Value} {w : World} {K : (Nat → Value) → World → Prop} {d : Nat} {ty : TypeId} {pos : String} {af : Array Edge} {g : Option (Nat × Bool)}
theorem ow_strBytes {src dst e : TypeId} {x : Operand} {xs : List UInt8} (hS : Sat E Γ w) (hs : P.underlying src = some .string) (hd : P.underlying dst = some (.slice e)) (he : P.underlying e = some (.int .u8)) (hx : ev f x = str xs)
    (h : ∀ v Δ w', OwnB e v xs Δ → Sat E (Δ :: Γ) w' → K (upd f d v) w') : OW P ⟨some d, .convert src dst x, ty, pos, af, g⟩ f w K := by
  have hr := Lib.run_convert_string_bytes (P := P) w src dst e ⟨xs.toArray⟩ hs hd he
  have hc : Lib.bytesCells w e ⟨xs.toArray⟩ = (xs.flatMap encB ++ List.replicate (grownCap w xs.length 0 e - xs.length) (Value.int .u8 0)).toArray := by
    apply Array.ext'
    rw [flatMap_encB]
    simp [Lib.bytesCells, ByteArray.size, Function.comp_def]
  refine ow_val (w' := Lib.bytesWorld w e ⟨xs.toArray⟩) (by simp only [execOp, hx, Sem.run_bind, hr, Result.andThen_ok, Sem.run_pure]; rfl) (h _ [(w.heap.size, .cells (xs.flatMap encB ++ List.replicate (grownCap w xs.length 0 e - xs.length) (Value.int .u8 0)).toArray e (_, _))] _ ⟨w.heap.size, _, _, rfl, rfl, grownCap_ge w xs.length 0 e⟩ ?_)
  have hn := Lib.bytesWorld_at_new w e ⟨xs.toArray⟩
  rw [hc] at hn
  simp only [List.size_toArray] at hn
  refine ⟨hS.os, hS.tape, hS.output, by rw [Lib.bytesWorld_size]; have := hS.size; omega, ?_, ?_⟩
  · simp only [List.flatten_cons, List.cons_append, List.nil_append, List.map_cons, List.nodup_cons]
    refine ⟨fun hm => ?_, hS.nd⟩
    obtain ⟨p, hp, hep⟩ := List.mem_map.1 hm
    have := hS.lt hp
    omega
  · intro p hp
    simp only [List.flatten_cons, List.cons_append, List.nil_append, List.mem_cons] at hp
    rcases hp with rfl | hp
    · exact hn
    · rw [Lib.bytesWorld_at_old w e _ _ (hS.lt hp)]
      exact hS.mem p hp
theorem ow_storeB {T e : TypeId} {x y : Operand} {v : Value} {xs : List UInt8} {Δ : Chunk} {j : Nat} {b' : UInt8} {U : Chunk → List Chunk} (hS : Sat E Γ w) (hm : szIs P T 1) (hx : ev f x = elAt v 1 j 0) (hy : ev f y = .int .u8 (b'.toNat : Int))
    (ho : OwnB e v xs Δ) (hc : HasC Γ Δ U) (hj : j < xs.length)
    (h : ∀ Δ' w', OwnB e v (xs.set j b') Δ' → Sat E (U Δ') w' → K f w') : OW P ⟨none, .store T x y, ty, pos, af, g⟩ f w K := by
  obtain ⟨gg, cap, rest, rfl, rfl, h2⟩ := ho
  obtain ⟨b, hb⟩ := get_lt hj
  have hlt : j * 1 + 0 < (xs.flatMap encB).length := by rw [flatMap_len (m := 1) (enc := encB) (fun _ => rfl)]; omega
  have hH := hc.has (b := gg)
  have hlt2 : 0 + j * 1 + 0 < (xs.flatMap encB ++ rest).length := by rw [List.length_append]; omega
  have hcell : w.cell? ⟨gg, 0 + j * 1 + 0, none⟩ = some ((xs.flatMap encB ++ rest)[0 + j * 1 + 0]'hlt2) := by rw [cell_at (hH.get hS)]; exact List.getElem?_eq_getElem _
  have hfz : w.frozen? ⟨gg, 0 + j * 1 + 0, none⟩ = false := by
    have hg := hH.get hS
    simp only [World.frozen?, hg]
    rw [decide_eq_false (by rw [List.length_append]; omega)]; rfl
  have hst := run_store1 (P := P) (v := .int .u8 (b'.toNat : Int)) rfl hcell hfz
  refine ow_skip (w' := w.setCell ⟨gg, 0 + j * 1 + 0, none⟩ (.int .u8 (b'.toNat : Int))) ?_ ?_
  · simp only [elAt] at hx
    have hadd : (⟨gg, 0 + j * 1 + 0, none⟩ : Addr).add 0 = ⟨gg, 0 + j * 1 + 0, none⟩ := rfl
    generalize ho : 0 + j * 1 + 0 = o at *
    simp [execOp, hx, hy, Instr.storeAt, Instr.sureAddr, storeVar, Value.cells, run_sizeOf' hm, storeCells, hadd, hst]
  · have hw' := hS.setCell (off := j * 1 + 0) hH (.int .u8 (b'.toNat : Int))
    have hset := flatMap_set (m := 1) (enc := encB) (fun _ => rfl) xs j 0 b b' (.int .u8 (b'.toNat : Int)) hb (by decide) rfl
    have hlen : (xs.flatMap encB).length = ((xs.set j b').flatMap encB).length := by rw [← hset, List.length_set]
    rw [List.set_append_left _ _ hlt, hset] at hw'
    rw [show 0 + j * 1 + 0 = j * 1 + 0 by omega]
    refine h _ _ ⟨gg, cap, rest, by rw [List.length_set], rfl, by rw [List.length_set]; exact h2⟩ ?_
    rw [List.length_append, hlen, ← List.length_append] at hw'
    exact hw'
end
end Go.Proofs.Ytjcagoighpmdkaa
