/- From a law's contract to its row: what its arguments are, read off the form's own reading. -/
import Derived.Test.YtjcagoighpmdkaaGreatDoorRows
import Derived.Test.YtjcagoighpmdkaaGreatDoorMem
import Derived.ProofKit
import Derived.OpenShut
import Derived.ShutString
import Derived.ChangeOld
import Derived.Below
import Derived.Lib.SmallJoins
import Derived.Deep.Slices
namespace Go.Proofs.YtjcagoighpmdkaaGreatDoor
open Go Go.RowKit Go.ChangeShapes Go.WideShapes Go.ChangeAt
open Go.ChangeMaps (open_string shut_string)
set_option linter.unusedVariables false
theorem rowOwn : ownKnob Tryz.prog.godebug = none := by kernel_rfl
theorem rowLaid : laidOutB Tryz.prog = true := by kernel_rfl

theorem i64_of_wf {n : Int} (h : (Lit.int .i64 n).wf = true) : inI64 n := by
  simp only [Lit.wf, Bool.and_eq_true, decide_eq_true_eq, IntKind.min, IntKind.max, IntKind.signed, IntKind.bits] at h
  unfold inI64
  simp at h
  omega
theorem u8_of_wf {n : Int} (h : (Lit.int .u8 n).wf = true) : 0 ≤ n ∧ n ≤ 255 := by
  simp only [Lit.wf, Bool.and_eq_true, decide_eq_true_eq, IntKind.min, IntKind.max, IntKind.signed, IntKind.bits] at h
  simp at h
  omega

section
variable {P : Program} {w : World} {base : Nat} {H : Type} {enc : TypeId × Value → H} {spare : Nat → Bool} {held : Bool}
def isI64 : Option TypeDesc → Bool
  | some (.int .i64) => true
  | _ => false
theorem isI64_spec {d : Option TypeDesc} (h : isI64 d = true) : d = some (.int .i64) := by
  unfold isI64 at h
  split at h
  · rfl
  · cases h
/-- The fields are ints, a cell each, one behind the other. -/
def intFields (P : Program) (fs : Array Field) : Bool := fs.toList.zipIdx.all fun (f, i) => f.offset == i && P.cellsOf f.type == 1 && isI64 (P.underlying f.type)
theorem trod_ints {t : TypeId} {fs : Array Field} {fuel : Nat} {cs : List Value} {x : DataW H × List MemPlace} (hs : P.underlying t = some (.struct fs)) (hi : intFields P fs = true) (hc : P.cellsOf t = fs.size)
    (h : DataW.trod enc P w base spare held fuel t cs = some x) : ∃ ns : List Int, cs = ns.map (.int .i64) ∧ ns.length = fs.size ∧ ∀ n ∈ ns, inI64 n := by
  obtain ⟨xs, n, rfl, rfl, hl, hlen, hf⟩ := DataW.trod_struct hs h
  rw [hc] at hl
  simp only [intFields, List.all_eq_true] at hi
  have key : ∀ i, i < fs.size → ∃ z : Int, cs[i]? = some (.int .i64 z) ∧ inI64 z := by
    intro i hlt
    have hm : (fs[i], i) ∈ fs.toList.zipIdx := by
      rw [List.mem_zipIdx_iff_getElem?]
      simp [hlt]
    have h1 := hi _ hm
    simp only [Bool.and_eq_true, beq_iff_eq] at h1
    have h2 := hf i fs[i] (by simp [hlt])
    rw [h1.1.1, h1.1.2] at h2
    have hu : P.underlying fs[i].type = some (.int .i64) := isI64_spec h1.2
    have hx : xs[i]? = some (xs[i]'(by omega)) := by simp [hlen, hlt]
    rw [hx] at h2
    obtain ⟨z, hz, _, hwf⟩ := DataW.trod_int hu h2
    refine ⟨z, ?_, i64_of_wf hwf⟩
    have : ((cs.drop i).take 1)[0]? = some (.int .i64 z) := by rw [hz]; rfl
    simpa using this
  refine ⟨(List.range fs.size).map fun i => match cs[i]? with | some (Value.int _ z) => z | _ => 0, ?_, by simp, ?_⟩
  · apply List.ext_getElem?
    intro i
    rcases Nat.lt_or_ge i fs.size with hlt | hge
    · obtain ⟨z, hz, _⟩ := key i hlt
      simp [hlt, hz]
    · rw [List.getElem?_eq_none (by omega)]; simp [hge]
  · intro n hn
    simp only [List.mem_map, List.mem_range] at hn
    obtain ⟨i, hlt, rfl⟩ := hn
    obtain ⟨z, hz, hr⟩ := key i hlt
    rw [hz]; exact hr
theorem open_ints_st {r : Reach} {b0 : Nat} {t : TypeId} {fs : Array Field} {v : Value} {d : DataW H} {p : List MemPlace} (hs : P.underlying t = some (.struct fs)) (hi : intFields P fs = true) (hc : P.cellsOf t = fs.size)
    (hv : Value.okWide P w r b0 t v) (h : DataW.Trod enc P w base spare held t v d p) : ∃ ns : List Int, v = .agg (ns.map (.int .i64)).toArray ∧ ns.length = fs.size ∧ ∀ n ∈ ns, inI64 n := by
  obtain ⟨cs, rfl, hsz⟩ := okWide_struct hs hv
  obtain ⟨fuel, hf⟩ := h
  obtain ⟨ns, h1, h2, h3⟩ := trod_ints hs hi hc hf
  refine ⟨ns, ?_, h2, h3⟩
  congr 1
  have : cs.toList = ns.map (.int .i64) := h1
  rw [← this]
end
theorem list2 {ns : List Int} (h : ns.length = 2) : ∃ a b, ns = [a, b] := by match ns, h with | [a, b], _ => exact ⟨a, b, rfl⟩
theorem list4 {ns : List Int} (h : ns.length = 4) : ∃ a b c d, ns = [a, b, c, d] := by match ns, h with | [a, b, c, d], _ => exact ⟨a, b, c, d, rfl⟩
theorem list5 {ns : List Int} (h : ns.length = 5) : ∃ a b c d e, ns = [a, b, c, d, e] := by match ns, h with | [a, b, c, d, e], _ => exact ⟨a, b, c, d, e, rfl⟩

/-- A law's contract, where nothing but its arguments is read. -/
theorem law_of {N : FuncId} {args : List Value} (h : FnV Tryz.prog N args (.bool true)) (W : World) : Calls Tryz.prog N args.toArray W (fun e w' => e = .returned (.bool true) ∧ Below W.heap.size W w') := by
  refine Calls.mono (h W [Sat.all W] W (Sat.init W)) ?_
  rintro e w' ⟨v, he, Δ, ⟨rfl, rfl⟩, hS⟩
  exact ⟨he, hS.done⟩
/-- .. where memory is read. -/
theorem law_of_mem {N : FuncId} {args : List Value} (W : World) (h : Returns Tryz.prog N args.toArray W (fun u w' => u = .bool true ∧ Sat W [Sat.all W] w')) : Calls Tryz.prog N args.toArray W (fun e w' => e = .returned (.bool true) ∧ Below W.heap.size W w') := by
  refine Calls.mono h ?_
  rintro e w' ⟨v, he, rfl, hS⟩
  exact ⟨he, Sat.done (Γ := []) hS⟩
theorem str_of_wf {s : ByteArray} (h : s.size ≤ maxLen) : s.data.toList.length ≤ 9223372036854775807 := by
  have : s.data.toList.length = s.size := rfl
  unfold maxLen at h
  omega
end Go.Proofs.YtjcagoighpmdkaaGreatDoor
