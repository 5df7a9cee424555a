/- strings.Builder, written and read; strings.Join: the shelf's contracts at this program. -/
import Derived.Shelf.Strings.Builder1
import Derived.Shelf.Strings.OnBuilder
import Derived.Lib.Agree
import Derived.Test.YtjcagoighpmdkaaFacts
namespace Go.Proofs.Ytjcagoighpmdkaa
open Go Go.RowKit Go.Shelf
set_option linter.unusedVariables false
set_option linter.unusedSimpArgs false
def laysJoin_ren : Go.Shelf.Ren := ⟨fun | 156 => 81 | 165 => 95 | 166 => 78 | 169 => 79 | 240 => 94 | 241 => 101 | 276 => 100 | 277 => 105 | n => n, fun | 31 => 57 | 9 => 9 | 3 => 3 | 4 => 4 | 0 => 0 | 20 => 20 | 72 => 93 | 76 => 96 | 70 => 91 | 37 => 63 | 75 => 95 | 127 => 118 | 164 => 124 | 5 => 5 | 80 => 98 | n => n, fun | n => n⟩
theorem laysJoin : Lays.n156 Try.prog laysJoin_ren where
  mixed := by kernel_rfl
  f156 := Try.func81.trans (congrArg some (by kernel_rfl))
  f165 := Try.func95.trans (congrArg some (by kernel_rfl))
  f166 := Try.func78.trans (congrArg some (by kernel_rfl))
  f169 := Try.func79.trans (congrArg some (by kernel_rfl))
  f240 := Try.func94.trans (congrArg some (by kernel_rfl))
  f241 := Try.func101.trans (congrArg some (by kernel_rfl))
  f276 := Try.func100.trans (congrArg some (by kernel_rfl))
  f277 := Try.func105.trans (congrArg some (by kernel_rfl))
  t0 := Try.underlying0
  a0 := Try.isAgg0
  z0 := Try.sizeOf0
  v0 := Try.zeroValue0
  t3 := Try.underlying3
  a3 := Try.isAgg3
  z3 := Try.sizeOf3
  v3 := Try.zeroValue3
  t4 := Try.underlying4
  a4 := Try.isAgg4
  z4 := Try.sizeOf4
  v4 := Try.zeroValue4
  t9 := Try.underlying9
  a9 := Try.isAgg9
  z9 := Try.sizeOf9
  v9 := Try.zeroValue9
  t20 := Try.underlying20
  a20 := Try.isAgg20
  z20 := Try.sizeOf20
  v20 := Try.zeroValue20
  t31 := Try.underlying57
  a31 := Try.isAgg57
  z31 := Try.sizeOf57
  v31 := Try.zeroValue57
  t37 := Try.underlying63
  a37 := Try.isAgg63
  z37 := Try.sizeOf63
  v37 := Try.zeroValue63
  t70 := Try.underlying91
  a70 := Try.isAgg91
  z70 := Try.sizeOf91
  v70 := Try.zeroValue91
  t72 := Try.underlying93
  a72 := Try.isAgg93
  z72 := Try.sizeOf93
  v72 := Try.zeroValue93
  t75 := Try.underlying95
  a75 := Try.isAgg95
  z75 := Try.sizeOf95
  v75 := Try.zeroValue95
  t76 := Try.underlying96
  a76 := Try.isAgg96
  z76 := Try.sizeOf96
  v76 := Try.zeroValue96
  t127 := Try.underlying118
  a127 := Try.isAgg118
  z127 := Try.sizeOf118
  v127 := Try.zeroValue118
  t164 := Try.underlying124
  a164 := Try.isAgg124
  z164 := Try.sizeOf124
  v164 := Try.zeroValue124
theorem laysWrite : Lays.n166 Try.prog laysJoin_ren where
  mixed := by kernel_rfl
  f166 := Try.func78.trans (congrArg some (by kernel_rfl))
  f240 := Try.func94.trans (congrArg some (by kernel_rfl))
  f276 := Try.func100.trans (congrArg some (by kernel_rfl))
  t0 := Try.underlying0
  a0 := Try.isAgg0
  z0 := Try.sizeOf0
  v0 := Try.zeroValue0
  t3 := Try.underlying3
  a3 := Try.isAgg3
  z3 := Try.sizeOf3
  v3 := Try.zeroValue3
  t4 := Try.underlying4
  a4 := Try.isAgg4
  z4 := Try.sizeOf4
  v4 := Try.zeroValue4
  t9 := Try.underlying9
  a9 := Try.isAgg9
  z9 := Try.sizeOf9
  v9 := Try.zeroValue9
  t20 := Try.underlying20
  a20 := Try.isAgg20
  z20 := Try.sizeOf20
  v20 := Try.zeroValue20
  t37 := Try.underlying63
  a37 := Try.isAgg63
  z37 := Try.sizeOf63
  v37 := Try.zeroValue63
  t70 := Try.underlying91
  a70 := Try.isAgg91
  z70 := Try.sizeOf91
  v70 := Try.zeroValue91
  t72 := Try.underlying93
  a72 := Try.isAgg93
  z72 := Try.sizeOf93
  v72 := Try.zeroValue93
  t75 := Try.underlying95
  a75 := Try.isAgg95
  z75 := Try.sizeOf95
  v75 := Try.zeroValue95
  t164 := Try.underlying124
  a164 := Try.isAgg124
  z164 := Try.sizeOf124
  v164 := Try.zeroValue124
theorem laysString : Lays.n169 Try.prog laysJoin_ren where
  mixed := by kernel_rfl
  f169 := Try.func79.trans (congrArg some (by kernel_rfl))
  t0 := Try.underlying0
  a0 := Try.isAgg0
  z0 := Try.sizeOf0
  v0 := Try.zeroValue0
  t3 := Try.underlying3
  a3 := Try.isAgg3
  z3 := Try.sizeOf3
  v3 := Try.zeroValue3
  t9 := Try.underlying9
  a9 := Try.isAgg9
  z9 := Try.sizeOf9
  v9 := Try.zeroValue9
  t37 := Try.underlying63
  a37 := Try.isAgg63
  z37 := Try.sizeOf63
  v37 := Try.zeroValue63
  t70 := Try.underlying91
  a70 := Try.isAgg91
  z70 := Try.sizeOf91
  v70 := Try.zeroValue91
  t72 := Try.underlying93
  a72 := Try.isAgg93
  z72 := Try.sizeOf93
  v72 := Try.zeroValue93
  t127 := Try.underlying118
  a127 := Try.isAgg118
  z127 := Try.sizeOf118
  v127 := Try.zeroValue118
theorem extraJoin : Builder.Extra Try.prog laysJoin_ren where
  sizeBuilder := by kernel_rfl
  liesBuilder := by kernel_rfl
  t5 := Try.underlying5
  a5 := Try.isAgg5
  z5 := Try.sizeOf5
  v5 := Try.zeroValue5
  infoByte := by kernel_rfl
  cellsByte := by kernel_rfl
  sizeByte := by kernel_rfl
  neB5 := by decide
theorem fWrite : laysJoin_ren.f 166 = 78 := by kernel_rfl
theorem fString : laysJoin_ren.f 169 = 79 := by kernel_rfl
theorem fJoin : laysJoin_ren.f 156 = 81 := by kernel_rfl
theorem tWrite : laysJoin_ren.t 72 = 93 ∧ laysJoin_ren.t 5 = 5 := ⟨by kernel_rfl, by kernel_rfl⟩
/-- The block b is a builder that holds these bytes; its buffer is behind it. -/
def BldAt (b : Nat) (bs : List UInt8) (Δ : Chunk) : Prop := ∃ pv v D, Δ = (b, Obj.cells [pv, v].toArray 93 (0, 0)) :: D ∧ (pv = .pointer none ∨ pv = .pointer (some ⟨b, 0, none⟩)) ∧ Own 5 1 encB v bs D ∧ ∀ p ∈ D, b < p.1
theorem byteCells_enc (bs : List UInt8) : Lib.byteCells bs = bs.flatMap encB := by
  rw [flatMap_encB]; simp [Lib.byteCells, Function.comp_def]
theorem BldAt.is {b : Nat} {bs : List UInt8} {Δ : Chunk} {E w : World} {F : List Chunk} (h : BldAt b bs Δ) (hS : Sat E (Δ :: F) w) : Lib.IsBuilder 93 5 b b (Lib.byteCells bs) w := by
  obtain ⟨pv, v, D, rfl, hp, ho, hlt⟩ := h
  have hb : w.heap[b]? = some (.cells #[pv, v] 93 (0, 0)) := hS.mem (b, _) (by simp)
  have hlen : (Lib.byteCells bs).length = bs.length := by rw [byteCells_enc, flatMap_len (m := 1) (fun _ => rfl), Nat.mul_one]
  have key : Lib.BuilderAt 93 5 b b pv (Lib.byteCells bs) w := by
    refine ⟨Nat.le_refl _, v, hb, ⟨by omega, ?_⟩, ?_⟩
    · rcases ho with ⟨rfl, rfl, rfl⟩ | ⟨g, cap, rest, rfl, rfl, h1, h2, h3⟩
      · exact .inl ⟨rfl, rfl⟩
      · refine .inr ⟨g, cap, (bs.flatMap encB ++ rest).toArray, by rw [hlen], Nat.le_of_lt (hlt (g, .cells (bs.flatMap encB ++ rest).toArray 5 (0, 0)) (List.mem_singleton.2 rfl)), hS.mem (g, .cells (bs.flatMap encB ++ rest).toArray 5 (0, 0)) (by simp), by omega, h2, by simpa using h3, ?_⟩
        rw [hlen, Nat.mul_one, byteCells_enc, List.toList_toArray, ← hlen, byteCells_enc, List.take_left]
    · rcases ho with ⟨rfl, rfl, rfl⟩ | ⟨g, cap, rest, rfl, rfl, h1, h2, h3⟩
      · simp [Value.ownBlock]
      · have := hlt (g, .cells (bs.flatMap encB ++ rest).toArray 5 (0, 0)) (List.mem_singleton.2 rfl)
        simp only [Value.ownBlock, ne_eq, Option.some.injEq]; omega
  rcases hp with rfl | rfl
  · exact .inl key
  · exact .inr key
theorem Sat.belowB {E w w' : World} {F : List Chunk} {b : Nat} (hS : Sat E F w) (hlt : ∀ p ∈ F.flatten, p.1 < b) (hb : Below b w w') : Sat E F w' :=
  ⟨hb.os.trans hS.os, hb.tape.trans hS.tape, hb.output.trans hS.output, Nat.le_trans hS.size hb.size, hS.nd, fun p hp => by rw [hb.block _ (hlt p hp)]; exact hS.mem p hp⟩
theorem BldAt.back {b : Nat} {bs : List UInt8} {E w w' : World} {F : List Chunk} (hS : Sat E F w) (hlt : ∀ p ∈ F.flatten, p.1 < b) (hb : Below b w w') (h : Lib.BuilderAt 93 5 b b (.pointer (some ⟨b, 0, none⟩)) (Lib.byteCells bs) w') : ∃ Δ', BldAt b bs Δ' ∧ Sat E (Δ' :: F) w' := by
  obtain ⟨_, v, hbk, ⟨hl, hor⟩, hne⟩ := h
  have hF := hS.belowB hlt hb
  have hlen : (Lib.byteCells bs).length = bs.length := by rw [byteCells_enc, flatMap_len (m := 1) (fun _ => rfl), Nat.mul_one]
  rcases hor with ⟨rfl, h0⟩ | ⟨g, cap, cur, rfl, hg, hgk, h1, h2, h3, h4⟩
  · have hbs : bs = [] := List.eq_nil_of_length_eq_zero (by omega)
    subst hbs
    refine ⟨[(b, .cells [.pointer (some ⟨b, 0, none⟩), .slice none 0 0].toArray 93 (0, 0))], ⟨_, _, [], rfl, .inr rfl, Own.nil, by simp⟩, hF.os, hF.tape, hF.output, hF.size, ?_, ?_⟩
    · simp only [List.flatten_cons, List.cons_append, List.nil_append, List.map_cons, List.nodup_cons]
      refine ⟨fun hm => ?_, hF.nd⟩
      obtain ⟨p, hp, he⟩ := List.mem_map.1 hm
      have := hlt p hp; omega
    · intro p hp
      simp only [List.flatten_cons, List.cons_append, List.nil_append, List.mem_cons] at hp
      rcases hp with rfl | hp
      · exact hbk
      · exact hF.mem p hp
  · have hgb : b < g := by
      simp only [Value.ownBlock, ne_eq, Option.some.injEq] at hne; omega
    have hcur : cur = (bs.flatMap encB ++ cur.toList.drop bs.length).toArray := by
      apply Array.ext'
      rw [List.toList_toArray, ← byteCells_enc, ← h4, hlen, Nat.mul_one, List.take_append_drop]
    refine ⟨[(b, .cells [.pointer (some ⟨b, 0, none⟩), .slice (some ⟨g, 0, none⟩) (Lib.byteCells bs).length cap].toArray 93 (0, 0)), (g, .cells cur 5 (0, 0))], ⟨_, _, [(g, .cells cur 5 (0, 0))], rfl, .inr rfl, .inr ⟨g, cap, cur.toList.drop bs.length, by rw [hlen], by rw [← hcur], by omega, h2, ?_⟩, by simp; exact hgb⟩, hF.os, hF.tape, hF.output, hF.size, ?_, ?_⟩
    · have := congrArg Array.size hcur
      simp only [List.size_toArray] at this
      omega
    · simp only [List.flatten_cons, List.cons_append, List.nil_append, List.map_cons, List.nodup_cons, List.mem_cons, not_or]
      refine ⟨⟨by omega, fun hm => ?_⟩, fun hm => ?_, hF.nd⟩
      · obtain ⟨p, hp, he⟩ := List.mem_map.1 hm
        have := hlt p hp; omega
      · obtain ⟨p, hp, he⟩ := List.mem_map.1 hm
        have := hlt p hp; omega
    · intro p hp
      simp only [List.flatten_cons, List.cons_append, List.nil_append, List.mem_cons] at hp
      rcases hp with rfl | rfl | hp
      · exact hbk
      · exact hgk
      · exact hF.mem p hp
section
variable {E : World} {Γ F : List Chunk} {f : Nat → Value} {w : World} {K : (Nat → Value) → World → Prop} {d : Nat} {ty : TypeId} {pos : String} {af : Array Edge} {g : Option (Nat × Bool)}
theorem ow_allocLt {P : Program} {T : TypeId} {z : Value} {cs : List Value} (hS : Sat E Γ w) (hz : zeroIs P T z) (hc : z.cells.toList = cs)
    (h : ∀ b w', (∀ p ∈ Γ.flatten, p.1 < b) → Sat E ([(b, .cells cs.toArray T (0, 0))] :: Γ) w' → K (upd f d (.pointer (some ⟨b, 0, none⟩))) w') : OW P ⟨some d, .alloc T, ty, pos, af, g⟩ f w K := by
  have hlt : ∀ p ∈ Γ.flatten, p.1 < w.heap.size := fun p hp => hS.lt hp
  refine ow_val (v := .pointer (some ⟨w.heap.size, 0, none⟩)) (w' := { w with heap := w.heap.push (.cells cs.toArray T) }) ?_ (h _ _ hlt (hS.alloc _))
  have : z.cells = cs.toArray := by rw [← hc]
  simp [execOp, Instr.alloc, newVar, newRow, this, run_zeroValue' hz]
theorem ow_bldWrite {args : Array Operand} {ats : Array TypeId} {b : Nat} {bs s : List UInt8} {Δ : Chunk} (ha : args.toList.map (ev f) = [.pointer (some ⟨b, 0, none⟩), str s]) (hS : Sat E (Δ :: F) w) (hlt : ∀ p ∈ F.flatten, p.1 < b) (hb : BldAt b bs Δ) (hn : bs.length + s.length ≤ 1000000)
    (h : ∀ Δ' w', BldAt b (bs ++ s) Δ' → Sat E (Δ' :: F) w' → K (upd f d (.tuple #[.int .i64 (s.length : Int), .nilIface])) w') : OW Try.prog ⟨some d, .call ⟨.value (.func 78), args, ats⟩, ty, pos, af, g⟩ f w K := by
  have his := hb.is hS
  have hlen : (Lib.byteCells bs).length = bs.length := by rw [byteCells_enc, flatMap_len (m := 1) (fun _ => rfl), Nat.mul_one]
  have hbw : b ≤ w.heap.size := by
    obtain ⟨pv, v, D, rfl, _⟩ := hb
    exact Nat.le_of_lt (hS.lt (p := (b, .cells [pv, v].toArray 93 (0, 0))) (by simp))
  have hk := Any.Builder_WriteString laysWrite extraJoin b b (Lib.byteCells bs) ⟨s.toArray⟩ w (by rw [tWrite.1, tWrite.2]; exact his) (by rw [hlen]; show bs.length + s.length ≤ _; omega) hbw
  rw [fWrite, tWrite.1, tWrite.2] at hk
  refine ow_call en_78 ha (Calls.mono hk ?_)
  rintro e w' ⟨he, hB, hbel⟩
  have hcat : Lib.byteCells bs ++ Lib.strCells ⟨s.toArray⟩ = Lib.byteCells (bs ++ s) := by
    rw [Lib.strCells_eq]; simp [byteCells_enc]
  rw [hcat] at hB
  obtain ⟨Δ', h1, h2⟩ := BldAt.back hS.tail1 hlt hbel hB
  exact ⟨_, he, h Δ' w' h1 h2⟩
theorem ow_bldString {args : Array Operand} {ats : Array TypeId} {b : Nat} {bs : List UInt8} {Δ : Chunk} (ha : args.toList.map (ev f) = [.pointer (some ⟨b, 0, none⟩)]) (hS : Sat E (Δ :: F) w) (hlt : ∀ p ∈ F.flatten, p.1 < b) (hb : BldAt b bs Δ) (h0 : bs ≠ [])
    (h : ∀ w', Sat E F w' → K (upd f d (str bs)) w') : OW Try.prog ⟨some d, .call ⟨.value (.func 79), args, ats⟩, ty, pos, af, g⟩ f w K := by
  have hk := Any.Builder_String laysString extraJoin b b bs w (by rw [tWrite.1, tWrite.2]; exact hb.is hS) h0
  rw [fString] at hk
  refine ow_call en_79 ha (Calls.mono hk ?_)
  rintro e w' ⟨he, hbel⟩
  exact ⟨_, he, h w' (hS.tail1.belowB hlt hbel)⟩
end
theorem join_flat : ∀ l : List (List UInt8), Lib.join l [] = l.flatten
  | [] => rfl
  | x :: l => by
    have h := join_flat l
    cases l with
    | nil => rw [Lib.join_one]; simp
    | cons y t =>
      simp only [Lib.join, List.intercalate] at h ⊢
      simp only [List.intersperse, List.flatten_cons] at h ⊢
      rw [List.nil_append, h]
theorem encS_at (l : List (List UInt8)) (j : Nat) : (l.flatMap encS)[j]? = (l[j]?).map str := by
  have : l.flatMap encS = l.map str := by
    induction l with
    | nil => rfl
    | cons x t ih => rw [List.flatMap_cons, ih]; rfl
  rw [this, List.getElem?_map]
theorem strings_Join (l : List (List UInt8)) (v : Value) (Δ : Chunk) (hv : View 1 encS v l Δ) (hn : l.flatten.length ≤ 1000000) (hl : l.length ≤ 1000000) : FnG Try.prog 81 [v, str []] [Δ] (fun u Δs => u = str l.flatten ∧ Δs = []) := by
  refine FnG.mk fun E F w hS hF => ?_
  have hd : Δ ∈ F := hF _ (by simp)
  obtain ⟨a, cap, rfl, hcap, hnil, hsome⟩ := id hv
  cases l with
  | nil =>
    have hk := Any.strings_Join_none laysJoin extraJoin a cap ⟨#[]⟩ w
    rw [fJoin] at hk
    refine Calls.mono hk ?_
    rintro e w' ⟨he, rfl⟩
    exact ⟨_, he, [], ⟨rfl, rfl⟩, hS⟩
  | cons x t =>
    cases a with
    | none => cases hnil rfl
    | some ad =>
      have hc := View.cell (m := 1) (enc := encS) (fun _ => rfl) hv hS hd rfl
      obtain ⟨bk, o, sp⟩ := ad
      have hsp : sp = none ∧ bk < w.heap.size := by
        rcases hsome _ rfl with h | ⟨h1, cur, T, fr, h2, -⟩
        · cases h
        · exact ⟨h1, hS.lt (p := (bk, .cells cur T fr)) (List.mem_flatten.2 ⟨Δ, hd, h2⟩)⟩
      obtain ⟨rfl, hbk⟩ := hsp
      have hk := Any.strings_Join laysJoin extraJoin bk o cap ((x :: t).map fun s => ⟨s.toArray⟩) ⟨#[]⟩ w (by
        intro j y hy
        rw [List.getElem?_map] at hy
        cases hx : (x :: t)[j]? with
        | none => rw [hx] at hy; cases hy
        | some s =>
          rw [hx] at hy; cases hy
          have h1 := hc j (str s) (by rw [encS_at, hx]; rfl)
          have hadd : (⟨bk, o, none⟩ : Addr).add j = ⟨bk, o + j, none⟩ := by unfold Addr.add; split <;> simp_all
          rw [hadd] at h1
          exact h1) hbk (by simp only [List.length_map]; omega) (by rw [List.length_map]; exact hcap) (by
        rw [List.map_map]
        show (Lib.join ((x :: t).map fun s => s) []).length ≤ _
        rw [List.map_id', join_flat]; omega)
      rw [fJoin, List.length_map] at hk
      refine Calls.mono hk ?_
      rintro e w' ⟨he, hbel⟩
      refine ⟨_, he, [], ⟨?_, rfl⟩, hS.below hbel⟩
      rw [List.map_map]
      show str (Lib.join ((x :: t).map fun s => s) []) = _
      rw [List.map_id', join_flat]
end Go.Proofs.Ytjcagoighpmdkaa
