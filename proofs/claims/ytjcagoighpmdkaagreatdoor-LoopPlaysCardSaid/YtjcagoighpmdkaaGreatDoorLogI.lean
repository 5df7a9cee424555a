/- What lies in a log, and what is read of it: plain. -/
import Derived.Test.YtjcagoighpmdkaaGreatDoorLoop2
import Derived.Test.YtjcagoighpmdkaaGreatDoorLawSector
import Derived.Test.YtjcagoighpmdkaaGreatDoorLawEntry
namespace Go.Proofs.YtjcagoighpmdkaaGreatDoor
open Go Go.RowKit
set_option linter.unusedVariables false
set_option linter.unusedSimpArgs false
theorem zeros_no : getOkE zeros32 = false := by decide
theorem emod_ne {a b n : Int} (hn : 1 ≤ n) (h1 : a < b) (h2 : b - a < n) : a % n ≠ b % n := by
  intro h
  have h3 : (b - a) % n = 0 := Int.emod_eq_emod_iff_emod_sub_eq_zero.1 h.symm
  rw [Int.emod_eq_of_lt (by omega) h2] at h3
  omega
theorem scan_es (rd : Int → List UInt8) (from_ n epoch : Int) : ∀ (es : List Entr) (k : Nat) (lsn : Int), es.length ≤ k →
    (∀ (i : Nat) (e : Entr), es[i]? = some e → getOkE (rd (from_ + (lsn + (i : Int)) % n)) = true ∧ getE (rd (from_ + (lsn + (i : Int)) % n)) = e ∧ e.lsn = lsn + (i : Int) ∧ e.epoch = epoch) →
    (es.length < k → ¬ (getOkE (rd (from_ + (lsn + (es.length : Int)) % n)) = true ∧ (getE (rd (from_ + (lsn + (es.length : Int)) % n))).lsn = lsn + (es.length : Int) ∧ (getE (rd (from_ + (lsn + (es.length : Int)) % n))).epoch = epoch)) →
    scanGo rd from_ n epoch k lsn = es
  | [], 0, lsn, _, _, _ => rfl
  | [], k + 1, lsn, _, _, hs => by
    have := hs (by simp)
    simp only [List.length_nil, Int.natCast_zero, Int.add_zero] at this
    rw [scanGo, if_neg this]
  | e :: es, 0, lsn, h, _, _ => by simp at h
  | e :: es, k + 1, lsn, h, ha, hs => by
    have h0 := ha 0 e rfl
    simp only [Int.natCast_zero, Int.add_zero] at h0
    have hc : ∀ i : Nat, lsn + ((i + 1 : Nat) : Int) = lsn + 1 + (i : Int) := fun i => by omega
    rw [scanGo, h0.2.1, if_pos ⟨h0.1, h0.2.2⟩]
    congr 1
    refine scan_es rd from_ n epoch es k (lsn + 1) (by simpa using h) (fun i x hx => ?_) (fun hl => ?_)
    · have := ha (i + 1) x (by simpa using hx)
      rw [hc] at this; exact this
    · have := hs (by simpa using hl)
      rw [List.length_cons, hc] at this; exact this
/-- A log's entries are whole groups, with these changes. -/
def Whole (es : List Entr) (all : List (Int × Int)) : Prop := ∀ rest, changesGo (es ++ rest) 0 [] [] 0 = changesGo rest es.length all [] (es.length : Int)
theorem Whole.nil : Whole [] [] := fun rest => rfl
theorem Whole.group {es : List Entr} {all : List (Int × Int)} (h : Whole es all) (lsn ep : Int) (c : List (Int × Int)) : Whole (es ++ groupL lsn ep c) (all ++ c) := fun rest => by
  rw [List.append_assoc, h, groupL, List.append_assoc, go_chE]
  simp only [List.cons_append, List.nil_append, changesGo, List.length_append, chE_length, List.length_cons, List.length_nil]
  rw [if_neg (by decide), if_pos ⟨trivial, by simp⟩]
  congr 1
theorem Whole.changes {es : List Entr} {all : List (Int × Int)} (h : Whole es all) : changesE es = (all, (es.length : Int)) := by
  have := h []
  rw [List.append_nil] at this
  rw [changesE, this, changesGo]
theorem Whole.part {es : List Entr} {all : List (Int × Int)} (h : Whole es all) (lsn ep : Int) (c : List (Int × Int)) (t : Nat) (ht : t ≤ c.length) : changesE (es ++ (groupL lsn ep c).take t) = (all, (es.length : Int)) := by
  rw [changesE, h, groupL, List.take_append_of_le_length (by rw [chE_length]; exact ht), go_chE_take]
/-- What a log and its disk are. -/
structure LogI (d : Dsk) (L : Lp) (es : List Entr) (all : List (Int × Int)) : Prop where
  waits : d.waits = []
  off : d.off = false
  wf : WfL L
  fit : L.from_ + L.n ≤ d.n
  len : (es.length : Int) = L.next - L.head
  at_ : ∀ (i : Nat) (e : Entr), es[i]? = some e → d.lasts (L.from_ + (L.head + (i : Int)) % L.n) = some (laidB e) ∧ e.lsn = L.head + (i : Int) ∧ e.epoch = L.epoch ∧ rightE e = true
  old : ∀ k b, d.lasts k = some b → getOkE b = true → (getE b).epoch < L.epoch ∨ ((getE b).epoch = L.epoch ∧ (getE b).lsn < L.next)
  len32 : ∀ k b, d.lasts k = some b → b.length ≤ 1000
  whole : Whole es all
theorem LogI.read {d : Dsk} {L : Lp} {es : List Entr} {all : List (Int × Int)} (h : LogI d L es all) (k : Int) : readD d k = (d.lasts k).getD zeros32 := by rw [readD, h.waits]; rfl
theorem LogI.bound {d : Dsk} {L : Lp} {es : List Entr} {all : List (Int × Int)} (h : LogI d L es all) (k : Int) : (readD d k).length ≤ 1000 := by
  rw [h.read]
  cases hk : d.lasts k with
  | none => decide
  | some b => exact h.len32 k b hk
theorem LogI.scan {d : Dsk} {L : Lp} {es : List Entr} {all : List (Int × Int)} (h : LogI d L es all) : scanGo (readD d) L.from_ L.n L.epoch L.n.toNat L.head = es := by
  have hw := h.wf; have hl := h.len
  have h1 := hw.h2; have h2 := hw.n0
  refine scan_es _ _ _ _ es _ _ (by omega) (fun i e he => ?_) (fun hlt hc => ?_)
  · obtain ⟨h1, h2, h3, h4⟩ := h.at_ i e he
    rw [h.read, h1]
    exact ⟨getOk_laid h4, get_laid h4, h2, h3⟩
  · rw [h.read] at hc
    cases hk : d.lasts (L.from_ + (L.head + (es.length : Int)) % L.n) with
    | none => rw [hk] at hc; have := zeros_no; simp_all
    | some b =>
      rw [hk] at hc
      simp only [Option.getD_some] at hc
      rcases h.old _ b hk hc.1 with h3 | ⟨_, h3⟩ <;> omega
/-- .. told by Scan. -/
theorem LogI.told {d : Dsk} {L : Lp} {es : List Entr} {all : List (Int × Int)} (h : LogI d L es all) : changesE (scanGo (readD d) L.from_ L.n L.epoch L.n.toNat L.head) = (all, L.next - L.head) := by
  rw [h.scan, h.whole.changes, h.len]
theorem LogI.cut {d : Dsk} {L : Lp} {es : List Entr} {all : List (Int × Int)} (h : LogI d L es all) {e : Int} (he : L.epoch < e) : LogI d { L with head := L.next, epoch := e } [] [] where
  waits := h.waits
  off := h.off
  wf := { f0 := h.wf.f0, f1 := h.wf.f1, n0 := h.wf.n0, n1 := h.wf.n1, h0 := by have := h.wf.h0; have := h.wf.h1; simp only; omega, h1 := Int.le_refl _, h2 := by have := h.wf.n0; simp only; omega, x := h.wf.x }
  fit := h.fit
  len := by simp
  at_ := fun i e he => by simp at he
  old := fun k b hk hb => .inl (by rcases h.old k b hk hb with h1 | ⟨h1, _⟩ <;> simp only <;> omega)
  len32 := h.len32
  whole := Whole.nil
theorem LogI.new {n from_ k head epoch : Int} (hw : WfL ⟨from_, k, head, head, epoch⟩) (hf : from_ + k ≤ n) : LogI (newD n) ⟨from_, k, head, head, epoch⟩ [] [] where
  waits := rfl
  off := rfl
  wf := hw
  fit := hf
  len := by simp
  at_ := fun i e he => by simp at he
  old := fun k b hk hb => by cases hk
  len32 := fun k b hk => by cases hk
  whole := Whole.nil
/-! what is written -/
def wrE (from_ n : Int) (e : Entr) : Wr := (from_ + e.lsn % n, laidB e)
theorem doneD_out (d : Dsk) : (∃ l dd, doneD d = (0, { d with left := l, deeds := dd })) ∨ (d.armed = true ∧ ∃ l, doneD d = (3, (crashD { d with left := l } d.keep).2)) := by
  rw [doneD, fallsD]
  by_cases ha : d.armed = true
  · rw [if_pos ha]
    by_cases hl : wrap64I (d.left - 1) < 0
    · right; exact ⟨ha, wrap64I (d.left - 1), by simp [hl]⟩
    · left; exact ⟨wrap64I (d.left - 1), wrap64I (d.deeds + 1), by simp [hl]⟩
  · rw [if_neg ha]
    left; exact ⟨d.left, wrap64I (d.deeds + 1), by simp⟩
theorem writeL_out (from_ n : Int) : ∀ (g : List Entr) (d : Dsk), d.off = false → (∀ e ∈ g, 0 ≤ from_ + e.lsn % n ∧ from_ + e.lsn % n < d.n ∧ rightE e = true) →
    ((writeL d from_ n g).1 = 0 ∧ (writeL d from_ n g).2.off = false ∧ (writeL d from_ n g).2.waits = [] ∧ (writeL d from_ n g).2.lasts = barM d.lasts (d.waits ++ g.map (wrE from_ n)) ∧ (writeL d from_ n g).2.n = d.n) ∨
    (d.armed = true ∧ (writeL d from_ n g).1 = 3 ∧ (writeL d from_ n g).2.off = true ∧ (writeL d from_ n g).2.waits = [] ∧ (writeL d from_ n g).2.n = d.n ∧ (writeL d from_ n g).2.armed = false ∧ (writeL d from_ n g).2.keep = [] ∧ ∃ ks ws, ws <+: d.waits ++ g.map (wrE from_ n) ∧ (writeL d from_ n g).2.lasts = crashM ks 0 d.lasts ws)
  | [], d, hoff, _ => by
    rw [writeL, barrierD, if_neg (by simp [hoff])]
    rcases doneD_out d with ⟨l, dd, h⟩ | ⟨ha, l, h⟩
    · rw [h, if_pos rfl]
      exact .inl ⟨rfl, hoff, rfl, by simp, rfl⟩
    · rw [h, if_neg (by simp)]
      exact .inr ⟨ha, rfl, rfl, rfl, rfl, rfl, rfl, d.keep, d.waits, by simp, rfl⟩
  | e :: g, d, hoff, hin => by
    obtain ⟨h0, h1, h2⟩ := hin e (by simp)
    have hp : putE e = laidB e := by rw [putE, if_pos h2]
    have hm : mayE d (from_ + e.lsn % n) = 0 := by rw [mayE, hoff, if_neg (by simp), if_neg (by omega)]
    have hw : writeD d (from_ + e.lsn % n) (putE e) = doneD { d with waits := d.waits ++ [wrE from_ n e] } := by
      rw [writeD, if_neg (by omega), if_neg (by rw [hp, laid_length h2]; simp), hp]; rfl
    rw [writeL, hw]
    rcases doneD_out { d with waits := d.waits ++ [wrE from_ n e] } with ⟨l, dd, h⟩ | ⟨ha, l, h⟩
    · rw [h, if_pos rfl]
      have ih := writeL_out from_ n g { d with waits := d.waits ++ [wrE from_ n e], left := l, deeds := dd } hoff (fun x hx => hin x (by simp [hx]))
      simpa [List.append_assoc] using ih
    · rw [h, if_neg (by simp)]
      refine .inr ⟨ha, rfl, rfl, rfl, rfl, rfl, rfl, d.keep, d.waits ++ [wrE from_ n e], ?_, rfl⟩
      exact ⟨g.map (wrE from_ n), by simp⟩
theorem crashM_mem (ks : List Int) (k : Int) : ∀ (ws : List Wr) (i : Nat) (m : Int → Option (List UInt8)), crashM ks i m ws k = m k ∨ ∃ w ∈ ws, w.1 = k ∧ crashM ks i m ws k = some w.2
  | [], i, m => .inl rfl
  | w :: ws, i, m => by
    rw [crashM]
    rcases crashM_mem ks k ws (i + 1) (if keptB ks i then setM m w.1 w.2 else m) with h | ⟨x, hx, h1, h2⟩
    · rw [h]
      split
      · by_cases hk : k = w.1
        · exact .inr ⟨w, by simp, hk.symm, by simp [setM, hk]⟩
        · exact .inl (by simp [setM, hk])
      · exact .inl rfl
    · exact .inr ⟨x, by simp [hx], h1, h2⟩
theorem barM_mem (k : Int) : ∀ (ws : List Wr) (m : Int → Option (List UInt8)), (barM m ws k = m k ∧ ∀ w ∈ ws, w.1 ≠ k) ∨ ∃ w ∈ ws, w.1 = k ∧ barM m ws k = some w.2
  | [], m => .inl ⟨rfl, by simp⟩
  | w :: ws, m => by
    rw [barM]
    rcases barM_mem k ws (setM m w.1 w.2) with ⟨h, hn⟩ | ⟨x, hx, h1, h2⟩
    · by_cases hk : k = w.1
      · exact .inr ⟨w, by simp, hk.symm, by rw [h]; simp [setM, hk]⟩
      · refine .inl ⟨by rw [h]; simp [setM, hk], fun x hx => ?_⟩
        rcases List.mem_cons.1 hx with rfl | hx
        · exact fun e => hk e.symm
        · exact hn x hx
    · exact .inr ⟨x, by simp [hx], h1, h2⟩
theorem groupL_at {lsn ep : Int} {c : List (Int × Int)} {j : Nat} {e : Entr} (h : (groupL lsn ep c)[j]? = some e) : e.lsn = lsn + (j : Int) ∧ e.epoch = ep := by
  have hj := lt_get h
  rw [groupL_length] at hj
  rcases Nat.lt_or_ge j c.length with h1 | h1
  · obtain ⟨x, hx⟩ := get_lt h1
    rw [groupL_get lsn ep c hx] at h
    cases h; exact ⟨rfl, rfl⟩
  · obtain rfl : j = c.length := by omega
    rw [groupL_end] at h
    cases h; exact ⟨rfl, rfl⟩
theorem mem_wr {from_ n lsn ep : Int} {c : List (Int × Int)} {w : Wr} (h : w ∈ (groupL lsn ep c).map (wrE from_ n)) : ∃ (j : Nat) (e : Entr), (groupL lsn ep c)[j]? = some e ∧ w = (from_ + (lsn + (j : Int)) % n, laidB e) := by
  obtain ⟨e, he, rfl⟩ := List.mem_map.1 h
  obtain ⟨j, hj⟩ := List.getElem?_of_mem he
  exact ⟨j, e, hj, by rw [wrE, (groupL_at hj).1]⟩
theorem wr_mem {from_ n lsn ep : Int} {c : List (Int × Int)} {j : Nat} {e : Entr} (h : (groupL lsn ep c)[j]? = some e) : ((from_ + (lsn + (j : Int)) % n, laidB e) : Wr) ∈ (groupL lsn ep c).map (wrE from_ n) :=
  List.mem_map.2 ⟨e, List.mem_of_getElem? h, by rw [wrE, (groupL_at h).1]⟩
theorem first_fail (P : Nat → Prop) : ∀ n : Nat, ∃ t, t ≤ n ∧ (∀ j, j < t → P j) ∧ (t < n → ¬ P t)
  | 0 => ⟨0, Nat.le_refl _, fun j h => by omega, fun h => by omega⟩
  | n + 1 => by
    obtain ⟨t, h1, h2, h3⟩ := first_fail P n
    rcases Nat.lt_or_ge t n with h | h
    · exact ⟨t, by omega, h2, fun _ => h3 h⟩
    · obtain rfl : t = n := by omega
      by_cases hp : P t
      · refine ⟨t + 1, Nat.le_refl _, fun j hj => ?_, fun h => by omega⟩
        rcases Nat.lt_or_ge j t with h4 | h4
        · exact h2 j h4
        · obtain rfl : j = t := by omega
          exact hp
      · exact ⟨t, by omega, h2, fun _ => hp⟩
section
variable {d d' : Dsk} {L : Lp} {es : List Entr} {all c : List (Int × Int)}
/-- An elder entry's sector is none of the new ones. -/
theorem LogI.apart (h : LogI d L es all) (hroom : (groupL L.next L.epoch c).length ≤ L.n - (L.next - L.head)) {i : Nat} (hi : i < es.length) {w : Wr} (hw : w ∈ (groupL L.next L.epoch c).map (wrE L.from_ L.n)) : w.1 ≠ L.from_ + (L.head + (i : Int)) % L.n := by
  obtain ⟨j, e, hj, rfl⟩ := mem_wr hw
  have hj2 := lt_get hj
  have hl := h.len
  have hn := h.wf.n0
  have := emod_ne (a := L.head + (i : Int)) (b := L.next + (j : Int)) hn (by omega) (by omega)
  intro he
  exact this (by simp only at he; omega)
theorem wr_same (hn : 1 ≤ L.n) (hroom : (groupL L.next L.epoch c).length ≤ L.n) {j j' : Nat} {e : Entr} (hj : (groupL L.next L.epoch c)[j]? = some e) (hj' : j' < (groupL L.next L.epoch c).length) (h : L.from_ + (L.next + (j : Int)) % L.n = L.from_ + (L.next + (j' : Int)) % L.n) : j = j' := by
  have hj2 := lt_get hj
  rcases Nat.lt_trichotomy j j' with h1 | h1 | h1
  · exact absurd (by omega) (emod_ne (a := L.next + (j : Int)) (b := L.next + (j' : Int)) hn (by omega) (by omega))
  · exact h1
  · exact absurd (by omega) (emod_ne (a := L.next + (j' : Int)) (b := L.next + (j : Int)) hn (by omega) (by omega))
/-- A group was added. -/
theorem LogI.add (h : LogI d L es all) (hr : (groupL L.next L.epoch c).all rightE = true) (hroom : (groupL L.next L.epoch c).length ≤ L.n - (L.next - L.head)) (hx : L.next + (groupL L.next L.epoch c).length ≤ 1000000000000)
    (hoff : d'.off = false) (hw : d'.waits = []) (hn : d'.n = d.n) (hl : d'.lasts = barM d.lasts ((groupL L.next L.epoch c).map (wrE L.from_ L.n))) : LogI d' { L with next := L.next + (groupL L.next L.epoch c).length } (es ++ groupL L.next L.epoch c) (all ++ c) where
  waits := hw
  off := hoff
  wf := { f0 := h.wf.f0, f1 := h.wf.f1, n0 := h.wf.n0, n1 := h.wf.n1, h0 := h.wf.h0, h1 := by have := h.wf.h1; simp only; omega, h2 := by simp only; omega, x := hx }
  fit := by rw [hn]; exact h.fit
  len := by have := h.len; simp only [List.length_append]; omega
  at_ := fun i e he => by
    have hln := h.len
    rcases Nat.lt_or_ge i es.length with hi | hi
    · rw [List.getElem?_append_left hi] at he
      obtain ⟨h1, h2, h3, h4⟩ := h.at_ i e he
      refine ⟨?_, h2, h3, h4⟩
      rw [hl]
      rcases barM_mem (L.from_ + (L.head + (i : Int)) % L.n) ((groupL L.next L.epoch c).map (wrE L.from_ L.n)) d.lasts with ⟨h5, _⟩ | ⟨w, hw, h5, _⟩
      · rw [h5]; exact h1
      · exact absurd h5 (h.apart hroom hi hw)
    · rw [List.getElem?_append_right hi] at he
      have hg := groupL_at he
      have hs : L.head + (i : Int) = L.next + ((i - es.length : Nat) : Int) := by omega
      refine ⟨?_, by rw [hs]; exact hg.1, hg.2, List.all_eq_true.1 hr e (List.mem_of_getElem? he)⟩
      rw [hl, hs]
      rcases barM_mem (L.from_ + (L.next + ((i - es.length : Nat) : Int)) % L.n) ((groupL L.next L.epoch c).map (wrE L.from_ L.n)) d.lasts with ⟨_, h5⟩ | ⟨w, hw, h5, h6⟩
      · exact absurd rfl (h5 _ (wr_mem he))
      · obtain ⟨j, e', hj, rfl⟩ := mem_wr hw
        have := wr_same h.wf.n0 (by have := h.wf.h1; omega) hj (lt_get he) h5
        rw [← this] at he
        rw [hj] at he; cases he
        exact h6
  old := fun k b hk hb => by
    rw [hl] at hk
    rcases barM_mem k ((groupL L.next L.epoch c).map (wrE L.from_ L.n)) d.lasts with ⟨h5, _⟩ | ⟨w, hw, h5, h6⟩
    · rw [h5] at hk
      rcases h.old k b hk hb with h1 | ⟨h1, h2⟩
      · exact .inl h1
      · exact .inr ⟨h1, by simp only; omega⟩
    · rw [h6] at hk; cases hk
      obtain ⟨j, e, hj, rfl⟩ := mem_wr hw
      have hre := List.all_eq_true.1 hr e (List.mem_of_getElem? hj)
      have hj2 := lt_get hj
      refine .inr ⟨by simp only [get_laid hre]; exact (groupL_at hj).2, ?_⟩
      simp only [get_laid hre, (groupL_at hj).1]; omega
  len32 := fun k b hk => by
    rw [hl] at hk
    rcases barM_mem k ((groupL L.next L.epoch c).map (wrE L.from_ L.n)) d.lasts with ⟨h5, _⟩ | ⟨w, hw, h5, h6⟩
    · rw [h5] at hk; exact h.len32 k b hk
    · rw [h6] at hk; cases hk
      obtain ⟨j, e, hj, rfl⟩ := mem_wr hw
      simp only [laid_length (List.all_eq_true.1 hr e (List.mem_of_getElem? hj))]; omega
  whole := h.whole.group _ _ _
end
end Go.Proofs.YtjcagoighpmdkaaGreatDoor
