/- A group of which some sectors are there: plain. -/
import Derived.Test.YtjcagoighpmdkaaGreatDoorLawLoop2
namespace Go.Proofs.YtjcagoighpmdkaaGreatDoor
open Go Go.RowKit
set_option linter.unusedVariables false
set_option linter.unusedSimpArgs false
/-- Each sector is what it was, or one of what was written. -/
def TornM (m m' : Int → Option (List UInt8)) (ws : List Wr) : Prop := ∀ k, m' k = m k ∨ ∃ w ∈ ws, w.1 = k ∧ m' k = some w.2
theorem torn_crash {ks : List Int} {m : Int → Option (List UInt8)} {ws ws' : List Wr} (h : ws <+: ws') : TornM m (crashM ks 0 m ws) ws' := fun k => by
  rcases crashM_mem ks k ws 0 m with h1 | ⟨w, hw, h1, h2⟩
  · exact .inl h1
  · exact .inr ⟨w, h.subset hw, h1, h2⟩
section
variable {d d' : Dsk} {L : Lp} {es : List Entr} {all c : List (Int × Int)}
/-- What is read behind a fall: all groups, and the last one wholly, or not at all. -/
theorem LogI.torn (h : LogI d L es all) (hr : (groupL L.next L.epoch c).all rightE = true) (hroom : (groupL L.next L.epoch c).length ≤ L.n - (L.next - L.head)) (hw : d'.waits = []) (ht : TornM d.lasts d'.lasts ((groupL L.next L.epoch c).map (wrE L.from_ L.n))) :
    changesE (scanGo (readD d') L.from_ L.n L.epoch L.n.toNat L.head) = (all, L.next - L.head) ∨ changesE (scanGo (readD d') L.from_ L.n L.epoch L.n.toNat L.head) = (all ++ c, L.next + (groupL L.next L.epoch c).length - L.head) := by
  have hrd : ∀ k, readD d' k = (d'.lasts k).getD zeros32 := fun k => by rw [readD, hw]; rfl
  have hn := h.wf.n0
  have hh := h.wf.h1
  have hln := h.len
  obtain ⟨t, h1, h2, h3⟩ := first_fail (fun j => ∀ e, (groupL L.next L.epoch c)[j]? = some e → d'.lasts (L.from_ + (L.next + (j : Int)) % L.n) = some (laidB e)) (groupL L.next L.epoch c).length
  have hsc : scanGo (readD d') L.from_ L.n L.epoch L.n.toNat L.head = es ++ (groupL L.next L.epoch c).take t := by
    have htl : ((groupL L.next L.epoch c).take t).length = t := by rw [List.length_take]; omega
    refine scan_es _ _ _ _ _ _ _ (by rw [List.length_append, htl]; omega) (fun i e he => ?_) (fun hlt hc => ?_)
    · rcases Nat.lt_or_ge i es.length with hi | hi
      · rw [List.getElem?_append_left hi] at he
        obtain ⟨g1, g2, g3, g4⟩ := h.at_ i e he
        have : d'.lasts (L.from_ + (L.head + (i : Int)) % L.n) = some (laidB e) := by
          rcases ht (L.from_ + (L.head + (i : Int)) % L.n) with h5 | ⟨w, hw', h5, _⟩
          · rw [h5]; exact g1
          · exact absurd h5 (h.apart hroom hi hw')
        rw [hrd, this]
        exact ⟨getOk_laid g4, get_laid g4, g2, g3⟩
      · rw [List.getElem?_append_right hi] at he
        have hj := lt_get he
        rw [htl] at hj
        rw [List.getElem?_take, if_pos hj] at he
        have hg := groupL_at he
        have g4 := List.all_eq_true.1 hr e (List.mem_of_getElem? he)
        have hs : L.head + (i : Int) = L.next + ((i - es.length : Nat) : Int) := by omega
        rw [hs, hrd, h2 _ hj e he]
        exact ⟨getOk_laid g4, get_laid g4, hg.1, hg.2⟩
    · rw [List.length_append, htl] at hlt hc
      have hs : L.head + ((es.length + t : Nat) : Int) = L.next + (t : Int) := by omega
      rw [hs, hrd] at hc
      cases hk : d'.lasts (L.from_ + (L.next + (t : Int)) % L.n) with
      | none => rw [hk] at hc; have := zeros_no; simp_all
      | some b =>
        rw [hk] at hc
        simp only [Option.getD_some] at hc
        rcases ht (L.from_ + (L.next + (t : Int)) % L.n) with h5 | ⟨w, hw', h5, h6⟩
        · rw [h5] at hk
          rcases h.old _ b hk hc.1 with h7 | ⟨_, h7⟩ <;> omega
        · obtain ⟨j, e, hj, rfl⟩ := mem_wr hw'
          have hre := List.all_eq_true.1 hr e (List.mem_of_getElem? hj)
          have hjl := lt_get hj
          rw [hk] at h6
          cases h6
          simp only [get_laid hre] at hc
          have hjt : j = t := by have := (groupL_at hj).1; omega
          subst hjt
          exact h3 hjl fun e' he' => by rw [hj] at he'; cases he'; exact hk
  rw [hsc]
  rcases Nat.lt_or_ge t (groupL L.next L.epoch c).length with hlt | hge
  · left
    rw [h.whole.part _ _ _ _ (by rw [groupL_length] at hlt; omega), hln]
  · right
    rw [List.take_of_length_le hge, (h.whole.group L.next L.epoch c).changes, List.length_append]
    congr 1; omega
/-- .. and what is made of it then. -/
theorem LogI.after (h : LogI d L es all) (hr : (groupL L.next L.epoch c).all rightE = true) (hoff : d'.off = false) (hw : d'.waits = []) (hn : d'.n = d.n) (ht : TornM d.lasts d'.lasts ((groupL L.next L.epoch c).map (wrE L.from_ L.n))) {x e : Int} (he : L.epoch < e) (hx0 : 0 ≤ x) (hx : x ≤ 1000000000000) :
    LogI d' ⟨L.from_, L.n, x, x, e⟩ [] [] where
  waits := hw
  off := hoff
  wf := wfL ⟨h.wf.f0, h.wf.f1, h.wf.n0, h.wf.n1, hx0, by omega, by have := h.wf.n0; omega, hx⟩
  fit := by rw [hn]; exact h.fit
  len := by simp
  at_ := fun i e he => by simp at he
  old := fun k b hk hb => by
    left
    rcases ht k with h5 | ⟨w, hw', h5, h6⟩
    · rw [h5] at hk
      rcases h.old k b hk hb with h7 | ⟨h7, _⟩ <;> (simp only; omega)
    · rw [h6] at hk; cases hk
      obtain ⟨j, e', hj, rfl⟩ := mem_wr hw'
      have hre := List.all_eq_true.1 hr e' (List.mem_of_getElem? hj)
      simp only [get_laid hre, (groupL_at hj).2]; omega
  len32 := fun k b hk => by
    rcases ht k with h5 | ⟨w, hw', h5, h6⟩
    · rw [h5] at hk; exact h.len32 k b hk
    · rw [h6] at hk; cases hk
      obtain ⟨j, e', hj, rfl⟩ := mem_wr hw'
      simp only [laid_length (List.all_eq_true.1 hr e' (List.mem_of_getElem? hj))]; omega
  whole := Whole.nil
/-- An append to a disk that may fall. -/
theorem append_any (h : LogI d L es all) (hwd : WfD d) (hr : (groupL L.next L.epoch c).all rightE = true) (hroom : (groupL L.next L.epoch c).length ≤ L.n - (L.next - L.head)) (hx : L.next + (groupL L.next L.epoch c).length ≤ 1000000000000) :
    WfD (appendL d L c).2.1 ∧ (appendL d L c).2.1.n = d.n ∧ (((appendL d L c).1 = 0 ∧ (appendL d L c).2.1.off = false ∧ (appendL d L c).2.2 = { L with next := L.next + (groupL L.next L.epoch c).length } ∧ LogI (appendL d L c).2.1 { L with next := L.next + (groupL L.next L.epoch c).length } (es ++ groupL L.next L.epoch c) (all ++ c)) ∨
    ((appendL d L c).1 = 3 ∧ (appendL d L c).2.1.off = true ∧ (appendL d L c).2.2 = L ∧ (appendL d L c).2.1.waits = [] ∧ TornM d.lasts (appendL d L c).2.1.lasts ((groupL L.next L.epoch c).map (wrE L.from_ L.n)))) := by
  have hn := writeL_n L.from_ L.n (groupL L.next L.epoch c) d
  rcases writeL_out L.from_ L.n (groupL L.next L.epoch c) d h.off (group_in h hr) with ⟨h1, h2, h3, h4, h5⟩ | ⟨ha, h1, h2, h3, h4, h5, h6, ks, ws, h7, h8⟩
  · rw [appendL, if_pos hr, if_neg (by omega), if_pos h1]
    rw [h.waits, List.nil_append] at h4
    exact ⟨⟨Nat.le_trans hn.2.2 hwd.keep, by simp only [h3]; simp, by simp only [h5]; exact hwd.n0, by simp only [h5]; exact hwd.n1⟩, h5, .inl ⟨rfl, h2, rfl, h.add hr hroom hx h2 h3 h5 h4⟩⟩
  · rw [appendL, if_pos hr, if_neg (by omega), if_neg (by omega)]
    rw [h.waits, List.nil_append] at h7
    exact ⟨⟨Nat.le_trans hn.2.2 hwd.keep, by simp only [h3]; simp, by simp only [h4]; exact hwd.n0, by simp only [h4]; exact hwd.n1⟩, h4, .inr ⟨h1, h2, rfl, h3, by rw [h8]; exact torn_crash h7⟩⟩
end
end Go.Proofs.YtjcagoighpmdkaaGreatDoor
