/- The laws of chapter 2: the disk. -/
import Derived.Test.YtjcagoighpmdkaaGreatDoorDisk
namespace Go.Proofs.YtjcagoighpmdkaaGreatDoor
open Go Go.RowKit
set_option linter.unusedVariables false
set_option linter.unusedSimpArgs false
attribute [local irreducible] actF WL CW OW PL SW VR LR yes Returns Fn
def fullB (b : List UInt8) : List UInt8 := if 32 ≤ b.length then b.take 32 else b ++ List.replicate (32 - b.length) 0
theorem fullB_length (b : List UInt8) : (fullB b).length = 32 := by
  rw [fullB]; split
  · rw [List.length_take]; omega
  · rw [List.length_append, List.length_replicate]; omega
theorem full_eq {b c : List UInt8} {j : Nat} (hc : c = b ++ List.replicate j 0) (hj : j = 0 ∨ b.length + j ≤ 32) (h : 32 ≤ c.length) : c.take 32 = fullB b := by
  subst hc
  rw [List.length_append, List.length_replicate] at h
  rw [fullB]; split
  · rw [List.take_append_of_le_length (by omega)]
  · rw [List.take_of_length_le (by rw [List.length_append, List.length_replicate]; omega), show j = 32 - b.length by omega]
theorem full_nil : fullB [] = zeros32 := rfl
def newD (n : Int) : Dsk := ⟨fun _ => none, [], n, false, 0, false, 0, []⟩
theorem disk_New' {n : Int} (h0 : 0 ≤ n) (h1 : n ≤ 3000) : Fn Tryz.prog 5 [.int .i64 n] [] (fun v Δs => ∃ p Δ, v = ptr p ∧ Δs = [Δ] ∧ DiskAt p (newD n) Δ) := by
  have h := disk_New n
  rw [if_neg (show ¬ n < 0 by omega), if_neg (by omega)] at h
  exact h
theorem wrap64_in {x : Int} (h : inI64 x) : wrap64I x = x := wrap_i64 h
theorem write_ok {d : Dsk} {k : Int} {b : List UInt8} (hoff : d.off = false) (ha : d.armed = false) (h0 : 0 ≤ k) (h1 : k < d.n) (hb : b.length = 32) (hd : inI64 (d.deeds + 1)) :
    writeD d k b = (0, { d with waits := d.waits ++ [(k, b)], deeds := d.deeds + 1 }) := by
  obtain ⟨l, ws, n, off, de, ar, le, ke⟩ := d
  simp only at hoff ha hd h1
  subst hoff ha
  have hm : mayE ⟨l, ws, n, false, de, false, le, ke⟩ k = 0 := by rw [mayE, if_neg (by simp), if_neg (by simp; omega)]
  rw [writeD, hm, if_neg (by simp), if_neg (by omega)]
  simp [doneD, fallsD, wrap64_in hd]
section
variable {p : Nat} {d : Dsk} {Δ : Chunk}
theorem disk_WriteOk (hd : DiskAt p d Δ) (k : Int) (b : List UInt8) (hks : d.keep.length ≤ 1000000) (hwl : d.waits.length ≤ 900000) (hoff : d.off = false) (ha : d.armed = false) (h0 : 0 ≤ k) (h1 : k < d.n) (hb : b.length = 32) (hdd : inI64 (d.deeds + 1)) :
    Fn Tryz.prog 60 [ptr p, .int .i64 k, str b] [Δ] (fun v Δs => v = .int .i64 0 ∧ ∃ Δ', Δs = [Δ'] ∧ DiskAt p { d with waits := d.waits ++ [(k, b)], deeds := d.deeds + 1 } Δ') := by
  have h := disk_Write hd k b hks hwl (by omega)
  rwa [write_ok hoff ha h0 h1 hb hdd] at h
theorem disk_ReadOk (hd : DiskAt p d Δ) (k : Int) (hwl : d.waits.length ≤ 1000000) (hoff : d.off = false) (h0 : 0 ≤ k) (h1 : k < d.n) :
    Fn Tryz.prog 29 [ptr p, .int .i64 k] [Δ] (fun v Δs => v = .tuple #[str (readD d k), .int .i64 0] ∧ Δs = [Δ]) := by
  have h := disk_Read hd k hwl
  have hm : mayE d k = 0 := by rw [mayE, hoff, if_neg (by simp), if_neg (by omega)]
  rwa [hm, if_pos rfl] at h
theorem barrier_ok {d : Dsk} (hoff : d.off = false) (ha : d.armed = false) (hd : inI64 (d.deeds + 1)) : barrierD d = (0, { d with lasts := barM d.lasts d.waits, waits := [], deeds := d.deeds + 1 }) := by
  obtain ⟨l, ws, n, off, de, ar, le, ke⟩ := d
  simp only at hoff ha hd
  subst hoff ha
  simp [barrierD, doneD, fallsD, wrap64_in hd]
theorem disk_BarrierOk (hd : DiskAt p d Δ) (hks : d.keep.length ≤ 1000000) (hwl : d.waits.length ≤ 1000000) (hoff : d.off = false) (ha : d.armed = false) (hdd : inI64 (d.deeds + 1)) :
    Fn Tryz.prog 63 [ptr p] [Δ] (fun v Δs => v = .int .i64 0 ∧ ∃ Δ', Δs = [Δ'] ∧ DiskAt p { d with lasts := barM d.lasts d.waits, waits := [], deeds := d.deeds + 1 } Δ') := by
  have h := disk_Barrier hd hks hwl
  rwa [barrier_ok hoff ha hdd] at h
end
end Go.Proofs.YtjcagoighpmdkaaGreatDoor
