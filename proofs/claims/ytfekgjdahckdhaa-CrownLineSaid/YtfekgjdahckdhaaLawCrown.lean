/- The laws of chapter 5: crowns. -/
import Derived.Test.YtfekgjdahckdhaaCrown
import Derived.Test.YtfekgjdahckdhaaConv
import Derived.Test.YtfekgjdahckdhaaRow
namespace Go.Proofs.Ytfekgjdahckdhaa
open Go Go.RowKit
set_option linter.unusedVariables false
set_option linter.unusedSimpArgs false
attribute [local irreducible] actF WL CW OW PL SW VR LR yes Returns Fn
/-! a crown's bytes -/
theorem cutB_mid {l a b c : List UInt8} {i h : Nat} (hl : l = a ++ (b ++ c)) (hi : a.length = i) (hh : a.length + b.length = h) : cutB l i h = b := by
  subst hl hi hh
  rw [cutB, ← List.append_assoc, List.take_left' (by rw [List.length_append]), List.drop_left]
theorem get_put {v : Int} {n : Nat} (h0 : 0 ≤ v) (h1 : v.toNat < 256 ^ n) (hn : n ≤ 7) : (getB (putB v.toNat n) : Int) = v := by
  rw [getB, List.take_of_length_le (by rw [putB_length]; omega), num_put n _ h1]; omega
theorem right_spec {s : Sup} (h : rightS s = true) : (0 ≤ s.seq ∧ s.seq ≤ 900000000) ∧ (0 ≤ s.head ∧ s.head ≤ 900000000) ∧ (0 ≤ s.epoch ∧ s.epoch ≤ 900000000) ∧ (8 ≤ s.half ∧ s.half ≤ 400) ∧ 4 ≤ s.log ∧ s.log ≤ 300 := by
  rw [rightS_eq] at h
  simp only [Bool.and_eq_true, decide_eq_true_eq, okS] at h
  omega
theorem right_mk {s : Sup} (h : (0 ≤ s.seq ∧ s.seq ≤ 900000000) ∧ (0 ≤ s.head ∧ s.head ≤ 900000000) ∧ (0 ≤ s.epoch ∧ s.epoch ≤ 900000000) ∧ (8 ≤ s.half ∧ s.half ≤ 400) ∧ 4 ≤ s.log ∧ s.log ≤ 300) : rightS s = true := by
  rw [rightS_eq]
  simp only [Bool.and_eq_true, decide_eq_true_eq, okS]
  omega
def rawN (s : Sup) : List UInt8 := [70, 76, 73, 84] ++ putB s.seq.toNat 4 ++ putB s.head.toNat 4 ++ putB s.epoch.toNat 4 ++ putB s.half.toNat 2 ++ putB s.log.toNat 2
theorem raw_eq {s : Sup} (h : rightS s = true) : rawS s = rawN s := by
  obtain ⟨h1, h2, h3, h4, h5⟩ := right_spec h
  have e : ∀ v n : Int, 0 ≤ v → v ≤ 900000000 → 1 ≤ n → n ≤ 8 → putI v n = putB v.toNat n.toNat := fun v n a b c d => by rw [putI, if_neg (by omega)]
  rw [rawS, e _ _ h1.1 h1.2 (by omega) (by omega), e _ _ h2.1 h2.2 (by omega) (by omega), e _ _ h3.1 h3.2 (by omega) (by omega), e _ 2 (by omega) (by omega) (by omega) (by omega), e s.log 2 (by omega) (by omega) (by omega) (by omega)]
  rfl
theorem rawN_length (s : Sup) : (rawN s).length = 20 := by simp [rawN, putB_length]
theorem crown_eq {s : Sup} (h : rightS s = true) : crownB s = sealedB (padB (rawN s) 8) := by
  rw [crownB, raw_eq h, sealI_ok (by rw [rawN_length]; omega) (by omega), rawN_length]; rfl
theorem crown_length {s : Sup} (h : rightS s = true) : (crownB s).length = 32 := by rw [crown_eq h, sealed_length, padB_length, rawN_length]
theorem read_crown {s : Sup} (h : rightS s = true) : readS (crownB s) = s := by
  obtain ⟨h1, h2, h3, h4, h5⟩ := right_spec h
  have hb : ∃ z, crownB s = [70, 76, 73, 84] ++ (putB s.seq.toNat 4 ++ (putB s.head.toNat 4 ++ (putB s.epoch.toNat 4 ++ (putB s.half.toNat 2 ++ (putB s.log.toNat 2 ++ z))))) := by
    rw [crown_eq h]
    exact ⟨List.replicate 8 0 ++ putB (sumB (padB (rawN s) 8)) 4, by simp only [sealedB, padB, rawN, List.append_assoc]⟩
  obtain ⟨z, hz⟩ := hb
  have c1 : cutB (crownB s) 4 8 = putB s.seq.toNat 4 := cutB_mid hz rfl (by rw [putB_length]; rfl)
  have c2 : cutB (crownB s) 8 12 = putB s.head.toNat 4 := cutB_mid (a := [70, 76, 73, 84] ++ putB s.seq.toNat 4) (by rw [hz]; simp only [List.append_assoc]; rfl) (by simp [putB_length]) (by simp [putB_length])
  have c3 : cutB (crownB s) 12 16 = putB s.epoch.toNat 4 := cutB_mid (a := [70, 76, 73, 84] ++ putB s.seq.toNat 4 ++ putB s.head.toNat 4) (by rw [hz]; simp only [List.append_assoc]; rfl) (by simp [putB_length]) (by simp [putB_length])
  have c4 : cutB (crownB s) 16 18 = putB s.half.toNat 2 := cutB_mid (a := [70, 76, 73, 84] ++ putB s.seq.toNat 4 ++ putB s.head.toNat 4 ++ putB s.epoch.toNat 4) (by rw [hz]; simp only [List.append_assoc]; rfl) (by simp [putB_length]) (by simp [putB_length])
  have c5 : cutB (crownB s) 18 20 = putB s.log.toNat 2 := cutB_mid (a := [70, 76, 73, 84] ++ putB s.seq.toNat 4 ++ putB s.head.toNat 4 ++ putB s.epoch.toNat 4 ++ putB s.half.toNat 2) (by rw [hz]; simp only [List.append_assoc]; rfl) (by simp [putB_length]) (by simp [putB_length])
  rw [readS, c1, c2, c3, c4, c5, get_put (by omega) (by omega) (by omega), get_put (by omega) (by omega) (by omega), get_put (by omega) (by omega) (by omega), get_put (by omega) (by omega) (by omega), get_put (by omega) (by omega) (by omega)]
theorem getOk_crown {s : Sup} (h : rightS s = true) : getOk (crownB s) = true := by
  rw [getOk, read_crown h, h, crown_length h]; simp
theorem getS_crown {s : Sup} (h : rightS s = true) : getS (crownB s) = s := by rw [getS, if_pos (getOk_crown h), read_crown h]
theorem crown_inj {s t : Sup} (hs : rightS s = true) (ht : rightS t = true) : crownB s = crownB t ↔ s = t := by
  constructor
  · intro h
    rw [← getS_crown hs, ← getS_crown ht, h]
  · intro h; rw [h]
theorem get_turned {s : Sup} (h : rightS s = true) (k : Nat) (b : UInt8) (hk : k < 32) (hb : (crownB s)[k]? ≠ some b) : getOk ((crownB s).set k b) = false := by
  cases hg : getOk ((crownB s).set k b) with
  | false => rfl
  | true =>
    have h1 := (crown_open hg).1
    rw [crown_eq h] at h1 hb
    rw [open_turned _ k b (by rw [padB_length, rawN_length]; omega) hb] at h1
    cases h1
theorem getOk_short {b : List UInt8} (h : b.length ≠ 32) : getOk b = false := by rw [getOk, decide_eq_false h]; rfl
theorem crown_PutT {s : Sup} (h : rightS s = true) : FnV Try.prog 47 [supV s] (.tuple #[str (crownB s), .bool true]) := by
  have := crown_Put s
  rwa [h, if_pos rfl] at this
theorem crown_PutF {s : Sup} (h : rightS s = false) : FnV Try.prog 47 [supV s] (.tuple #[str [], .bool false]) := by
  have := crown_Put s
  rwa [h, if_neg (by simp)] at this
theorem crown_GetT {s : Sup} (h : rightS s = true) : FnV Try.prog 52 [str (crownB s)] (.tuple #[supV s, .bool true]) := by
  have := crown_Get (crownB s) (by rw [crown_length h]; omega)
  rwa [getOk_crown h, getS_crown h] at this
theorem crown_GetF : FnV Try.prog 52 [str []] (.tuple #[supV ⟨0, 0, 0, 0, 0⟩, .bool false]) := by
  have := crown_Get [] (by simp)
  rwa [getS, getOk_short (by simp), if_neg (by simp)] at this
theorem alive5 : FnV Try.prog 46 [] (.bool true) := by
  refine FnV.mk fun E F w hS => ?_
  have hr : rightS ⟨4, 0, 0, 8, 4⟩ = true := right_mk (by simp)
  have hl := crown_length hr
  have hn : newS (crownB ⟨4, 0, 0, 8, 4⟩) [116, 111, 114, 110] = (⟨4, 0, 0, 8, 4⟩, 0, true) := by
    rw [newS_a (by rw [getOk_crown hr, getOk_short (b := [116, 111, 114, 110]) (by simp)]; rfl), getS_crown hr]
  have hnew := crown_Newer (crownB ⟨4, 0, 0, 8, 4⟩) [116, 111, 114, 110] (by omega) (by simp)
  rw [hn] at hnew
  refine returns_enter Try.func46 rfl Try.ntmps46 rfl ?_
  refine cw_seq fun K1 hK1 => ?_
  refine cw_region ?_
  refine wl_op rfl rfl (ow_vr (vr_assign (v := .bool false) rfl) ?_)
  refine wl_nil ?_
  refine hK1 _ _ ?_
  refine cw_seq fun K2 hK2 => ?_
  refine cw_region ?_
  refine wl_op rfl rfl (ow_vr (vr_build (vs := [(0, .int .i64 _), (3, .int .i64 _), (4, .int .i64 _)]) (cs := [.int .i64 _, .int .i64 _, .int .i64 _, .int .i64 _, .int .i64 _]) zr_55 pl_55 rfl rfl) ?_)
  refine wl_op rfl rfl (ow_fn (vs := [.agg _]) en_47 rfl hS (crown_PutT hr) ?_)
  clear hS; rintro _ _ w ⟨rfl, rfl⟩ hS; (try simp only [List.cons_append, List.nil_append] at hS)
  refine wl_op rfl rfl (ow_vr (vr_move (v := .tuple _) rfl) ?_)
  refine wl_op rfl rfl (ow_vr (vr_extract (v := str _) rfl rfl) ?_)
  refine wl_op rfl rfl (ow_vr (vr_extract (v := .bool _) rfl rfl) ?_)
  refine wl_op rfl rfl (ow_vr (vr_assign (v := str _) rfl) ?_)
  refine wl_op rfl rfl (ow_vr (vr_assign (v := .bool _) rfl) ?_)
  refine wl_nil ?_
  refine hK2 _ _ ?_
  refine cw_seq fun K3 hK3 => ?_
  refine cw_region ?_
  refine wl_op rfl rfl (ow_vr (vr_move (v := str _) rfl) ?_)
  refine wl_op rfl rfl (ow_fn (vs := [str _, str _]) en_53 rfl hS (hnew) ?_)
  clear hS; rintro _ _ w ⟨rfl, rfl⟩ hS; (try simp only [List.cons_append, List.nil_append] at hS)
  refine wl_op rfl rfl (ow_vr (vr_move (v := .tuple _) rfl) ?_)
  refine wl_op rfl rfl (ow_vr (vr_extract (v := .agg _) rfl rfl) ?_)
  refine wl_op rfl rfl (ow_vr (vr_extract (v := .int .i64 _) rfl rfl) ?_)
  refine wl_op rfl rfl (ow_vr (vr_extract (v := .bool _) rfl rfl) ?_)
  refine wl_op rfl rfl (ow_alloc (cs := [_, _, _, _, _]) hS zr_55 rfl ?_)
  clear hS; intro b3 w hS
  refine wl_op rfl rfl (ow_storeA (vs := [.int .i64 _, .int .i64 _, .int .i64 _, .int .i64 _, .int .i64 _]) hS sz_55 rfl rfl rfl rfl (by first | exact Has.here | exact Has.there (Has.here) | exact Has.there (Has.there (Has.here)) | exact Has.there (Has.there (Has.there (Has.here))) | exact Has.there (Has.there (Has.there (Has.there (Has.here)))) | exact Has.there (Has.there (Has.there (Has.there (Has.there (Has.here))))) | exact Has.there (Has.there (Has.there (Has.there (Has.there (Has.there (Has.here)))))) | exact Has.there (Has.there (Has.there (Has.there (Has.there (Has.there (Has.there (Has.here)))))))) (by simp) ?_)
  clear hS; intro w hS; try simp only [putAt, List.set_cons_zero, List.set_cons_succ] at hS
  refine wl_op rfl rfl (ow_vr (vr_assign (v := .int .i64 _) rfl) ?_)
  refine wl_op rfl rfl (ow_vr (vr_assign (v := .bool _) rfl) ?_)
  refine wl_nil ?_
  refine hK3 _ _ ?_
  refine cw_seq fun K4 hK4 => ?_
  refine cw_region ?_
  refine wl_op rfl rfl (ow_vr (vr_move (v := .bool _) rfl) ?_)
  refine wl_op rfl rfl (ow_vr (vr_move (v := .bool _) rfl) ?_)
  refine wl_known 18 rfl (c := true) (rfl) ?_
  refine wl_yes rfl rfl rfl rfl rfl (ow_vr (vr_move (v := str _) rfl) ?_)
  refine wl_yes rfl rfl rfl rfl rfl (ow_vr (vr_len_s Try.underlying9 rfl) ?_)
  refine wl_yes rfl rfl rfl rfl rfl (ow_vr (vr_eql rfl rfl) ?_)
  refine wl_op rfl rfl (ow_vr (vr_pick (b := true) (v := .bool _) rfl rfl) ?_)
  refine wl_op rfl rfl (ow_vr (vr_move (v := .bool _) rfl) ?_)
  refine wl_known 23 rfl (c := true) (by simp [hl]) ?_
  refine wl_yes rfl rfl rfl rfl rfl (ow_vr (vr_move (v := .bool _) rfl) ?_)
  refine wl_op rfl rfl (ow_vr (vr_pick (b := true) (v := .bool _) rfl rfl) ?_)
  refine wl_op rfl rfl (ow_vr (vr_move (v := .bool _) rfl) ?_)
  refine wl_known 26 rfl (c := true) (rfl) ?_
  refine wl_yes rfl rfl rfl rfl rfl (ow_vr (vr_move (v := .int .i64 _) rfl) ?_)
  refine wl_yes rfl rfl rfl rfl rfl (ow_vr (vr_eql rfl rfl) ?_)
  refine wl_op rfl rfl (ow_vr (vr_pick (b := true) (v := .bool _) rfl rfl) ?_)
  refine wl_op rfl rfl (ow_vr (vr_move (v := .bool _) rfl) ?_)
  refine wl_known 30 rfl (c := true) (by decide) ?_
  first | (refine wl_yes rfl rfl rfl rfl rfl (ow_vr (vr_fieldAddr fo_55_0 rfl) ?_)) | (refine wl_yes rfl rfl rfl rfl rfl (ow_vr (vr_fieldAddrV fo_55_0 rfl (by first | assumption | (refine Own.view ?_ (by assumption); exact fun _ => rfl) | exact OwnB.view (by assumption)) (by first | omega | (simp <;> omega))) ?_))
  refine wl_yes rfl rfl rfl rfl rfl (ow_lr (S := Sat _ _) (lr_load1 Try.underlying3 rfl rfl (by first | exact Has.here | exact Has.there (Has.here) | exact Has.there (Has.there (Has.here)) | exact Has.there (Has.there (Has.there (Has.here))) | exact Has.there (Has.there (Has.there (Has.there (Has.here)))) | exact Has.there (Has.there (Has.there (Has.there (Has.there (Has.here))))) | exact Has.there (Has.there (Has.there (Has.there (Has.there (Has.there (Has.here)))))) | exact Has.there (Has.there (Has.there (Has.there (Has.there (Has.there (Has.there (Has.here)))))))) rfl) hS ?_)
  refine wl_yes rfl rfl rfl rfl rfl (ow_vr (vr_eql rfl rfl) ?_)
  refine wl_op rfl rfl (ow_vr (vr_pick (b := true) (v := .bool _) rfl rfl) ?_)
  refine wl_op rfl rfl (ow_vr (vr_move (v := .bool _) rfl) ?_)
  refine wl_known 35 rfl (c := true) (by decide) ?_
  refine wl_yes rfl rfl rfl rfl rfl (ow_lr (S := Sat _ _) (lr_loadA (vs := [.int .i64 _, .int .i64 _, .int .i64 _, .int .i64 _, .int .i64 _]) Try.underlying55 rfl sz_55 rfl (by first | exact Has.here | exact Has.there (Has.here) | exact Has.there (Has.there (Has.here)) | exact Has.there (Has.there (Has.there (Has.here))) | exact Has.there (Has.there (Has.there (Has.there (Has.here)))) | exact Has.there (Has.there (Has.there (Has.there (Has.there (Has.here))))) | exact Has.there (Has.there (Has.there (Has.there (Has.there (Has.there (Has.here)))))) | exact Has.there (Has.there (Has.there (Has.there (Has.there (Has.there (Has.there (Has.here)))))))) rfl rfl) hS ?_)
  refine wl_yes rfl rfl rfl rfl rfl (ow_fn (vs := [.agg _]) en_51 rfl hS (crown_Place ⟨4, 0, 0, 8, 4⟩) ?_)
  clear hS; rintro _ _ w ⟨rfl, rfl⟩ hS; (try simp only [List.cons_append, List.nil_append] at hS)
  refine wl_yes rfl rfl rfl rfl rfl (ow_vr (vr_eql rfl rfl) ?_)
  refine wl_op rfl rfl (ow_vr (vr_pick (b := true) (v := .bool _) rfl rfl) ?_)
  refine wl_op rfl rfl (ow_vr (vr_assign (v := .bool _) rfl) ?_)
  refine wl_nil ?_
  refine hK4 _ _ ?_
  refine cw_ret ?_
  refine ret_one (fn := Try.f46) (n := 40) (t := 0) (.inl rfl) rfl rfl ?_
  exact ⟨congrArg Value.bool (by rw [show (1 : Int) = ((1 : Nat) : Int) from rfl, show (4 : Int) = ((4 : Nat) : Int) from rfl, andI_nat (by omega) (by omega)]; rfl), hS.tail1⟩
end Go.Proofs.Ytfekgjdahckdhaa
