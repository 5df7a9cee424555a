/- Strings as lists of bytes; bits of numbers; bytes as slices. -/
import Derived.Test.YtjcagoighpmdkaaGreatDoorSlice
import Derived.Laws.BytesArg
namespace Go.Proofs.YtjcagoighpmdkaaGreatDoor
open Go Go.RowKit
set_option linter.unusedVariables false
set_option linter.unusedSimpArgs false
/-- A string of these bytes. -/
abbrev str (l : List UInt8) : Value := .string ⟨l.toArray⟩
def encI (x : Int) : List Value := [.int .i64 x]
def encS (s : List UInt8) : List Value := [str s]
def encB (b : UInt8) : List Value := [.int .u8 (b.toNat : Int)]
theorem wrap_u32 {x : Int} (h0 : 0 ≤ x) (h1 : x < 4294967296) : IntKind.u32.wrap x = x := by
  simp only [IntKind.wrap, IntKind.signed, IntKind.bits, Bool.false_and, if_false, Bool.false_eq_true]
  omega
theorem wrap_u32_mod (x : Int) : IntKind.u32.wrap x = x % 4294967296 := by
  simp [IntKind.wrap, IntKind.signed, IntKind.bits]
theorem wrap_u64 {x : Int} (h0 : 0 ≤ x) (h1 : x < 18446744073709551616) : IntKind.u64.wrap x = x := by
  simp only [IntKind.wrap, IntKind.signed, IntKind.bits, Bool.false_and, if_false, Bool.false_eq_true]
  omega
theorem wrap_u8_mod (x : Int) : IntKind.u8.wrap x = x % 256 := by
  simp [IntKind.wrap, IntKind.signed, IntKind.bits]
theorem wrap_u64_mod (x : Int) : IntKind.u64.wrap x = x % 18446744073709551616 := by
  simp [IntKind.wrap, IntKind.signed, IntKind.bits]
section
variable {P : Program} {E : World} {Γ : List Chunk} {f : Nat → Value} {w : World} {K : (Nat → Value) → World → Prop} {d : Nat} {ty : TypeId} {pos : String} {af : Array Edge} {g : Option (Nat × Bool)}
theorem run_intBits {op : BinOp} {k : IntKind} {a b r : Nat} (ha : a < 2 ^ k.bits) (hb : b < 2 ^ k.bits) (hr : k.wrap (r : Int) = r) (ho : (op = .xor ∧ r = a ^^^ b) ∨ (op = .or ∧ r = a ||| b) ∨ (op = .and ∧ r = a &&& b)) :
    (Op.intBits op k (a : Int) (b : Int)).run P w = .ok (.int k (r : Int)) w := by
  have e1 : BitVec.ofInt k.bits (a : Int) = BitVec.ofNat k.bits a := by simp
  have e2 : BitVec.ofInt k.bits (b : Int) = BitVec.ofNat k.bits b := by simp
  rcases ho with ⟨rfl, rfl⟩ | ⟨rfl, rfl⟩ | ⟨rfl, rfl⟩
  · simp only [Op.intBits, e1, e2, BitVec.toNat_xor, BitVec.toNat_ofNat, Nat.mod_eq_of_lt ha, Nat.mod_eq_of_lt hb, hr, Sem.run_pure]
  · simp only [Op.intBits, e1, e2, BitVec.toNat_or, BitVec.toNat_ofNat, Nat.mod_eq_of_lt ha, Nat.mod_eq_of_lt hb, hr, Sem.run_pure]
  · simp only [Op.intBits, e1, e2, BitVec.toNat_and, BitVec.toNat_ofNat, Nat.mod_eq_of_lt ha, Nat.mod_eq_of_lt hb, hr, Sem.run_pure]
theorem vr_xor_u32 {x y : Operand} {t t' : TypeId} {a b : Nat} (hx : ev f x = .int .u32 (a : Int)) (hy : ev f y = .int .u32 (b : Int)) (ha : a < 4294967296) (hb : b < 4294967296) :
    VR P f ⟨some d, .binOp .xor t x y t', ty, pos, af, g⟩ (.int .u32 ((a ^^^ b : Nat) : Int)) := fun w => run_binOp_int hx hy (by
      have h1 : a ^^^ b < 2 ^ 32 := Nat.xor_lt_two_pow ha hb
      have := run_intBits (P := P) (w := w) (op := .xor) (k := .u32) (r := a ^^^ b) ha hb (wrap_u32 (by omega) (by omega)) (.inl ⟨rfl, rfl⟩)
      simpa [binOp] using this)
theorem vr_or_i64 {x y : Operand} {t t' : TypeId} {a b : Nat} (hx : ev f x = .int .i64 (a : Int)) (hy : ev f y = .int .i64 (b : Int)) (ha : a < 9223372036854775808) (hb : b < 9223372036854775808) :
    VR P f ⟨some d, .binOp .or t x y t', ty, pos, af, g⟩ (.int .i64 ((a ||| b : Nat) : Int)) := fun w => run_binOp_int hx hy (by
      have h1 : a ||| b < 2 ^ 63 := Nat.or_lt_two_pow ha hb
      have := run_intBits (P := P) (w := w) (op := .or) (k := .i64) (r := a ||| b) (by simp [IntKind.bits]; omega) (by simp [IntKind.bits]; omega) (wrap_i64 ⟨by omega, by omega⟩) (.inr (.inl ⟨rfl, rfl⟩))
      simpa [binOp] using this)
theorem vr_and_i64 {x y : Operand} {t t' : TypeId} {a b : Nat} (hx : ev f x = .int .i64 (a : Int)) (hy : ev f y = .int .i64 (b : Int)) (ha : a < 9223372036854775808) (hb : b < 9223372036854775808) :
    VR P f ⟨some d, .binOp .and t x y t', ty, pos, af, g⟩ (.int .i64 ((a &&& b : Nat) : Int)) := fun w => run_binOp_int hx hy (by
      have h1 : a &&& b ≤ a := Nat.and_le_left
      have := run_intBits (P := P) (w := w) (op := .and) (k := .i64) (r := a &&& b) (by simp [IntKind.bits]; omega) (by simp [IntKind.bits]; omega) (wrap_i64 ⟨by omega, by omega⟩) (.inr (.inr ⟨rfl, rfl⟩))
      simpa [binOp] using this)
theorem vr_xor_u8 {x y : Operand} {t t' : TypeId} {a b : Nat} (hx : ev f x = .int .u8 (a : Int)) (hy : ev f y = .int .u8 (b : Int)) (ha : a < 256) (hb : b < 256) :
    VR P f ⟨some d, .binOp .xor t x y t', ty, pos, af, g⟩ (.int .u8 ((a ^^^ b : Nat) : Int)) := fun w => run_binOp_int hx hy (by
      have h1 : a ^^^ b < 2 ^ 8 := Nat.xor_lt_two_pow ha hb
      have := run_intBits (P := P) (w := w) (op := .xor) (k := .u8) (r := a ^^^ b) ha hb (by rw [wrap_u8_mod]; omega) (.inl ⟨rfl, rfl⟩)
      simpa [binOp] using this)
/-- '*' of two u32. -/
theorem vr_mul_u32 {x y : Operand} {t t' : TypeId} {a b : Nat} (hx : ev f x = .int .u32 (a : Int)) (hy : ev f y = .int .u32 (b : Int)) :
    VR P f ⟨some d, .binOp .mul t x y t', ty, pos, af, g⟩ (.int .u32 ((a * b % 4294967296 : Nat) : Int)) := by
  have := vr_mul (P := P) (d := d) (ty := ty) (pos := pos) (af := af) (g := g) (t := t) (t' := t') hx hy
  rwa [wrap_u32_mod] at this
/-- A number that its new kind holds. -/
theorem vr_conv_in {x : Operand} {s t : TypeId} {k k' : IntKind} {a : Int} {du : TypeDesc} (hs : P.underlying s = some du) (ht : P.underlying t = some (.int k')) (hx : ev f x = .int k a) (hr : k'.wrap a = a) :
    VR P f ⟨some d, .convert s t x, ty, pos, af, g⟩ (.int k' a) := by
  have := vr_conv_int (P := P) (d := d) (ty := ty) (pos := pos) (af := af) (g := g) hs ht hx
  rwa [hr] at this
/-- byte(n) -/
theorem vr_conv_byte {x : Operand} {s t : TypeId} {k : IntKind} {a : Nat} {du : TypeDesc} (hs : P.underlying s = some du) (ht : P.underlying t = some (.int .u8)) (hx : ev f x = .int k (a : Int)) :
    VR P f ⟨some d, .convert s t x, ty, pos, af, g⟩ (.int .u8 ((UInt8.ofNat a).toNat : Int)) := by
  have := vr_conv_int (P := P) (d := d) (ty := ty) (pos := pos) (af := af) (g := g) hs ht hx
  have e : IntKind.u8.wrap (a : Int) = ((UInt8.ofNat a).toNat : Int) := by rw [wrap_u8_mod, UInt8.toNat_ofNat']; omega
  rwa [e] at this
theorem vr_min2 {x y : Operand} {ats : Array TypeId} {k k' : IntKind} {a b : Int} (hx : ev f x = .int k a) (hy : ev f y = .int k' b) :
    VR P f ⟨some d, .call ⟨.builtin .min, #[x, y], ats⟩, ty, pos, af, g⟩ (.int k (if b < a then b else a)) := by
  intro w
  simp [execOp, resolve, invoke, builtin, Builtin.min_, Builtin.min2, hx, hy]
theorem vr_max2 {x y : Operand} {ats : Array TypeId} {k k' : IntKind} {a b : Int} (hx : ev f x = .int k a) (hy : ev f y = .int k' b) :
    VR P f ⟨some d, .call ⟨.builtin .max, #[x, y], ats⟩, ty, pos, af, g⟩ (.int k (if a < b then b else a)) := by
  intro w
  simp [execOp, resolve, invoke, builtin, Builtin.max_, Builtin.max2, hx, hy]
theorem vr_min3 {x y z : Operand} {ats : Array TypeId} {k k' k'' : IntKind} {a b c : Int} (hx : ev f x = .int k a) (hy : ev f y = .int k' b) (hz : ev f z = .int k'' c) :
    VR P f ⟨some d, .call ⟨.builtin .min, #[x, y, z], ats⟩, ty, pos, af, g⟩ (.int k (if c < (if b < a then b else a) then c else (if b < a then b else a))) := by
  intro w
  simp [execOp, resolve, invoke, builtin, Builtin.min_, Builtin.min2, hx, hy, hz]

/-! strings as lists -/
theorem vr_len_s {x : Operand} {t : TypeId} {l : List UInt8} (hu : P.underlying t = some .string) (hx : ev f x = str l) : VR P f ⟨some d, .call ⟨.builtin .len, #[x], #[t]⟩, ty, pos, af, g⟩ (.int .i64 (l.length : Int)) :=
  vr_len_str hu hx
theorem vr_index_s {x i : Operand} {t : TypeId} {l : List UInt8} {k : IntKind} {j : Int} {b : UInt8} (hu : P.underlying t = some .string) (hx : ev f x = str l) (hi : ev f i = .int k j) (hj : 0 ≤ j) (hb : l[j.toNat]? = some b) :
    VR P f ⟨some d, .index t x i, ty, pos, af, g⟩ (.int .u8 (b.toNat : Int)) := by
  have hl : j.toNat < (⟨l.toArray⟩ : ByteArray).size := lt_get hb
  have := vr_index_str (P := P) (d := d) (ty := ty) (pos := pos) (af := af) (g := g) hu hx hi hj hl
  have e : (⟨l.toArray⟩ : ByteArray)[j.toNat]'hl = b := by
    rw [List.getElem?_eq_getElem (lt_get hb)] at hb
    exact Option.some.inj hb
  rwa [e] at this
theorem extract_s (l : List UInt8) (a b : Nat) : (⟨l.toArray⟩ : ByteArray).extract a b = ⟨((l.take b).drop a).toArray⟩ := by
  apply ByteArray.ext
  apply Array.ext'
  rw [ByteArray.data_extract, Array.toList_extract, List.extract_eq_take_drop, List.drop_take]
theorem vr_slice_to {T : TypeId} {x o : Operand} {l : List UInt8} {h : Nat} {k : IntKind} (hu : P.underlying T = some .string) (hx : ev f x = str l) (ho : ev f o = .int k (h : Int)) (hh : h ≤ l.length) :
    VR P f ⟨some d, .slice T x none (some o) none, ty, pos, af, g⟩ (str (l.take h)) := by
  have := vr_slice_str (P := P) (d := d) (ty := ty) (pos := pos) (af := af) (g := g) (lo := none) (hi := some o) (l := 0) (h' := h) hu hx rfl ⟨k, ho⟩ (Nat.zero_le _) hh
  rwa [extract_s] at this
theorem vr_slice_from {T : TypeId} {x o : Operand} {l : List UInt8} {h : Nat} {k : IntKind} (hu : P.underlying T = some .string) (hx : ev f x = str l) (ho : ev f o = .int k (h : Int)) (hh : h ≤ l.length) :
    VR P f ⟨some d, .slice T x (some o) none none, ty, pos, af, g⟩ (str (l.drop h)) := by
  have := vr_slice_str (P := P) (d := d) (ty := ty) (pos := pos) (af := af) (g := g) (lo := some o) (hi := none) (l := h) (h' := l.length) hu hx ⟨k, ho⟩ rfl hh (Nat.le_refl _)
  rwa [extract_s, List.take_length] at this
theorem vr_slice_mid {T : TypeId} {x o o' : Operand} {l : List UInt8} {a h : Nat} {k k' : IntKind} (hu : P.underlying T = some .string) (hx : ev f x = str l) (ho : ev f o = .int k (a : Int)) (ho' : ev f o' = .int k' (h : Int)) (ha : a ≤ h) (hh : h ≤ l.length) :
    VR P f ⟨some d, .slice T x (some o) (some o') none, ty, pos, af, g⟩ (str ((l.take h).drop a)) := by
  have := vr_slice_str (P := P) (d := d) (ty := ty) (pos := pos) (af := af) (g := g) (lo := some o) (hi := some o') (l := a) (h' := h) hu hx ⟨k, ho⟩ ⟨k', ho'⟩ ha hh
  rwa [extract_s] at this
theorem vr_cat_s {x y : Operand} {t t' : TypeId} {a b : List UInt8} (hx : ev f x = str a) (hy : ev f y = str b) (hl : a.length + b.length ≤ 9223372036854775807) :
    VR P f ⟨some d, .binOp .add t x y t', ty, pos, af, g⟩ (str (a ++ b)) := by
  have := vr_cat (P := P) (d := d) (ty := ty) (pos := pos) (af := af) (g := g) (t := t) (t' := t') hx hy hl
  have e : (⟨a.toArray⟩ : ByteArray) ++ (⟨b.toArray⟩ : ByteArray) = ⟨(a ++ b).toArray⟩ := by
    apply ByteArray.ext; apply Array.ext'; simp [ByteArray.data_append]
  rwa [e] at this
theorem toList_s (a : List UInt8) : (⟨a.toArray⟩ : ByteArray).toList = a := by rw [ByteArray.toList_eq]
theorem vr_eql_s {x y : Operand} {t t' : TypeId} {a b : List UInt8} (hx : ev f x = str a) (hy : ev f y = str b) : VR P f ⟨some d, .binOp .eql t x y t', ty, pos, af, g⟩ (.bool (decide (a = b))) := by
  have := vr_eqls (P := P) (d := d) (ty := ty) (pos := pos) (af := af) (g := g) (t := t) (t' := t') hx hy
  rw [toList_s, toList_s] at this
  have e : (a == b) = decide (a = b) := by by_cases h : a = b <;> simp [h]
  rwa [e] at this
theorem vr_neq_s {x y : Operand} {t t' : TypeId} {a b : List UInt8} (hx : ev f x = str a) (hy : ev f y = str b) : VR P f ⟨some d, .binOp .neq t x y t', ty, pos, af, g⟩ (.bool (decide (a ≠ b))) := by
  have := vr_neqs (P := P) (d := d) (ty := ty) (pos := pos) (af := af) (g := g) (t := t) (t' := t') hx hy
  rw [toList_s, toList_s] at this
  have e : (!(a == b)) = decide (a ≠ b) := by by_cases h : a = b <;> simp [h]
  rwa [e] at this
theorem flatMap_encB : ∀ xs : List UInt8, xs.flatMap encB = (xs.map fun b => ((b.toNat : Nat) : Int)).map (Value.int .u8)
  | [] => rfl
  | b :: bs => by rw [List.flatMap_cons, flatMap_encB bs]; rfl
/-- string(bytes) -/
theorem lr_bytes_str {src dst e : TypeId} {x : Operand} {v : Value} {xs : List UInt8} {Δ : Chunk} (hs : P.underlying src = some (.slice e)) (he : P.underlying e = some (.int .u8)) (hd : P.underlying dst = some .string)
    (hx : ev f x = v) (hv : View 1 encB v xs Δ) (hm : Δ ∈ Γ) : LR P (Sat E Γ) f ⟨some d, .convert src dst x, ty, pos, af, g⟩ (str xs) := by
  intro w hS
  obtain ⟨a, cap, rfl⟩ := hv.len
  have hconv : (convert src dst (.slice a xs.length cap)).run P w = .ok (str xs) w := by
    rw [run_convert_bytes_string w src dst e _ _ cap hs he hd]
    cases a with
    | none =>
      obtain ⟨_, _, hh, _, h3, _⟩ := hv
      cases hh
      obtain rfl := h3 rfl
      simp [Conv.bytesToString, ByteArray.empty, ByteArray.emptyWithCapacity, str] <;> rfl
    | some ad =>
      have hc := View.cell (m := 1) (enc := encB) (fun _ => rfl) hv hS hm rfl
      have hfl := flatMap_encB xs
      have hl := run_loadCells_list (P := P) w ad (xs.flatMap encB) hc
      rw [flatMap_len (m := 1) (fun _ => rfl), Nat.mul_one, hfl] at hl
      rw [run_bytesToString w ad xs.length cap _ hl, foldl_push_bytes]
      congr 2
      apply ByteArray.ext
      simp [ByteArray.empty, ByteArray.emptyWithCapacity, List.map_map, Function.comp_def]
      rfl
  simp only [execOp, hx, Sem.run_bind, hconv, Result.andThen_ok, Sem.run_pure]
/-- 'x >> s', 'x << s', 'x / n' of Nats. -/
theorem vr_shr_n {x y : Operand} {t t' : TypeId} {a s : Nat} {k' : IntKind} (hx : ev f x = .int .i64 (a : Int)) (hy : ev f y = .int k' (s : Int)) (hs : s < 64) :
    VR P f ⟨some d, .binOp .shr t x y t', ty, pos, af, g⟩ (.int .i64 ((a / 2 ^ s : Nat) : Int)) := by
  have := vr_shr (P := P) (d := d) (ty := ty) (pos := pos) (af := af) (g := g) (t := t) (t' := t') hx hy ⟨by omega, by omega⟩
  rw [Int.toNat_natCast] at this
  rwa [Int.natCast_ediv, Int.natCast_pow]
theorem vr_shl_n {x y : Operand} {t t' : TypeId} {a s : Nat} {k' : IntKind} (hx : ev f x = .int .i64 (a : Int)) (hy : ev f y = .int k' (s : Int)) (hs : s < 64) (hr : a * 2 ^ s < 9223372036854775808) :
    VR P f ⟨some d, .binOp .shl t x y t', ty, pos, af, g⟩ (.int .i64 ((a * 2 ^ s : Nat) : Int)) := by
  have := vr_shl (P := P) (d := d) (ty := ty) (pos := pos) (af := af) (g := g) (t := t) (t' := t') hx hy ⟨by omega, by omega⟩
  have e : (a : Int) * 2 ^ s = ((a * 2 ^ s : Nat) : Int) := by rw [Int.natCast_mul, Int.natCast_pow]; rfl
  rw [Int.toNat_natCast, e] at this
  generalize a * 2 ^ s = m at *
  rwa [wrap_i64 (by unfold inI64; omega)] at this
theorem vr_quo_n {x y : Operand} {t t' : TypeId} {a b : Nat} (hx : ev f x = .int .i64 (a : Int)) (hy : ev f y = .int .i64 (b : Int)) (ha : a < 9223372036854775808) (hb : 1 ≤ b) :
    VR P f ⟨some d, .binOp .quo t x y t', ty, pos, af, g⟩ (.int .i64 ((a / b : Nat) : Int)) := by
  have := vr_quo (P := P) (d := d) (ty := ty) (pos := pos) (af := af) (g := g) (t := t) (t' := t') hx hy ⟨by omega, by omega⟩ (by omega)
  rwa [Int.natCast_ediv]
/-- make([]T, n) is the call's own. -/
theorem Own.zeros {α : Type} {T : TypeId} {enc : α → List Value} {b n : Nat} {x : α} {z : Value} (he : enc x = [z]) (hn : n ≤ maxLen) :
    Own T 1 enc (.slice (some ⟨b, 0, none⟩) n n) (List.replicate n x) [(b, .cells (List.replicate n z).toArray T (0, 0))] := by
  have h : (List.replicate n x).flatMap enc = List.replicate n z := by
    induction n with
    | zero => rfl
    | succ n ih => rw [List.replicate_succ, List.replicate_succ, List.flatMap_cons, he, ih (by omega)]; rfl
  exact .inr ⟨b, n, [], by rw [List.length_replicate], by rw [h, List.append_nil], by simp, hn, by rw [h]; simp⟩
/-- The same value, told otherwise. -/
theorem vr_as {o : Oper} {v v' : Value} (h : VR P f o v) (e : v = v') : VR P f o v' := e ▸ h
/-- 'x & y' of any two. -/
def andI (a b : Int) : Int := IntKind.i64.wrap (((BitVec.ofInt 64 a &&& BitVec.ofInt 64 b).toNat : Nat) : Int)
theorem andI_nat {a b : Nat} (ha : a < 9223372036854775808) (hb : b < 9223372036854775808) : andI (a : Int) (b : Int) = ((a &&& b : Nat) : Int) := by
  have h1 : a &&& b ≤ a := Nat.and_le_left
  have e1 : BitVec.ofInt 64 (a : Int) = BitVec.ofNat 64 a := by simp
  have e2 : BitVec.ofInt 64 (b : Int) = BitVec.ofNat 64 b := by simp
  rw [andI, e1, e2, BitVec.toNat_and, BitVec.toNat_ofNat, BitVec.toNat_ofNat, Nat.mod_eq_of_lt (by omega), Nat.mod_eq_of_lt (by omega)]
  exact wrap_i64 ⟨by omega, by omega⟩
theorem and_one {a : Int} (h0 : 0 ≤ a) (h1 : a < 9223372036854775808) : andI a 1 = a % 2 := by
  obtain ⟨n, rfl⟩ : ∃ n : Nat, a = (n : Int) := ⟨a.toNat, by omega⟩
  rw [show (1 : Int) = ((1 : Nat) : Int) from rfl, andI_nat (by omega) (by omega), Nat.and_one_is_mod]; omega
theorem vr_and_any {x y : Operand} {t t' : TypeId} {a b : Int} (hx : ev f x = .int .i64 a) (hy : ev f y = .int .i64 b) :
    VR P f ⟨some d, .binOp .and t x y t', ty, pos, af, g⟩ (.int .i64 (andI a b)) := fun w => run_binOp_int hx hy (by
      simp only [binOp, Op.intBits, Sem.run_pure]; rfl)
end
end Go.Proofs.YtjcagoighpmdkaaGreatDoor
