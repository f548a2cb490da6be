/- Parts of the proof (joined by program). -/
import Derived.Test.YtlonbhkjjoognaaGreatDoorMC2
import Derived.Laws.BytesString
import Derived.Laws.Strings
import Derived.Below
import Derived.Test.YtlonbhkjjoognaaGreatDoorProg
import Derived.Shelf.Lays2
import Derived.Shelf.Small.Wraps
import Derived.Shelf.Utf8.AppendRune
import Derived.Shelf.Utf8.AppendRunePlain
import Derived.Shelf.Unicode.Decode
import Derived.Shelf.Unicode.DecodeSlow
import Derived.Shelf.Unicode.DecodeAny
import Derived.Shelf.Slices.Reverse
import Derived.Ground.Names2Prog
import Derived.Shelf.Slices.Clone
import Derived.Shelf.Slices.SearchI
import Derived.Shelf.Slices.Delete
import Derived.Shelf.Slices.Cells
import Derived.Shelf.Slices.Empties
import Derived.Ground.SlgnProg
import Derived.Shelf.SlicesE.Clone
import Derived.Lib.DecodeN
import Derived.MapKept
/- Texts; bits of numbers; conversions of numbers to others. -/
set_option linter.unusedVariables false
set_option linter.unusedSimpArgs false
namespace Go.SL
open Go.RowKit
/-- A text, as the list of its bytes. -/
def sv (l : List UInt8) : Value := .string ⟨l.toArray⟩
theorem sv_size (l : List UInt8) : (⟨l.toArray⟩ : ByteArray).size = l.length := by simp [ByteArray.size]
theorem beq_dec (l m : List UInt8) : (l == m) = decide (l = m) := by rw [Bool.eq_iff_iff]; simp
theorem sv_get (l : List UInt8) (i : Nat) (h : i < (⟨l.toArray⟩ : ByteArray).size) : (⟨l.toArray⟩ : ByteArray)[i] = l.getD i 0 := by
  have h' : i < l.length := by rwa [sv_size] at h
  rw [List.getD_eq_getElem?_getD, List.getElem?_eq_getElem h']
  rfl
theorem sv_extract (l : List UInt8) (lo hi : Nat) : (⟨l.toArray⟩ : ByteArray).extract lo hi = ⟨((l.take hi).drop lo).toArray⟩ := by
  apply ByteArray.ext
  simp [List.extract_eq_take_drop, List.drop_take]
section
variable {P : Program} {x : Cx} {E : List (Nat × Value)} {L L' : List HP} {ty t t' e : TypeId} {y z c : Operand} {v u : Value}
theorem PS.lenV {l : List UInt8} [hSl : StrT P t] (hv : ev E y = some (sv l) := by rfl) : PS P x E L (.call ⟨.builtin .len, #[y], #[t]⟩) ty (.int .i64 (l.length : Int)) := by
  have h := PS.lenS (P := P) (x := x) (E := E) (L := L) (ty := ty) (t := t) (y := y) (s := ⟨l.toArray⟩) hv
  rwa [sv_size] at h
theorem PS.indexVZ {l : List UInt8} {k : IntKind} {i : Int} [hSl : StrT P t] (hv : ev E y = some (sv l) := by rfl) (hz : ev E z = some (.int k i) := by rfl) (h0 : 0 ≤ i := by omega) (h1 : autoParam (i < l.length) ABD.h._autoParam) : PS P x E L (.index t y z) ty (.int .u8 ((l.getD i.toNat 0).toNat : Int)) := ⟨fun a w _ _ _ _ hE _ => by
  have hs : 0 ≤ i ∧ i < ((⟨l.toArray⟩ : ByteArray).size : Int) := by rw [sv_size]; omega
  have h := run_index_string (P := P) w t ⟨l.toArray⟩ k i hSl.h
  rw [dif_pos hs, sv_get] at h
  simp only [execOp, hE.ev hv, hE.ev hz, sv]
  simp [h]⟩
theorem PS.indexV {l : List UInt8} {i : Nat} [hSl : StrT P t] (hv : ev E y = some (sv l) := by rfl) (hz : ev E z = some (.int .i64 (i : Int)) := by rfl) (h1 : autoParam (i < l.length) ABD.h._autoParam) : PS P x E L (.index t y z) ty (.int .u8 ((l.getD i 0).toNat : Int)) := by
  have h := PS.indexVZ (P := P) (x := x) (E := E) (L := L) (ty := ty) (t := t) (y := y) (z := z) hv hz (by omega) (by omega)
  rwa [Int.toNat_natCast] at h
theorem PS.sliceVL {l : List UInt8} {lo : Int} [hSl : StrT P t] (hv : ev E y = some (sv l) := by rfl) (hz : ev E z = some (.int .i64 lo) := by rfl) (h0 : 0 ≤ lo := by omega) (h1 : autoParam (lo ≤ l.length) ABD.h._autoParam) : PS P x E L (.slice t y (some z) none none) ty (sv (l.drop lo.toNat)) := ⟨fun a w _ _ _ _ hE _ => by
  have e := sv_extract l lo.toNat l.length
  rw [List.take_length] at e
  simp only [execOp, Option.map, hE.ev hv, hE.ev hz, sv]
  simp [Instr.sliceAt, Instr.slice, Instr.sliceBounds, Instr.sliceBound, asIntOf, run_underlying hSl.h, sv_size, h0, h1, e]⟩
theorem PS.sliceVH {l : List UInt8} {hi : Int} [hSl : StrT P t] (hv : ev E y = some (sv l) := by rfl) (hz : ev E z = some (.int .i64 hi) := by rfl) (h0 : 0 ≤ hi := by omega) (h1 : autoParam (hi ≤ l.length) ABD.h._autoParam) : PS P x E L (.slice t y none (some z) none) ty (sv (l.take hi.toNat)) := ⟨fun a w _ _ _ _ hE _ => by
  have e := sv_extract l 0 hi.toNat
  rw [List.drop_zero] at e
  simp only [execOp, Option.map, hE.ev hv, hE.ev hz, sv]
  simp [Instr.sliceAt, Instr.slice, Instr.sliceBounds, Instr.sliceBound, asIntOf, run_underlying hSl.h, sv_size, h0, h1, e]⟩
theorem PS.sliceVLH {l : List UInt8} {lo hi : Int} [hSl : StrT P t] (hv : ev E y = some (sv l) := by rfl) (hz : ev E z = some (.int .i64 lo) := by rfl) (hc : ev E c = some (.int .i64 hi) := by rfl) (h0 : 0 ≤ lo := by omega) (h1 : lo ≤ hi := by omega) (h2 : autoParam (hi ≤ l.length) ABD.h._autoParam) :
    PS P x E L (.slice t y (some z) (some c) none) ty (sv ((l.take hi.toNat).drop lo.toNat)) := ⟨fun a w _ _ _ _ hE _ => by
  have e := sv_extract l lo.toNat hi.toNat
  have h3 : lo ≤ (hi.toNat : Int) := by omega
  have h4 : 0 ≤ hi := by omega
  simp only [execOp, Option.map, hE.ev hv, hE.ev hz, hE.ev hc, sv]
  simp [Instr.sliceAt, Instr.slice, Instr.sliceBounds, Instr.sliceBound, asIntOf, run_underlying hSl.h, sv_size, h0, h2, h3, h4, e]
  intro hh
  omega⟩
theorem PS.addV {l m : List UInt8} (hv : ev E y = some (sv l) := by rfl) (hz : ev E z = some (sv m) := by rfl) (hb : autoParam (l.length + m.length ≤ 9223372036854775807) ABD.h._autoParam) : PS P x E L (.binOp .add t y z t') ty (sv (l ++ m)) := ⟨fun a w _ _ _ _ hE _ => by
  have e : (⟨l.toArray⟩ : ByteArray) ++ ⟨m.toArray⟩ = ⟨(l ++ m).toArray⟩ := by
    apply ByteArray.ext
    simp
  have h0 : ¬ ((((⟨l.toArray⟩ : ByteArray).size + (⟨m.toArray⟩ : ByteArray).size : Nat) : Int) > IntKind.i64.max) := by
    rw [sv_size, sv_size]
    show ¬ ((l.length + m.length : Nat) : Int) > 9223372036854775807
    omega
  simp only [execOp, hE.ev hv, hE.ev hz, sv]
  simp only [eqGuard, binOp, Op.stringOp]
  simp [h0, e]
  rw [sv_size, sv_size]
  omega⟩
theorem PS.eqV {l m : List UInt8} (hv : ev E y = some (sv l) := by rfl) (hz : ev E z = some (sv m) := by rfl) : PS P x E L (.binOp .eql t y z t') ty (.bool (decide (l = m))) := ⟨fun a w _ _ _ _ hE _ => by
  simp only [execOp, hE.ev hv, hE.ev hz, sv]
  simp [eqGuard, binOp, Op.stringOp, beq_dec]⟩
theorem PS.neV {l m : List UInt8} (hv : ev E y = some (sv l) := by rfl) (hz : ev E z = some (sv m) := by rfl) : PS P x E L (.binOp .neq t y z t') ty (.bool (!decide (l = m))) := ⟨fun a w _ _ _ _ hE _ => by
  simp only [execOp, hE.ev hv, hE.ev hz, sv]
  simp [eqGuard, binOp, Op.stringOp, beq_dec]⟩
/-! ### bits -/
def maxK : IntKind → Int
  | .i8 => 127
  | .i16 => 32767
  | .i32 => 2147483647
  | .i64 => 9223372036854775807
  | .u8 => 255
  | .u16 => 65535
  | .u32 => 4294967295
  | .u64 => 18446744073709551615
theorem maxK_u8 : maxK .u8 = 255 := rfl
theorem maxK_i64 : maxK .i64 = 9223372036854775807 := rfl
theorem maxK_i32 : maxK .i32 = 2147483647 := rfl
theorem maxK_u32 : maxK .u32 = 4294967295 := rfl
theorem maxK_u64 : maxK .u64 = 18446744073709551615 := rfl
theorem maxK_u16 : maxK .u16 = 65535 := rfl
theorem bit_in {k : IntKind} {n m : Int} (hm : maxK k = m) (h : 0 ≤ n ∧ n ≤ m) : (BitVec.ofInt k.bits n).toNat = n.toNat := by
  have hb : n < ((2 ^ k.bits : Nat) : Int) := by
    subst hm
    cases k <;> simp only [maxK] at h <;> simp only [IntKind.bits] <;> omega
  rw [BitVec.toNat_ofInt, Int.emod_eq_of_lt h.1 hb]
theorem wrap_in {k : IntKind} {n m : Int} (hm : maxK k = m) (h : 0 ≤ n ∧ n ≤ m) : k.wrap n = n := by
  subst hm
  cases k <;> simp only [maxK] at h <;> simp [IntKind.wrap, IntKind.bits, IntKind.signed] <;> omega
/-- 2 ^ n, of such n as come. -/
def powOf (n : Int) : Option (Nat × Int) :=
  match n.toNat with
  | 3 => some (3, 8)
  | 1 => some (1, 2)
  | 4 => some (4, 16)
  | 5 => some (5, 32)
  | 6 => some (6, 64)
  | 12 => some (12, 4096)
  | 18 => some (18, 262144)
  | _ => none
def maskOf (n : Int) : Option (Nat × Int) :=
  match n.toNat with
  | 7 => some (3, 8)
  | 15 => some (4, 16)
  | 31 => some (5, 32)
  | 63 => some (6, 64)
  | _ => none
theorem powOf_eq {n c : Int} {p : Nat} (h : powOf n = some (p, c)) : n.toNat = p ∧ c = 2 ^ p ∧ p ≤ 18 := by
  unfold powOf at h
  split at h <;> first
    | (injection h with h; injection h with h1 h2; subst h1 h2; refine ⟨by assumption, by decide, by decide⟩)
    | cases h
theorem maskOf_eq {n c : Int} {p : Nat} (h : maskOf n = some (p, c)) : n.toNat = 2 ^ p - 1 ∧ c = 2 ^ p ∧ p ≤ 18 := by
  unfold maskOf at h
  split at h <;> first
    | (injection h with h; injection h with h1 h2; subst h1 h2; refine ⟨by assumption, by decide, by decide⟩)
    | cases h
theorem bits_big (k : IntKind) (h : k ≠ .u8) (h' : k ≠ .i8) (h2 : k ≠ .u16) (h3 : k ≠ .i16) : 31 ≤ k.bits := by cases k <;> simp_all [IntKind.bits]
theorem PS.andM {k : IntKind} {i j m cc : Int} {p : Nat} (hy : ev E y = some (.int k i) := by rfl) (hz : ev E z = some (.int k j) := by rfl) (hm : maxK k = m := by first | exact maxK_u8 | exact maxK_i64 | exact maxK_i32 | exact maxK_u32 | exact maxK_u64 | exact maxK_u16 | fail) (hj : maskOf j = some (p, cc) := by rfl) (hi : 0 ≤ i ∧ i ≤ m := by omega) (hjj : 0 ≤ j ∧ j ≤ m := by omega) :
    PS P x E L (.binOp .and t y z t') ty (.int k (i % cc)) := ⟨fun a w _ _ _ _ hE _ => by
  obtain ⟨e1, e2, _⟩ := maskOf_eq hj
  have h1 : (BitVec.ofInt k.bits i &&& BitVec.ofInt k.bits j).toNat = (i % cc).toNat := by
    rw [BitVec.toNat_and, bit_in hm hi, bit_in hm hjj, e1, Nat.and_two_pow_sub_one_eq_mod]
    have : (i % cc).toNat = i.toNat % cc.toNat := by
      rw [Int.toNat_emod hi.1 (by rw [e2]; exact Int.le_of_lt (Int.pow_pos (by decide)))]
    rw [this, e2]
    congr 1
  have hc : 0 < cc := by rw [e2]; exact Int.pow_pos (by decide)
  have h0 : 0 ≤ i % cc := Int.emod_nonneg _ (by omega)
  have h2 : i % cc ≤ i := by
    rcases Int.lt_or_le i cc with h | h
    · rw [Int.emod_eq_of_lt hi.1 h]; exact Int.le_refl _
    · have := Int.emod_lt_of_pos i hc; omega
  have h3 : k.wrap (max (i % cc) 0) = i % cc := by
    rw [Int.max_eq_left h0]
    exact wrap_in hm ⟨h0, by omega⟩
  simp only [execOp, hE.ev hy, hE.ev hz]
  simp [eqGuard, binOp, Op.intBits, h1, h3]⟩
theorem PS.orP {k : IntKind} {i j m : Int} {p : Nat} (hy : ev E y = some (.int k i)) (hz : ev E z = some (.int k j)) (hm : maxK k = m) (hi : 0 ≤ i ∧ i % (2 ^ p) = 0) (hj : 0 ≤ j ∧ j < 2 ^ p) (hs : i + j ≤ m) :
    PS P x E L (.binOp .or t y z t') ty (.int k (i + j)) := ⟨fun a w _ _ _ _ hE _ => by
  have h1 : (BitVec.ofInt k.bits i ||| BitVec.ofInt k.bits j).toNat = (i + j).toNat := by
    rw [BitVec.toNat_or, bit_in hm ⟨hi.1, by omega⟩, bit_in hm ⟨hj.1, by omega⟩]
    have e : i.toNat = 2 ^ p * (i.toNat / 2 ^ p) := by
      have h4 : i.toNat % 2 ^ p = 0 := by
        have : ((i.toNat % 2 ^ p : Nat) : Int) = 0 := by
          rw [Int.natCast_emod, Int.toNat_of_nonneg hi.1]
          simpa using hi.2
        omega
      have := Nat.div_add_mod i.toNat (2 ^ p)
      omega
    have hjl : j.toNat < 2 ^ p := by
      have : ((j.toNat : Nat) : Int) < ((2 ^ p : Nat) : Int) := by rw [Int.toNat_of_nonneg hj.1]; simpa using hj.2
      omega
    rw [e, ← Nat.two_pow_add_eq_or_of_lt hjl, ← e]
    omega
  have h3 : k.wrap (max (i + j) 0) = i + j := by
    rw [Int.max_eq_left (by omega)]
    exact wrap_in hm ⟨by omega, hs⟩
  simp only [execOp, hE.ev hy, hE.ev hz]
  simp [eqGuard, binOp, Op.intBits, h1, h3]⟩
theorem PS.or4 {k : IntKind} {i j m : Int} (hy : ev E y = some (.int k i) := by rfl) (hz : ev E z = some (.int k j) := by rfl) (hm : maxK k = m := by first | exact maxK_u8 | exact maxK_i64 | exact maxK_i32 | exact maxK_u32 | exact maxK_u64 | exact maxK_u16 | fail) (hi : 0 ≤ i ∧ i % 16 = 0 := by omega) (hj : 0 ≤ j ∧ j < 16 := by omega) (hs : i + j ≤ m := by omega) : PS P x E L (.binOp .or t y z t') ty (.int k (i + j)) :=
  PS.orP (p := 4) hy hz hm hi hj hs
theorem PS.or5 {k : IntKind} {i j m : Int} (hy : ev E y = some (.int k i) := by rfl) (hz : ev E z = some (.int k j) := by rfl) (hm : maxK k = m := by first | exact maxK_u8 | exact maxK_i64 | exact maxK_i32 | exact maxK_u32 | exact maxK_u64 | exact maxK_u16 | fail) (hi : 0 ≤ i ∧ i % 32 = 0 := by omega) (hj : 0 ≤ j ∧ j < 32 := by omega) (hs : i + j ≤ m := by omega) : PS P x E L (.binOp .or t y z t') ty (.int k (i + j)) :=
  PS.orP (p := 5) hy hz hm hi hj hs
theorem PS.or6 {k : IntKind} {i j m : Int} (hy : ev E y = some (.int k i) := by rfl) (hz : ev E z = some (.int k j) := by rfl) (hm : maxK k = m := by first | exact maxK_u8 | exact maxK_i64 | exact maxK_i32 | exact maxK_u32 | exact maxK_u64 | exact maxK_u16 | fail) (hi : 0 ≤ i ∧ i % 64 = 0 := by omega) (hj : 0 ≤ j ∧ j < 64 := by omega) (hs : i + j ≤ m := by omega) : PS P x E L (.binOp .or t y z t') ty (.int k (i + j)) :=
  PS.orP (p := 6) hy hz hm hi hj hs
theorem PS.or12 {k : IntKind} {i j m : Int} (hy : ev E y = some (.int k i) := by rfl) (hz : ev E z = some (.int k j) := by rfl) (hm : maxK k = m := by first | exact maxK_u8 | exact maxK_i64 | exact maxK_i32 | exact maxK_u32 | exact maxK_u64 | exact maxK_u16 | fail) (hi : 0 ≤ i ∧ i % 4096 = 0 := by omega) (hj : 0 ≤ j ∧ j < 4096 := by omega) (hs : i + j ≤ m := by omega) : PS P x E L (.binOp .or t y z t') ty (.int k (i + j)) :=
  PS.orP (p := 12) hy hz hm hi hj hs
theorem PS.or18 {k : IntKind} {i j m : Int} (hy : ev E y = some (.int k i) := by rfl) (hz : ev E z = some (.int k j) := by rfl) (hm : maxK k = m := by first | exact maxK_u8 | exact maxK_i64 | exact maxK_i32 | exact maxK_u32 | exact maxK_u64 | exact maxK_u16 | fail) (hi : 0 ≤ i ∧ i % 262144 = 0 := by omega) (hj : 0 ≤ j ∧ j < 262144 := by omega) (hs : i + j ≤ m := by omega) : PS P x E L (.binOp .or t y z t') ty (.int k (i + j)) :=
  PS.orP (p := 18) hy hz hm hi hj hs
theorem pow_bits {k : IntKind} {m c : Int} {p : Nat} (hm : maxK k = m) (hc : c = 2 ^ p) (h : c ≤ m) (hp : p ≤ 18) : p ≤ k.bits := by
  subst hm
  cases k <;> simp only [IntKind.bits] <;> try omega
  all_goals
    simp only [maxK] at h
    rcases Nat.lt_or_ge p 8 with h8 | h8
    · omega
    · have h9 : (2 : Int) ^ 8 ≤ 2 ^ p := by
        have := Nat.pow_le_pow_right (n := 2) (by decide) h8
        exact_mod_cast this
      rcases Nat.lt_or_ge p 16 with h16 | h16
      · omega
      · have h17 : (2 : Int) ^ 16 ≤ 2 ^ p := by
          have := Nat.pow_le_pow_right (n := 2) (by decide) h16
          exact_mod_cast this
        omega
theorem PS.shlM {k yk : IntKind} {i n m cc : Int} {p : Nat} (hy : ev E y = some (.int k i) := by rfl) (hz : ev E z = some (.int yk n) := by rfl) (hm : maxK k = m := by first | exact maxK_u8 | exact maxK_i64 | exact maxK_i32 | exact maxK_u32 | exact maxK_u64 | exact maxK_u16 | fail) (hp : powOf n = some (p, cc) := by rfl) (hn : 0 ≤ n := by omega) (hi : 0 ≤ i ∧ i * cc ≤ m := by omega) (hcm : cc ≤ m := by omega) :
    PS P x E L (.binOp .shl t y z t') ty (.int k (i * cc)) := ⟨fun a w _ _ _ _ hE _ => by
  obtain ⟨e1, e2, e3⟩ := powOf_eq hp
  have hb := pow_bits hm e2 hcm e3
  have h1 : min n.toNat k.bits = p := by omega
  have h0 : 0 ≤ i * cc := Int.mul_nonneg hi.1 (by rw [e2]; exact Int.le_of_lt (Int.pow_pos (by decide)))
  have h3 : k.wrap (i * 2 ^ p) = i * cc := by
    rw [← e2]
    exact wrap_in hm ⟨h0, hi.2⟩
  have h4 : ¬ n < 0 := by omega
  simp only [execOp, hE.ev hy, hE.ev hz]
  simp [eqGuard, binOp, Op.shift, h1, h3, h4]⟩
theorem PS.shrM {k yk : IntKind} {i n m cc : Int} {p : Nat} (hy : ev E y = some (.int k i) := by rfl) (hz : ev E z = some (.int yk n) := by rfl) (hm : maxK k = m := by first | exact maxK_u8 | exact maxK_i64 | exact maxK_i32 | exact maxK_u32 | exact maxK_u64 | exact maxK_u16 | fail) (hp : powOf n = some (p, cc) := by rfl) (hn : 0 ≤ n := by omega) (hi : 0 ≤ i := by omega) (hcm : cc ≤ m := by omega) :
    PS P x E L (.binOp .shr t y z t') ty (.int k (i / cc)) := ⟨fun a w _ _ _ _ hE _ => by
  obtain ⟨e1, e2, e3⟩ := powOf_eq hp
  have hb := pow_bits hm e2 hcm e3
  have h1 : min n.toNat k.bits = p := by omega
  have h3 : i.fdiv (2 ^ p) = i / cc := by
    rw [← e2]
    exact Int.fdiv_eq_ediv_of_nonneg _ (by rw [e2]; exact Int.le_of_lt (Int.pow_pos (by decide)))
  have h4 : ¬ n < 0 := by omega
  simp only [execOp, hE.ev hy, hE.ev hz]
  simp [eqGuard, binOp, Op.shift, h1, h3, h4]⟩
/-- A conversion that changes nothing. -/
theorem PS.convF {kd k1 k2 : IntKind} {n m : Int} [h1 : IntT P t k1] [h2 : IntT P t' k2] (hy : ev E y = some (.int kd n) := by rfl) (hm : maxK k2 = m := by first | exact maxK_u8 | exact maxK_i64 | exact maxK_i32 | exact maxK_u32 | exact maxK_u64 | exact maxK_u16 | fail) (hb : 0 ≤ n ∧ n ≤ m := by omega) : PS P x E L (.convert t t' y) ty (.int k2 n) := by
  have h := PS.convW (P := P) (x := x) (E := E) (L := L) (t := t) (t' := t') (ty := ty) hy
  rwa [wrap_in hm hb] at h
theorem PS.convU8 {kd k1 : IntKind} {n : Int} [h1 : IntT P t k1] [h2 : IntT P t' .u8] (hy : ev E y = some (.int kd n) := by rfl) : PS P x E L (.convert t t' y) ty (.int .u8 (n % 256)) := by
  have h := PS.convW (P := P) (x := x) (E := E) (L := L) (t := t) (t' := t') (ty := ty) hy
  have e : IntKind.u8.wrap n = n % 256 := by simp [IntKind.wrap, IntKind.bits, IntKind.signed]
  rwa [e] at h
end
end Go.SL

/- From contracts of the library's to contracts here. -/
set_option linter.unusedVariables false
set_option linter.unusedSimpArgs false
namespace Go.SL
open Go.RowKit
/-- A call that leaves all that was there. -/
theorem Spec.ofBelow {P : Program} {f : FuncId} {args : List Value} {Rs : List (World → Prop)} {u : Value} (h : ∀ w, (∀ R ∈ Rs, R w) → Calls P f args.toArray w fun e w' => e = .returned u ∧ Below w.heap.size w w') :
    Spec P f args Rs [] (fun _ : Unit => u) (fun _ => []) (fun _ => True) := by
  intro w0 O hR hS
  refine (h w0 fun R hm => (hR R hm).h w0 hS).mono ?_
  rintro e w' ⟨rfl, hb⟩
  exact ⟨(), trivial, rfl, ⟨hb.os, hb.tape, hb.output, hb.size, fun k hk _ => hb.block k hk⟩, fun _ => none, (fun _ _ h => by cases h), (fun _ _ h => by cases h), fun _ => rfl⟩
/-! ### results that lie in cells, among others -/
structure ResIn (P : Program) (x : Cx) (E : List (Nat × Value)) (L : List HP) (rs : List ResultVar) (vs : List Value) : Prop where
  h : ∀ a w, EnvOK x.n x.ds E a → SAT x.w0 x.O L w → ∀ acc : List Value, (rs.foldlM (fun (bs : Array Value) (r : ResultVar) => bs.push <$>
      (match r with | .tmp t => pure (a.tmps.getD t undef) | .cell c t => do loadVar t (← asAddr (a.tmps.getD c undef)) : Sem Value)) acc.toArray : Sem (Array Value)).run P w = .ok (acc ++ vs).toArray w
section
variable {P : Program} {x : Cx} {E : List (Nat × Value)} {L L1 L' : List HP} {rs : List ResultVar} {vs : List Value} {v : Value} {k : List Fr}
theorem ResIn.nil : ResIn P x E L [] [] := ⟨fun a w _ _ acc => by simp⟩
theorem ResIn.tmp {t : Nat} (h : ResIn P x E L rs vs) (hv : lookup E t = some v := by rfl) : ResIn P x E L (.tmp t :: rs) (v :: vs) := ⟨fun a w hE hS acc => by
  have := h.h a w hE hS (acc ++ [v])
  simp only [List.foldlM_cons, hE.get t v hv]
  simp only [List.append_assoc, List.singleton_append] at this
  simpa using this⟩
theorem ResIn.one {c rt : Nat} {b f : Nat} (h : ResIn P x E L rs vs) (hv : lookup E c = some (.pointer (some ⟨b, f, none⟩))) (hl : ∀ w, SAT x.w0 x.O L w → (loadVar rt ⟨b, f, none⟩).run P w = .ok v w) : ResIn P x E L (.cell c rt :: rs) (v :: vs) := ⟨fun a w hE hS acc => by
  have := h.h a w hE hS (acc ++ [v])
  have he := hE.get c _ hv
  rw [Array.getD_eq_getD_getElem?] at he
  have hl := hl w hS
  simp only [List.append_assoc, List.singleton_append] at this
  have ha : asAddr (.pointer (some ⟨b, f, none⟩)) = (pure ⟨b, f, none⟩ : Sem Addr) := rfl
  simp [List.foldlM_cons, he, ha, hl]
  simpa using this⟩
theorem load_var {P : Program} {w : World} {rt : TypeId} {a : Addr} {u : Value} (h : (execOp (fun _ => .pointer (some a)) ⟨none, .load rt (.tmp 0), 0, "", #[], none⟩).run P w = .ok (.value u) w) : (loadVar rt a).run P w = .ok u w := by
  simp only [execOp] at h
  simp [Instr.loadAt, Instr.sureAddr, Sem.run_bind] at h
  revert h
  cases (loadVar rt a).run P w <;> simp [Result.andThen]
theorem ResIn.cell {c rt : Nat} {b f sz bt : Nat} {zv : Value} {cs : Array Value} {T : TypeId} {fr : Nat × Nat} [hT : Ty P rt false sz bt zv] (h : ResIn P x E L rs vs) (hv : lookup E c = some (.pointer (some ⟨b, f, none⟩)) := by rfl)
    (hp : autoParam (Pick L (blk b (.cells cs T fr)) L') APK.h._autoParam) (hn : nth cs.toList f = some v := by rfl) : ResIn P x E L (.cell c rt :: rs) (v :: vs) := ResIn.one h hv fun w hS => by
  have hw := (hS.pick hp).read
  have hv : cs[f]? = some v := by rw [nth_eq] at hn; simpa using hn
  simp [loadVar, hT.isAgg, Go.load, Sem.run, World.cell?, hw, hv]
/-- Results, some of them in cells. -/
theorem resX_run {fn : Func} {a : Act} {w : World} (hf : fn.results = rs.toArray) (h : ResIn P x E L rs vs) (hE : EnvOK x.n x.ds E a) (hS : SAT x.w0 x.O L w) : (results fn a.tmps).run P w = .ok (tup vs) w := by
  have h := h.h a w hE hS []
  simp only [List.nil_append] at h
  simp only [results, hf]
  rw [Array.mapM_eq_foldlM]
  simp only [Sem.run_bind, List.foldlM_toArray']
  refine Eq.trans (b := Result.andThen (Result.ok vs.toArray w) _) (congrArg (fun r => Result.andThen r _) h) ?_
  simp only [Result.andThen]
  match vs with
  | [] => rfl
  | [v] => rfl
  | a :: b :: l =>
    rw [dif_neg (by simp)]
    rfl
theorem J.retX (h : ∀ w, SAT x.w0 x.O L w → x.R (.returned (tup vs)) w) (hf : x.fn.results = rs.toArray := by rfl) (hv : autoParam (ResIn P x E L rs vs) ARES.h._autoParam) (hq : x.Q0 = bodyPost P x.fn x.R := by rfl) (hds : x.ds = [] := by rfl) : J P x E L .ret k := ⟨fun _ w hE hS =>
  wpIn_ret (post_ret (hq ▸ ⟨by rw [hE.defers, hds]; rfl, tup vs, resX_run hf hv hE hS, h w hS⟩))⟩
theorem J.retXM {ds : List Nat} (h : ∀ w, SAT x.w0 x.O L1 w → x.R (.returned (tup vs)) w) (hds : x.ds = ds := by rfl) (hm : autoParam (MarksIn ds L L1) AMK.h._autoParam) (hf : x.fn.results = rs.toArray := by rfl) (hv : autoParam (ResIn P x E L1 rs vs) ARES.h._autoParam) (hq : x.Q0 = bpM P x.fn x.R := by rfl) : J P x E L .ret k := ⟨fun a w hE hS =>
  wpIn_ret (post_ret (by rw [hq]; exact leavesM (hds ▸ hE) hS hm fun w' hS' => ⟨resX_run hf hv hE hS', h w' hS'⟩))⟩
theorem Ent.pure {φ : Prop} {L2 : List HP} (h2 : Ent L L2) (h : φ) : Ent L (pureR φ :: L2) := Ent.pick (Pick.pure h) h2
theorem iEPure {φ : Prop} {L2 : List HP} (h : Ent L (pureR φ :: L2)) : Ent L (pureR φ :: L2) := h
theorem J.pureAt {c : Code} {φ : Prop} (h : φ → J P x E L' c k) (hp : autoParam (Pick L (pureR φ) L') APB.h._autoParam) : J P x E L c k := ⟨fun a w hE hS => by
  have h1 := (hS.pick hp).pure
  exact (h h1.1).h a w hE h1.2⟩
theorem JK.pureAt {φ : Prop} (h : φ → JK P x E L' k) (hp : autoParam (Pick L (pureR φ) L') APB.h._autoParam) : JK P x E L k := ⟨fun a w hE hS => by
  have h1 := (hS.pick hp).pure
  exact (h h1.1).h a w hE h1.2⟩
end
end Go.SL

/- What further rules ask of types. -/
set_option linter.unusedVariables false
set_option linter.unusedSimpArgs false
namespace Go.SL
open Go.RowKit
class PtT (P : Program) (t : TypeId) : Prop where
  h : ∃ te j, P.underlying t = some (.pointer te) ∧ P.info? te = some j ∧ j.size ≠ 0
theorem PtT.mk' {P : Program} {t te : TypeId} {ag : Bool} {sz bt : Nat} {zv : Value} [hT : Ty P te ag sz bt zv] (h : P.underlying t = some (.pointer te)) (hs : sz ≠ 0) : PtT P t := by
  obtain ⟨i, hi, h1, _⟩ := hT.info
  exact ⟨te, i, h, hi, by rw [h1]; exact hs⟩
/-- A field of one cell of a struct value. -/
class FvT (P : Program) (t : TypeId) (j : Nat) (off : outParam Nat) : Prop where
  h : ∀ (cs : Array Value) (v : Value) (w : World), cs[off]? = some v → (Instr.field t (.agg cs) j).run P w = .ok v w
theorem FvT.mk' {P : Program} {t ft : TypeId} {j off sz bt : Nat} {zv : Value} {fs : Array Field} {f : Field} [hT : Ty P ft false sz bt zv] (h : P.underlying t = some (.struct fs)) (hf : fs[j]? = some f) (ho : f.offset = off) (hft : f.type = ft) : FvT P t j off := ⟨fun cs v w hc => by
  subst ho
  subst hft
  simp [Instr.field, run_underlying h, hf, asAgg, part, hT.isAgg, hc]⟩
class ArT (P : Program) (t : TypeId) (n : outParam Nat) (e : outParam TypeId) : Prop where
  h : P.underlying t = some (.array n e)
end Go.SL

/- What the rules ask of the types of this seat, and of its functions. -/
namespace Go.SL
open Go.Proofs
instance : Ty Tryz.prog 1 false 1 8 .nilFunc := ⟨⟨by kernel_rfl, by kernel_rfl⟩⟩
instance : Ty Tryz.prog 2 false 1 8 (.int .i64 0) := ⟨⟨by kernel_rfl, by kernel_rfl⟩⟩
instance : IntT Tryz.prog 2 .i64 := ⟨by kernel_rfl⟩
instance : Ty Tryz.prog 3 false 1 8 (.int .i64 0) := ⟨⟨by kernel_rfl, by kernel_rfl⟩⟩
instance : IntT Tryz.prog 3 .i64 := ⟨by kernel_rfl⟩
instance : Ty Tryz.prog 4 false 1 1 (.bool false) := ⟨⟨by kernel_rfl, by kernel_rfl⟩⟩
instance : BoolT Tryz.prog 4 := ⟨by kernel_rfl⟩
instance : Ty Tryz.prog 5 false 1 1 (.int .u8 0) := ⟨⟨by kernel_rfl, by kernel_rfl⟩⟩
instance : IntT Tryz.prog 5 .u8 := ⟨by kernel_rfl⟩
instance : Ty Tryz.prog 6 false 1 1 (.int .u8 0) := ⟨⟨by kernel_rfl, by kernel_rfl⟩⟩
instance : IntT Tryz.prog 6 .u8 := ⟨by kernel_rfl⟩
instance : Ty Tryz.prog 7 true 4 24 (.agg #[(.int .i64 0), (.int .i64 0), (.bool false), (.int .u8 0)]) := ⟨⟨by kernel_rfl, by kernel_rfl⟩⟩
instance : NIfT Tryz.prog 7 := ⟨⟨_, Tryz.underlying7, fun _ h => by cases h⟩⟩
instance : StT Tryz.prog 7 #[(0, 1), (1, 1), (2, 1), (3, 1)] := ⟨⟨_, Tryz.underlying7, fun _ => by kernel_rfl⟩⟩
instance : FldT Tryz.prog 7 0 0 := ⟨fun _ _ => by kernel_rfl⟩
instance : FldT Tryz.prog 7 1 1 := ⟨fun _ _ => by kernel_rfl⟩
instance : FldT Tryz.prog 7 2 2 := ⟨fun _ _ => by kernel_rfl⟩
instance : FldT Tryz.prog 7 3 3 := ⟨fun _ _ => by kernel_rfl⟩
instance : Ty Tryz.prog 8 true 4 24 (.agg #[(.int .i64 0), (.int .i64 0), (.bool false), (.int .u8 0)]) := ⟨⟨by kernel_rfl, by kernel_rfl⟩⟩
instance : NIfT Tryz.prog 8 := ⟨⟨_, Tryz.underlying8, fun _ h => by cases h⟩⟩
instance : StT Tryz.prog 8 #[(0, 1), (1, 1), (2, 1), (3, 1)] := ⟨⟨_, Tryz.underlying8, fun _ => by kernel_rfl⟩⟩
instance : FldT Tryz.prog 8 0 0 := ⟨fun _ _ => by kernel_rfl⟩
instance : FldT Tryz.prog 8 1 1 := ⟨fun _ _ => by kernel_rfl⟩
instance : FldT Tryz.prog 8 2 2 := ⟨fun _ _ => by kernel_rfl⟩
instance : FldT Tryz.prog 8 3 3 := ⟨fun _ _ => by kernel_rfl⟩
instance : Ty Tryz.prog 9 false 1 16 (.string ⟨#[]⟩) := ⟨⟨by kernel_rfl, by kernel_rfl⟩⟩
instance : StrT Tryz.prog 9 := ⟨by kernel_rfl⟩
instance : Ty Tryz.prog 10 false 1 16 (.string ⟨#[]⟩) := ⟨⟨by kernel_rfl, by kernel_rfl⟩⟩
instance : StrT Tryz.prog 10 := ⟨by kernel_rfl⟩
instance : Ty Tryz.prog 11 false 1 16 (.string ⟨#[]⟩) := ⟨⟨by kernel_rfl, by kernel_rfl⟩⟩
instance : StrT Tryz.prog 11 := ⟨by kernel_rfl⟩
instance : Ty Tryz.prog 12 false 1 8 (.int .u64 0) := ⟨⟨by kernel_rfl, by kernel_rfl⟩⟩
instance : IntT Tryz.prog 12 .u64 := ⟨by kernel_rfl⟩
instance : Ty Tryz.prog 13 true 2 24 (.agg #[(.string ⟨#[]⟩), (.int .u64 0)]) := ⟨⟨by kernel_rfl, by kernel_rfl⟩⟩
instance : NIfT Tryz.prog 13 := ⟨⟨_, Tryz.underlying13, fun _ h => by cases h⟩⟩
instance : StT Tryz.prog 13 #[(0, 1), (1, 1)] := ⟨⟨_, Tryz.underlying13, fun _ => by kernel_rfl⟩⟩
instance : FldT Tryz.prog 13 0 0 := ⟨fun _ _ => by kernel_rfl⟩
instance : FldT Tryz.prog 13 1 1 := ⟨fun _ _ => by kernel_rfl⟩
instance : Ty Tryz.prog 14 true 2 24 (.agg #[(.string ⟨#[]⟩), (.int .u64 0)]) := ⟨⟨by kernel_rfl, by kernel_rfl⟩⟩
instance : NIfT Tryz.prog 14 := ⟨⟨_, Tryz.underlying14, fun _ h => by cases h⟩⟩
instance : StT Tryz.prog 14 #[(0, 1), (1, 1)] := ⟨⟨_, Tryz.underlying14, fun _ => by kernel_rfl⟩⟩
instance : FldT Tryz.prog 14 0 0 := ⟨fun _ _ => by kernel_rfl⟩
instance : FldT Tryz.prog 14 1 1 := ⟨fun _ _ => by kernel_rfl⟩
instance : Ty Tryz.prog 15 false 1 8 (.pointer none) := ⟨⟨by kernel_rfl, by kernel_rfl⟩⟩
instance : NIfT Tryz.prog 15 := ⟨⟨.pointer 172, by kernel_rfl, fun _ h => by cases h⟩⟩
instance : Ty Tryz.prog 16 false 1 8 (.pointer none) := ⟨⟨by kernel_rfl, by kernel_rfl⟩⟩
instance : NIfT Tryz.prog 16 := ⟨⟨.pointer 175, by kernel_rfl, fun _ h => by cases h⟩⟩
instance : Ty Tryz.prog 17 false 1 8 (.pointer none) := ⟨⟨by kernel_rfl, by kernel_rfl⟩⟩
instance : NIfT Tryz.prog 17 := ⟨⟨.pointer 184, by kernel_rfl, fun _ h => by cases h⟩⟩
instance : Ty Tryz.prog 18 true 1 8 (.agg #[(.pointer none)]) := ⟨⟨by kernel_rfl, by kernel_rfl⟩⟩
instance : NIfT Tryz.prog 18 := ⟨⟨_, Tryz.underlying18, fun _ h => by cases h⟩⟩
instance : StT Tryz.prog 18 #[(0, 1)] := ⟨⟨_, Tryz.underlying18, fun _ => by kernel_rfl⟩⟩
instance : FldT Tryz.prog 18 0 0 := ⟨fun _ _ => by kernel_rfl⟩
instance : Ty Tryz.prog 19 true 1 8 (.agg #[(.pointer none)]) := ⟨⟨by kernel_rfl, by kernel_rfl⟩⟩
instance : NIfT Tryz.prog 19 := ⟨⟨_, Tryz.underlying19, fun _ h => by cases h⟩⟩
instance : StT Tryz.prog 19 #[(0, 1)] := ⟨⟨_, Tryz.underlying19, fun _ => by kernel_rfl⟩⟩
instance : FldT Tryz.prog 19 0 0 := ⟨fun _ _ => by kernel_rfl⟩
instance : Ty Tryz.prog 20 false 1 16 .nilIface := ⟨⟨by kernel_rfl, by kernel_rfl⟩⟩
instance : IfT Tryz.prog 20 := ⟨⟨_, Tryz.underlying20⟩⟩
instance : Ty Tryz.prog 21 false 1 4 (.int .i32 0) := ⟨⟨by kernel_rfl, by kernel_rfl⟩⟩
instance : IntT Tryz.prog 21 .i32 := ⟨by kernel_rfl⟩
instance : Ty Tryz.prog 22 false 1 24 (.slice none 0 0) := ⟨⟨by kernel_rfl, by kernel_rfl⟩⟩
instance : SlT Tryz.prog 22 5 := ⟨by kernel_rfl⟩
instance : Ty Tryz.prog 23 false 1 24 (.slice none 0 0) := ⟨⟨by kernel_rfl, by kernel_rfl⟩⟩
instance : SlT Tryz.prog 23 62 := ⟨by kernel_rfl⟩
instance : Ty Tryz.prog 24 true 6 72 (.agg #[(.string ⟨#[]⟩), (.int .i64 0), (.int .i64 0), (.int .i64 0), (.int .i64 0), (.slice none 0 0)]) := ⟨⟨by kernel_rfl, by kernel_rfl⟩⟩
instance : NIfT Tryz.prog 24 := ⟨⟨_, Tryz.underlying24, fun _ h => by cases h⟩⟩
instance : StT Tryz.prog 24 #[(0, 1), (1, 1), (2, 1), (3, 1), (4, 1), (5, 1)] := ⟨⟨_, Tryz.underlying24, fun _ => by kernel_rfl⟩⟩
instance : FldT Tryz.prog 24 0 0 := ⟨fun _ _ => by kernel_rfl⟩
instance : FldT Tryz.prog 24 1 1 := ⟨fun _ _ => by kernel_rfl⟩
instance : FldT Tryz.prog 24 2 2 := ⟨fun _ _ => by kernel_rfl⟩
instance : FldT Tryz.prog 24 3 3 := ⟨fun _ _ => by kernel_rfl⟩
instance : FldT Tryz.prog 24 4 4 := ⟨fun _ _ => by kernel_rfl⟩
instance : FldT Tryz.prog 24 5 5 := ⟨fun _ _ => by kernel_rfl⟩
instance : Ty Tryz.prog 25 true 6 72 (.agg #[(.string ⟨#[]⟩), (.int .i64 0), (.int .i64 0), (.int .i64 0), (.int .i64 0), (.slice none 0 0)]) := ⟨⟨by kernel_rfl, by kernel_rfl⟩⟩
instance : NIfT Tryz.prog 25 := ⟨⟨_, Tryz.underlying25, fun _ h => by cases h⟩⟩
instance : StT Tryz.prog 25 #[(0, 1), (1, 1), (2, 1), (3, 1), (4, 1), (5, 1)] := ⟨⟨_, Tryz.underlying25, fun _ => by kernel_rfl⟩⟩
instance : FldT Tryz.prog 25 0 0 := ⟨fun _ _ => by kernel_rfl⟩
instance : FldT Tryz.prog 25 1 1 := ⟨fun _ _ => by kernel_rfl⟩
instance : FldT Tryz.prog 25 2 2 := ⟨fun _ _ => by kernel_rfl⟩
instance : FldT Tryz.prog 25 3 3 := ⟨fun _ _ => by kernel_rfl⟩
instance : FldT Tryz.prog 25 4 4 := ⟨fun _ _ => by kernel_rfl⟩
instance : FldT Tryz.prog 25 5 5 := ⟨fun _ _ => by kernel_rfl⟩
instance : Ty Tryz.prog 27 false 1 8 .nilFunc := ⟨⟨by kernel_rfl, by kernel_rfl⟩⟩
instance : Ty Tryz.prog 29 false 1 8 .nilFunc := ⟨⟨by kernel_rfl, by kernel_rfl⟩⟩
instance : Ty Tryz.prog 30 false 1 8 .nilFunc := ⟨⟨by kernel_rfl, by kernel_rfl⟩⟩
instance : Ty Tryz.prog 31 false 1 24 (.slice none 0 0) := ⟨⟨by kernel_rfl, by kernel_rfl⟩⟩
instance : SlT Tryz.prog 31 3 := ⟨by kernel_rfl⟩
instance : Ty Tryz.prog 33 false 1 8 .nilFunc := ⟨⟨by kernel_rfl, by kernel_rfl⟩⟩
instance : Ty Tryz.prog 34 false 1 8 .nilFunc := ⟨⟨by kernel_rfl, by kernel_rfl⟩⟩
instance : Ty Tryz.prog 35 false 1 8 .nilFunc := ⟨⟨by kernel_rfl, by kernel_rfl⟩⟩
instance : Ty Tryz.prog 36 false 1 8 .nilFunc := ⟨⟨by kernel_rfl, by kernel_rfl⟩⟩
instance : Ty Tryz.prog 37 false 1 8 .nilFunc := ⟨⟨by kernel_rfl, by kernel_rfl⟩⟩
instance : Ty Tryz.prog 38 false 1 8 .nilFunc := ⟨⟨by kernel_rfl, by kernel_rfl⟩⟩
instance : Ty Tryz.prog 39 false 1 8 .nilFunc := ⟨⟨by kernel_rfl, by kernel_rfl⟩⟩
instance : Ty Tryz.prog 40 false 1 8 (.pointer none) := ⟨⟨by kernel_rfl, by kernel_rfl⟩⟩
instance : NIfT Tryz.prog 40 := ⟨⟨.pointer 69, by kernel_rfl, fun _ h => by cases h⟩⟩
instance : Ty Tryz.prog 41 false 1 8 .nilFunc := ⟨⟨by kernel_rfl, by kernel_rfl⟩⟩
instance : Ty Tryz.prog 42 false 1 8 .nilFunc := ⟨⟨by kernel_rfl, by kernel_rfl⟩⟩
instance : Ty Tryz.prog 43 false 1 8 .nilFunc := ⟨⟨by kernel_rfl, by kernel_rfl⟩⟩
instance : Ty Tryz.prog 44 false 1 8 .nilFunc := ⟨⟨by kernel_rfl, by kernel_rfl⟩⟩
instance : Ty Tryz.prog 45 false 1 8 .nilFunc := ⟨⟨by kernel_rfl, by kernel_rfl⟩⟩
instance : Ty Tryz.prog 46 false 1 24 (.slice none 0 0) := ⟨⟨by kernel_rfl, by kernel_rfl⟩⟩
instance : SlT Tryz.prog 46 9 := ⟨by kernel_rfl⟩
instance : Ty Tryz.prog 47 false 1 8 (.pointer none) := ⟨⟨by kernel_rfl, by kernel_rfl⟩⟩
instance : NIfT Tryz.prog 47 := ⟨⟨.pointer 82, by kernel_rfl, fun _ h => by cases h⟩⟩
instance : Ty Tryz.prog 48 false 1 16 .nilIface := ⟨⟨by kernel_rfl, by kernel_rfl⟩⟩
instance : IfT Tryz.prog 48 := ⟨⟨_, Tryz.underlying48⟩⟩
instance : Ty Tryz.prog 49 false 1 16 .nilIface := ⟨⟨by kernel_rfl, by kernel_rfl⟩⟩
instance : IfT Tryz.prog 49 := ⟨⟨_, Tryz.underlying49⟩⟩
instance : Ty Tryz.prog 51 false 1 8 .nilFunc := ⟨⟨by kernel_rfl, by kernel_rfl⟩⟩
instance : Ty Tryz.prog 52 false 1 8 .nilFunc := ⟨⟨by kernel_rfl, by kernel_rfl⟩⟩
instance : Ty Tryz.prog 53 false 1 8 .nilFunc := ⟨⟨by kernel_rfl, by kernel_rfl⟩⟩
instance : Ty Tryz.prog 54 false 1 8 .nilFunc := ⟨⟨by kernel_rfl, by kernel_rfl⟩⟩
instance : Ty Tryz.prog 55 false 1 8 .nilFunc := ⟨⟨by kernel_rfl, by kernel_rfl⟩⟩
instance : Ty Tryz.prog 56 false 1 8 .nilFunc := ⟨⟨by kernel_rfl, by kernel_rfl⟩⟩
instance : Ty Tryz.prog 57 false 1 8 .nilFunc := ⟨⟨by kernel_rfl, by kernel_rfl⟩⟩
instance : Ty Tryz.prog 58 false 1 8 .nilFunc := ⟨⟨by kernel_rfl, by kernel_rfl⟩⟩
instance : Ty Tryz.prog 59 false 1 8 .nilFunc := ⟨⟨by kernel_rfl, by kernel_rfl⟩⟩
instance : Ty Tryz.prog 60 false 1 8 .nilFunc := ⟨⟨by kernel_rfl, by kernel_rfl⟩⟩
instance : Ty Tryz.prog 61 true 4 32 (.agg #[(.int .i64 0), (.int .i64 0), (.int .i64 0), (.int .i64 0)]) := ⟨⟨by kernel_rfl, by kernel_rfl⟩⟩
instance : NIfT Tryz.prog 61 := ⟨⟨_, Tryz.underlying61, fun _ h => by cases h⟩⟩
instance : EqTI Tryz.prog 61 4 := ⟨by kernel_rfl, by kernel_rfl, by kernel_rfl, by kernel_rfl, by kernel_rfl⟩
instance : StT Tryz.prog 61 #[(0, 1), (1, 1), (2, 1), (3, 1)] := ⟨⟨_, Tryz.underlying61, fun _ => by kernel_rfl⟩⟩
instance : FldT Tryz.prog 61 0 0 := ⟨fun _ _ => by kernel_rfl⟩
instance : FldT Tryz.prog 61 1 1 := ⟨fun _ _ => by kernel_rfl⟩
instance : FldT Tryz.prog 61 2 2 := ⟨fun _ _ => by kernel_rfl⟩
instance : FldT Tryz.prog 61 3 3 := ⟨fun _ _ => by kernel_rfl⟩
instance : Ty Tryz.prog 62 true 4 32 (.agg #[(.int .i64 0), (.int .i64 0), (.int .i64 0), (.int .i64 0)]) := ⟨⟨by kernel_rfl, by kernel_rfl⟩⟩
instance : NIfT Tryz.prog 62 := ⟨⟨_, Tryz.underlying62, fun _ h => by cases h⟩⟩
instance : EqTI Tryz.prog 62 4 := ⟨by kernel_rfl, by kernel_rfl, by kernel_rfl, by kernel_rfl, by kernel_rfl⟩
instance : StT Tryz.prog 62 #[(0, 1), (1, 1), (2, 1), (3, 1)] := ⟨⟨_, Tryz.underlying62, fun _ => by kernel_rfl⟩⟩
instance : FldT Tryz.prog 62 0 0 := ⟨fun _ _ => by kernel_rfl⟩
instance : FldT Tryz.prog 62 1 1 := ⟨fun _ _ => by kernel_rfl⟩
instance : FldT Tryz.prog 62 2 2 := ⟨fun _ _ => by kernel_rfl⟩
instance : FldT Tryz.prog 62 3 3 := ⟨fun _ _ => by kernel_rfl⟩
instance : Ty Tryz.prog 63 false 1 8 .nilFunc := ⟨⟨by kernel_rfl, by kernel_rfl⟩⟩
instance : Ty Tryz.prog 64 false 1 24 (.slice none 0 0) := ⟨⟨by kernel_rfl, by kernel_rfl⟩⟩
instance : SlT Tryz.prog 64 137 := ⟨by kernel_rfl⟩
instance : Ty Tryz.prog 65 false 1 24 (.slice none 0 0) := ⟨⟨by kernel_rfl, by kernel_rfl⟩⟩
instance : SlT Tryz.prog 65 137 := ⟨by kernel_rfl⟩
instance : Ty Tryz.prog 66 false 1 8 .nilFunc := ⟨⟨by kernel_rfl, by kernel_rfl⟩⟩
instance : Ty Tryz.prog 67 false 1 8 .nilFunc := ⟨⟨by kernel_rfl, by kernel_rfl⟩⟩
instance : Ty Tryz.prog 68 true 2 32 (.agg #[(.slice none 0 0), (.int .i64 0)]) := ⟨⟨by kernel_rfl, by kernel_rfl⟩⟩
instance : NIfT Tryz.prog 68 := ⟨⟨_, Tryz.underlying68, fun _ h => by cases h⟩⟩
instance : StT Tryz.prog 68 #[(0, 1), (1, 1)] := ⟨⟨_, Tryz.underlying68, fun _ => by kernel_rfl⟩⟩
instance : FldT Tryz.prog 68 0 0 := ⟨fun _ _ => by kernel_rfl⟩
instance : FldT Tryz.prog 68 1 1 := ⟨fun _ _ => by kernel_rfl⟩
instance : Ty Tryz.prog 69 true 2 32 (.agg #[(.slice none 0 0), (.int .i64 0)]) := ⟨⟨by kernel_rfl, by kernel_rfl⟩⟩
instance : NIfT Tryz.prog 69 := ⟨⟨_, Tryz.underlying69, fun _ h => by cases h⟩⟩
instance : StT Tryz.prog 69 #[(0, 1), (1, 1)] := ⟨⟨_, Tryz.underlying69, fun _ => by kernel_rfl⟩⟩
instance : FldT Tryz.prog 69 0 0 := ⟨fun _ _ => by kernel_rfl⟩
instance : FldT Tryz.prog 69 1 1 := ⟨fun _ _ => by kernel_rfl⟩
instance : Ty Tryz.prog 70 false 1 8 .nilFunc := ⟨⟨by kernel_rfl, by kernel_rfl⟩⟩
instance : Ty Tryz.prog 71 false 1 8 .nilFunc := ⟨⟨by kernel_rfl, by kernel_rfl⟩⟩
instance : Ty Tryz.prog 73 false 1 8 .nilFunc := ⟨⟨by kernel_rfl, by kernel_rfl⟩⟩
instance : Ty Tryz.prog 74 false 1 8 .nilFunc := ⟨⟨by kernel_rfl, by kernel_rfl⟩⟩
instance : Ty Tryz.prog 75 false 1 8 .nilFunc := ⟨⟨by kernel_rfl, by kernel_rfl⟩⟩
instance : Ty Tryz.prog 76 false 1 8 (.pointer none) := ⟨⟨by kernel_rfl, by kernel_rfl⟩⟩
instance : NIfT Tryz.prog 76 := ⟨⟨.pointer 78, by kernel_rfl, fun _ h => by cases h⟩⟩
instance : Ty Tryz.prog 77 true 1 8 (.agg #[(.int .i64 0)]) := ⟨⟨by kernel_rfl, by kernel_rfl⟩⟩
instance : NIfT Tryz.prog 77 := ⟨⟨_, Tryz.underlying77, fun _ h => by cases h⟩⟩
instance : StT Tryz.prog 77 #[(0, 1)] := ⟨⟨_, Tryz.underlying77, fun _ => by kernel_rfl⟩⟩
instance : FldT Tryz.prog 77 0 0 := ⟨fun _ _ => by kernel_rfl⟩
instance : Ty Tryz.prog 78 true 1 8 (.agg #[(.int .i64 0)]) := ⟨⟨by kernel_rfl, by kernel_rfl⟩⟩
instance : NIfT Tryz.prog 78 := ⟨⟨_, Tryz.underlying78, fun _ h => by cases h⟩⟩
instance : StT Tryz.prog 78 #[(0, 1)] := ⟨⟨_, Tryz.underlying78, fun _ => by kernel_rfl⟩⟩
instance : FldT Tryz.prog 78 0 0 := ⟨fun _ _ => by kernel_rfl⟩
instance : Ty Tryz.prog 79 false 1 8 .nilFunc := ⟨⟨by kernel_rfl, by kernel_rfl⟩⟩
instance : Ty Tryz.prog 80 false 1 8 .nilFunc := ⟨⟨by kernel_rfl, by kernel_rfl⟩⟩
instance : Ty Tryz.prog 81 true 8 104 (.agg #[(.string ⟨#[]⟩), (.int .i64 0), (.int .i64 0), (.int .i64 0), (.int .i64 0), (.slice none 0 0), (.slice none 0 0), (.int .i64 0)]) := ⟨⟨by kernel_rfl, by kernel_rfl⟩⟩
instance : NIfT Tryz.prog 81 := ⟨⟨_, Tryz.underlying81, fun _ h => by cases h⟩⟩
instance : StT Tryz.prog 81 #[(0, 6), (6, 1), (7, 1)] := ⟨⟨_, Tryz.underlying81, fun _ => by kernel_rfl⟩⟩
instance : FldT Tryz.prog 81 0 0 := ⟨fun _ _ => by kernel_rfl⟩
instance : FldT Tryz.prog 81 1 6 := ⟨fun _ _ => by kernel_rfl⟩
instance : FldT Tryz.prog 81 2 7 := ⟨fun _ _ => by kernel_rfl⟩
instance : Ty Tryz.prog 82 true 8 104 (.agg #[(.string ⟨#[]⟩), (.int .i64 0), (.int .i64 0), (.int .i64 0), (.int .i64 0), (.slice none 0 0), (.slice none 0 0), (.int .i64 0)]) := ⟨⟨by kernel_rfl, by kernel_rfl⟩⟩
instance : NIfT Tryz.prog 82 := ⟨⟨_, Tryz.underlying82, fun _ h => by cases h⟩⟩
instance : StT Tryz.prog 82 #[(0, 6), (6, 1), (7, 1)] := ⟨⟨_, Tryz.underlying82, fun _ => by kernel_rfl⟩⟩
instance : FldT Tryz.prog 82 0 0 := ⟨fun _ _ => by kernel_rfl⟩
instance : FldT Tryz.prog 82 1 6 := ⟨fun _ _ => by kernel_rfl⟩
instance : FldT Tryz.prog 82 2 7 := ⟨fun _ _ => by kernel_rfl⟩
instance : Ty Tryz.prog 83 false 1 8 (.pointer none) := ⟨⟨by kernel_rfl, by kernel_rfl⟩⟩
instance : NIfT Tryz.prog 83 := ⟨⟨.pointer 112, by kernel_rfl, fun _ h => by cases h⟩⟩
instance : Ty Tryz.prog 84 false 1 8 .nilFunc := ⟨⟨by kernel_rfl, by kernel_rfl⟩⟩
instance : Ty Tryz.prog 85 false 1 8 .nilFunc := ⟨⟨by kernel_rfl, by kernel_rfl⟩⟩
instance : Ty Tryz.prog 86 false 1 8 .nilFunc := ⟨⟨by kernel_rfl, by kernel_rfl⟩⟩
instance : Ty Tryz.prog 87 false 1 8 .nilFunc := ⟨⟨by kernel_rfl, by kernel_rfl⟩⟩
instance : Ty Tryz.prog 88 false 1 8 .nilFunc := ⟨⟨by kernel_rfl, by kernel_rfl⟩⟩
instance : Ty Tryz.prog 89 false 1 24 (.slice none 0 0) := ⟨⟨by kernel_rfl, by kernel_rfl⟩⟩
instance : SlT Tryz.prog 89 120 := ⟨by kernel_rfl⟩
instance : Ty Tryz.prog 90 false 1 8 .nilFunc := ⟨⟨by kernel_rfl, by kernel_rfl⟩⟩
instance : Ty Tryz.prog 91 false 1 8 .nilFunc := ⟨⟨by kernel_rfl, by kernel_rfl⟩⟩
instance : Ty Tryz.prog 92 false 1 8 .nilFunc := ⟨⟨by kernel_rfl, by kernel_rfl⟩⟩
instance : Ty Tryz.prog 94 false 1 8 .nilFunc := ⟨⟨by kernel_rfl, by kernel_rfl⟩⟩
instance : Ty Tryz.prog 95 false 1 8 .nilFunc := ⟨⟨by kernel_rfl, by kernel_rfl⟩⟩
instance : Ty Tryz.prog 96 false 1 8 .nilFunc := ⟨⟨by kernel_rfl, by kernel_rfl⟩⟩
instance : Ty Tryz.prog 97 false 1 8 (.pointer none) := ⟨⟨by kernel_rfl, by kernel_rfl⟩⟩
instance : NIfT Tryz.prog 97 := ⟨⟨.pointer 76, by kernel_rfl, fun _ h => by cases h⟩⟩
instance : Ty Tryz.prog 98 false 1 8 .nilFunc := ⟨⟨by kernel_rfl, by kernel_rfl⟩⟩
instance : Ty Tryz.prog 99 false 1 8 .nilFunc := ⟨⟨by kernel_rfl, by kernel_rfl⟩⟩
instance : Ty Tryz.prog 100 true 2 16 (.agg #[(.int .i64 0), (.int .i64 0)]) := ⟨⟨by kernel_rfl, by kernel_rfl⟩⟩
instance : NIfT Tryz.prog 100 := ⟨⟨_, Tryz.underlying100, fun _ h => by cases h⟩⟩
instance : EqT2 Tryz.prog 100 := EqT2.mk' (by kernel_rfl) Tryz.underlying100 (by kernel_rfl) rfl rfl rfl (by kernel_rfl) (by kernel_rfl) (fun _ _ _ => by kernel_rfl) (fun _ _ _ => by kernel_rfl)
instance : StT Tryz.prog 100 #[(0, 1), (1, 1)] := ⟨⟨_, Tryz.underlying100, fun _ => by kernel_rfl⟩⟩
instance : FldT Tryz.prog 100 0 0 := ⟨fun _ _ => by kernel_rfl⟩
instance : FldT Tryz.prog 100 1 1 := ⟨fun _ _ => by kernel_rfl⟩
instance : Ty Tryz.prog 101 true 2 16 (.agg #[(.int .i64 0), (.int .i64 0)]) := ⟨⟨by kernel_rfl, by kernel_rfl⟩⟩
instance : NIfT Tryz.prog 101 := ⟨⟨_, Tryz.underlying101, fun _ h => by cases h⟩⟩
instance : EqT2 Tryz.prog 101 := EqT2.mk' (by kernel_rfl) Tryz.underlying101 (by kernel_rfl) rfl rfl rfl (by kernel_rfl) (by kernel_rfl) (fun _ _ _ => by kernel_rfl) (fun _ _ _ => by kernel_rfl)
instance : StT Tryz.prog 101 #[(0, 1), (1, 1)] := ⟨⟨_, Tryz.underlying101, fun _ => by kernel_rfl⟩⟩
instance : FldT Tryz.prog 101 0 0 := ⟨fun _ _ => by kernel_rfl⟩
instance : FldT Tryz.prog 101 1 1 := ⟨fun _ _ => by kernel_rfl⟩
instance : Ty Tryz.prog 102 false 1 8 .nilFunc := ⟨⟨by kernel_rfl, by kernel_rfl⟩⟩
instance : Ty Tryz.prog 103 false 1 8 .nilFunc := ⟨⟨by kernel_rfl, by kernel_rfl⟩⟩
instance : Ty Tryz.prog 104 false 1 8 .nilFunc := ⟨⟨by kernel_rfl, by kernel_rfl⟩⟩
instance : Ty Tryz.prog 105 false 1 8 .nilFunc := ⟨⟨by kernel_rfl, by kernel_rfl⟩⟩
instance : Ty Tryz.prog 106 false 1 8 .nilFunc := ⟨⟨by kernel_rfl, by kernel_rfl⟩⟩
instance : Ty Tryz.prog 107 false 1 8 .nilFunc := ⟨⟨by kernel_rfl, by kernel_rfl⟩⟩
instance : Ty Tryz.prog 108 false 1 8 .nilFunc := ⟨⟨by kernel_rfl, by kernel_rfl⟩⟩
instance : Ty Tryz.prog 109 false 1 8 .nilFunc := ⟨⟨by kernel_rfl, by kernel_rfl⟩⟩
instance : Ty Tryz.prog 110 false 1 8 (.map none) := ⟨⟨by kernel_rfl, by kernel_rfl⟩⟩
instance : MapT Tryz.prog 110 3 3 := ⟨by kernel_rfl⟩
instance : Ty Tryz.prog 111 true 4 64 (.agg #[(.slice none 0 0), (.slice none 0 0), (.map none), (.map none)]) := ⟨⟨by kernel_rfl, by kernel_rfl⟩⟩
instance : NIfT Tryz.prog 111 := ⟨⟨_, Tryz.underlying111, fun _ h => by cases h⟩⟩
instance : StT Tryz.prog 111 #[(0, 1), (1, 1), (2, 1), (3, 1)] := ⟨⟨_, Tryz.underlying111, fun _ => by kernel_rfl⟩⟩
instance : FldT Tryz.prog 111 0 0 := ⟨fun _ _ => by kernel_rfl⟩
instance : FldT Tryz.prog 111 1 1 := ⟨fun _ _ => by kernel_rfl⟩
instance : FldT Tryz.prog 111 2 2 := ⟨fun _ _ => by kernel_rfl⟩
instance : FldT Tryz.prog 111 3 3 := ⟨fun _ _ => by kernel_rfl⟩
instance : Ty Tryz.prog 112 true 4 64 (.agg #[(.slice none 0 0), (.slice none 0 0), (.map none), (.map none)]) := ⟨⟨by kernel_rfl, by kernel_rfl⟩⟩
instance : NIfT Tryz.prog 112 := ⟨⟨_, Tryz.underlying112, fun _ h => by cases h⟩⟩
instance : StT Tryz.prog 112 #[(0, 1), (1, 1), (2, 1), (3, 1)] := ⟨⟨_, Tryz.underlying112, fun _ => by kernel_rfl⟩⟩
instance : FldT Tryz.prog 112 0 0 := ⟨fun _ _ => by kernel_rfl⟩
instance : FldT Tryz.prog 112 1 1 := ⟨fun _ _ => by kernel_rfl⟩
instance : FldT Tryz.prog 112 2 2 := ⟨fun _ _ => by kernel_rfl⟩
instance : FldT Tryz.prog 112 3 3 := ⟨fun _ _ => by kernel_rfl⟩
instance : Ty Tryz.prog 114 false 1 8 .nilFunc := ⟨⟨by kernel_rfl, by kernel_rfl⟩⟩
instance : Ty Tryz.prog 115 false 1 8 .nilFunc := ⟨⟨by kernel_rfl, by kernel_rfl⟩⟩
instance : Ty Tryz.prog 116 false 1 8 .nilFunc := ⟨⟨by kernel_rfl, by kernel_rfl⟩⟩
instance : Ty Tryz.prog 117 false 1 8 .nilFunc := ⟨⟨by kernel_rfl, by kernel_rfl⟩⟩
instance : Ty Tryz.prog 118 false 1 8 .nilFunc := ⟨⟨by kernel_rfl, by kernel_rfl⟩⟩
instance : Ty Tryz.prog 119 true 2 16 (.agg #[(.int .i64 0), (.int .i64 0)]) := ⟨⟨by kernel_rfl, by kernel_rfl⟩⟩
instance : NIfT Tryz.prog 119 := ⟨⟨_, Tryz.underlying119, fun _ h => by cases h⟩⟩
instance : EqT2 Tryz.prog 119 := EqT2.mk' (by kernel_rfl) Tryz.underlying119 (by kernel_rfl) rfl rfl rfl (by kernel_rfl) (by kernel_rfl) (fun _ _ _ => by kernel_rfl) (fun _ _ _ => by kernel_rfl)
instance : StT Tryz.prog 119 #[(0, 1), (1, 1)] := ⟨⟨_, Tryz.underlying119, fun _ => by kernel_rfl⟩⟩
instance : FldT Tryz.prog 119 0 0 := ⟨fun _ _ => by kernel_rfl⟩
instance : FldT Tryz.prog 119 1 1 := ⟨fun _ _ => by kernel_rfl⟩
instance : Ty Tryz.prog 120 true 2 16 (.agg #[(.int .i64 0), (.int .i64 0)]) := ⟨⟨by kernel_rfl, by kernel_rfl⟩⟩
instance : NIfT Tryz.prog 120 := ⟨⟨_, Tryz.underlying120, fun _ h => by cases h⟩⟩
instance : EqT2 Tryz.prog 120 := EqT2.mk' (by kernel_rfl) Tryz.underlying120 (by kernel_rfl) rfl rfl rfl (by kernel_rfl) (by kernel_rfl) (fun _ _ _ => by kernel_rfl) (fun _ _ _ => by kernel_rfl)
instance : StT Tryz.prog 120 #[(0, 1), (1, 1)] := ⟨⟨_, Tryz.underlying120, fun _ => by kernel_rfl⟩⟩
instance : FldT Tryz.prog 120 0 0 := ⟨fun _ _ => by kernel_rfl⟩
instance : FldT Tryz.prog 120 1 1 := ⟨fun _ _ => by kernel_rfl⟩
instance : Ty Tryz.prog 121 false 1 8 .nilFunc := ⟨⟨by kernel_rfl, by kernel_rfl⟩⟩
instance : Ty Tryz.prog 122 false 1 8 (.pointer none) := ⟨⟨by kernel_rfl, by kernel_rfl⟩⟩
instance : Ty Tryz.prog 123 false 1 8 (.int .u64 0) := ⟨⟨by kernel_rfl, by kernel_rfl⟩⟩
instance : IntT Tryz.prog 123 .u64 := ⟨by kernel_rfl⟩
instance : Ty Tryz.prog 124 true 3 24 (.agg #[(.pointer none), (.pointer none), (.int .u64 0)]) := ⟨⟨by kernel_rfl, by kernel_rfl⟩⟩
instance : NIfT Tryz.prog 124 := ⟨⟨_, Tryz.underlying124, fun _ h => by cases h⟩⟩
instance : StT Tryz.prog 124 #[(0, 1), (1, 1), (2, 1)] := ⟨⟨_, Tryz.underlying124, fun _ => by kernel_rfl⟩⟩
instance : FldT Tryz.prog 124 0 0 := ⟨fun _ _ => by kernel_rfl⟩
instance : FldT Tryz.prog 124 1 1 := ⟨fun _ _ => by kernel_rfl⟩
instance : FldT Tryz.prog 124 2 2 := ⟨fun _ _ => by kernel_rfl⟩
instance : Ty Tryz.prog 125 true 3 24 (.agg #[(.pointer none), (.pointer none), (.int .u64 0)]) := ⟨⟨by kernel_rfl, by kernel_rfl⟩⟩
instance : NIfT Tryz.prog 125 := ⟨⟨_, Tryz.underlying125, fun _ h => by cases h⟩⟩
instance : StT Tryz.prog 125 #[(0, 1), (1, 1), (2, 1)] := ⟨⟨_, Tryz.underlying125, fun _ => by kernel_rfl⟩⟩
instance : FldT Tryz.prog 125 0 0 := ⟨fun _ _ => by kernel_rfl⟩
instance : FldT Tryz.prog 125 1 1 := ⟨fun _ _ => by kernel_rfl⟩
instance : FldT Tryz.prog 125 2 2 := ⟨fun _ _ => by kernel_rfl⟩
instance : Ty Tryz.prog 126 false 1 8 .nilFunc := ⟨⟨by kernel_rfl, by kernel_rfl⟩⟩
instance : Ty Tryz.prog 127 false 1 16 .nilIface := ⟨⟨by kernel_rfl, by kernel_rfl⟩⟩
instance : IfT Tryz.prog 127 := ⟨⟨_, Tryz.underlying127⟩⟩
instance : Ty Tryz.prog 128 false 1 16 .nilIface := ⟨⟨by kernel_rfl, by kernel_rfl⟩⟩
instance : IfT Tryz.prog 128 := ⟨⟨_, Tryz.underlying128⟩⟩
instance : Ty Tryz.prog 129 false 1 8 .nilFunc := ⟨⟨by kernel_rfl, by kernel_rfl⟩⟩
instance : Ty Tryz.prog 130 false 1 1 (.int .u8 0) := ⟨⟨by kernel_rfl, by kernel_rfl⟩⟩
instance : IntT Tryz.prog 130 .u8 := ⟨by kernel_rfl⟩
instance : Ty Tryz.prog 131 false 1 8 .nilFunc := ⟨⟨by kernel_rfl, by kernel_rfl⟩⟩
instance : Ty Tryz.prog 132 false 1 8 .nilFunc := ⟨⟨by kernel_rfl, by kernel_rfl⟩⟩
instance : Ty Tryz.prog 133 false 1 8 .nilFunc := ⟨⟨by kernel_rfl, by kernel_rfl⟩⟩
instance : Ty Tryz.prog 134 false 1 8 .nilFunc := ⟨⟨by kernel_rfl, by kernel_rfl⟩⟩
instance : Ty Tryz.prog 135 false 1 8 (.pointer none) := ⟨⟨by kernel_rfl, by kernel_rfl⟩⟩
instance : NIfT Tryz.prog 135 := ⟨⟨.pointer 65, by kernel_rfl, fun _ h => by cases h⟩⟩
instance : Ty Tryz.prog 136 true 3 24 (.agg #[(.int .i64 0), (.int .i64 0), (.int .i64 0)]) := ⟨⟨by kernel_rfl, by kernel_rfl⟩⟩
instance : NIfT Tryz.prog 136 := ⟨⟨_, Tryz.underlying136, fun _ h => by cases h⟩⟩
instance : StT Tryz.prog 136 #[(0, 2), (2, 1)] := ⟨⟨_, Tryz.underlying136, fun _ => by kernel_rfl⟩⟩
instance : FldT Tryz.prog 136 0 0 := ⟨fun _ _ => by kernel_rfl⟩
instance : FldT Tryz.prog 136 1 2 := ⟨fun _ _ => by kernel_rfl⟩
instance : Ty Tryz.prog 137 true 3 24 (.agg #[(.int .i64 0), (.int .i64 0), (.int .i64 0)]) := ⟨⟨by kernel_rfl, by kernel_rfl⟩⟩
instance : NIfT Tryz.prog 137 := ⟨⟨_, Tryz.underlying137, fun _ h => by cases h⟩⟩
instance : StT Tryz.prog 137 #[(0, 2), (2, 1)] := ⟨⟨_, Tryz.underlying137, fun _ => by kernel_rfl⟩⟩
instance : FldT Tryz.prog 137 0 0 := ⟨fun _ _ => by kernel_rfl⟩
instance : FldT Tryz.prog 137 1 2 := ⟨fun _ _ => by kernel_rfl⟩
instance : Ty Tryz.prog 138 false 1 8 .nilFunc := ⟨⟨by kernel_rfl, by kernel_rfl⟩⟩
instance : Ty Tryz.prog 139 false 1 8 .nilFunc := ⟨⟨by kernel_rfl, by kernel_rfl⟩⟩
instance : Ty Tryz.prog 140 false 1 8 .nilFunc := ⟨⟨by kernel_rfl, by kernel_rfl⟩⟩
instance : Ty Tryz.prog 141 false 1 24 (.slice none 0 0) := ⟨⟨by kernel_rfl, by kernel_rfl⟩⟩
instance : SlT Tryz.prog 141 166 := ⟨by kernel_rfl⟩
instance : Ty Tryz.prog 142 false 1 8 .nilFunc := ⟨⟨by kernel_rfl, by kernel_rfl⟩⟩
instance : Ty Tryz.prog 143 false 1 8 .nilFunc := ⟨⟨by kernel_rfl, by kernel_rfl⟩⟩
instance : Ty Tryz.prog 144 false 1 4 (.int .u32 0) := ⟨⟨by kernel_rfl, by kernel_rfl⟩⟩
instance : IntT Tryz.prog 144 .u32 := ⟨by kernel_rfl⟩
instance : Ty Tryz.prog 145 true 256 256 (.agg #[(.int .u8 0), (.int .u8 0), (.int .u8 0), (.int .u8 0), (.int .u8 0), (.int .u8 0), (.int .u8 0), (.int .u8 0), (.int .u8 0), (.int .u8 0), (.int .u8 0), (.int .u8 0), (.int .u8 0), (.int .u8 0), (.int .u8 0), (.int .u8 0), (.int .u8 0), (.int .u8 0), (.int .u8 0), (.int .u8 0), (.int .u8 0), (.int .u8 0), (.int .u8 0), (.int .u8 0), (.int .u8 0), (.int .u8 0), (.int .u8 0), (.int .u8 0), (.int .u8 0), (.int .u8 0), (.int .u8 0), (.int .u8 0), (.int .u8 0), (.int .u8 0), (.int .u8 0), (.int .u8 0), (.int .u8 0), (.int .u8 0), (.int .u8 0), (.int .u8 0), (.int .u8 0), (.int .u8 0), (.int .u8 0), (.int .u8 0), (.int .u8 0), (.int .u8 0), (.int .u8 0), (.int .u8 0), (.int .u8 0), (.int .u8 0), (.int .u8 0), (.int .u8 0), (.int .u8 0), (.int .u8 0), (.int .u8 0), (.int .u8 0), (.int .u8 0), (.int .u8 0), (.int .u8 0), (.int .u8 0), (.int .u8 0), (.int .u8 0), (.int .u8 0), (.int .u8 0), (.int .u8 0), (.int .u8 0), (.int .u8 0), (.int .u8 0), (.int .u8 0), (.int .u8 0), (.int .u8 0), (.int .u8 0), (.int .u8 0), (.int .u8 0), (.int .u8 0), (.int .u8 0), (.int .u8 0), (.int .u8 0), (.int .u8 0), (.int .u8 0), (.int .u8 0), (.int .u8 0), (.int .u8 0), (.int .u8 0), (.int .u8 0), (.int .u8 0), (.int .u8 0), (.int .u8 0), (.int .u8 0), (.int .u8 0), (.int .u8 0), (.int .u8 0), (.int .u8 0), (.int .u8 0), (.int .u8 0), (.int .u8 0), (.int .u8 0), (.int .u8 0), (.int .u8 0), (.int .u8 0), (.int .u8 0), (.int .u8 0), (.int .u8 0), (.int .u8 0), (.int .u8 0), (.int .u8 0), (.int .u8 0), (.int .u8 0), (.int .u8 0), (.int .u8 0), (.int .u8 0), (.int .u8 0), (.int .u8 0), (.int .u8 0), (.int .u8 0), (.int .u8 0), (.int .u8 0), (.int .u8 0), (.int .u8 0), (.int .u8 0), (.int .u8 0), (.int .u8 0), (.int .u8 0), (.int .u8 0), (.int .u8 0), (.int .u8 0), (.int .u8 0), (.int .u8 0), (.int .u8 0), (.int .u8 0), (.int .u8 0), (.int .u8 0), (.int .u8 0), (.int .u8 0), (.int .u8 0), (.int .u8 0), (.int .u8 0), (.int .u8 0), (.int .u8 0), (.int .u8 0), (.int .u8 0), (.int .u8 0), (.int .u8 0), (.int .u8 0), (.int .u8 0), (.int .u8 0), (.int .u8 0), (.int .u8 0), (.int .u8 0), (.int .u8 0), (.int .u8 0), (.int .u8 0), (.int .u8 0), (.int .u8 0), (.int .u8 0), (.int .u8 0), (.int .u8 0), (.int .u8 0), (.int .u8 0), (.int .u8 0), (.int .u8 0), (.int .u8 0), (.int .u8 0), (.int .u8 0), (.int .u8 0), (.int .u8 0), (.int .u8 0), (.int .u8 0), (.int .u8 0), (.int .u8 0), (.int .u8 0), (.int .u8 0), (.int .u8 0), (.int .u8 0), (.int .u8 0), (.int .u8 0), (.int .u8 0), (.int .u8 0), (.int .u8 0), (.int .u8 0), (.int .u8 0), (.int .u8 0), (.int .u8 0), (.int .u8 0), (.int .u8 0), (.int .u8 0), (.int .u8 0), (.int .u8 0), (.int .u8 0), (.int .u8 0), (.int .u8 0), (.int .u8 0), (.int .u8 0), (.int .u8 0), (.int .u8 0), (.int .u8 0), (.int .u8 0), (.int .u8 0), (.int .u8 0), (.int .u8 0), (.int .u8 0), (.int .u8 0), (.int .u8 0), (.int .u8 0), (.int .u8 0), (.int .u8 0), (.int .u8 0), (.int .u8 0), (.int .u8 0), (.int .u8 0), (.int .u8 0), (.int .u8 0), (.int .u8 0), (.int .u8 0), (.int .u8 0), (.int .u8 0), (.int .u8 0), (.int .u8 0), (.int .u8 0), (.int .u8 0), (.int .u8 0), (.int .u8 0), (.int .u8 0), (.int .u8 0), (.int .u8 0), (.int .u8 0), (.int .u8 0), (.int .u8 0), (.int .u8 0), (.int .u8 0), (.int .u8 0), (.int .u8 0), (.int .u8 0), (.int .u8 0), (.int .u8 0), (.int .u8 0), (.int .u8 0), (.int .u8 0), (.int .u8 0), (.int .u8 0), (.int .u8 0), (.int .u8 0), (.int .u8 0), (.int .u8 0), (.int .u8 0), (.int .u8 0), (.int .u8 0), (.int .u8 0), (.int .u8 0), (.int .u8 0), (.int .u8 0), (.int .u8 0), (.int .u8 0), (.int .u8 0), (.int .u8 0), (.int .u8 0)]) := ⟨⟨by kernel_rfl, by kernel_rfl⟩⟩
instance : ArT Tryz.prog 145 256 5 := ⟨by kernel_rfl⟩
instance : Ty Tryz.prog 146 false 1 8 (.int .u64 0) := ⟨⟨by kernel_rfl, by kernel_rfl⟩⟩
instance : IntT Tryz.prog 146 .u64 := ⟨by kernel_rfl⟩
instance : Ty Tryz.prog 147 true 2 2 (.agg #[(.int .u8 0), (.int .u8 0)]) := ⟨⟨by kernel_rfl, by kernel_rfl⟩⟩
instance : NIfT Tryz.prog 147 := ⟨⟨_, Tryz.underlying147, fun _ h => by cases h⟩⟩
instance : StT Tryz.prog 147 #[(0, 1), (1, 1)] := ⟨⟨_, Tryz.underlying147, fun _ => by kernel_rfl⟩⟩
instance : FldT Tryz.prog 147 0 0 := ⟨fun _ _ => by kernel_rfl⟩
instance : FldT Tryz.prog 147 1 1 := ⟨fun _ _ => by kernel_rfl⟩
instance : Ty Tryz.prog 148 true 2 2 (.agg #[(.int .u8 0), (.int .u8 0)]) := ⟨⟨by kernel_rfl, by kernel_rfl⟩⟩
instance : NIfT Tryz.prog 148 := ⟨⟨_, Tryz.underlying148, fun _ h => by cases h⟩⟩
instance : StT Tryz.prog 148 #[(0, 1), (1, 1)] := ⟨⟨_, Tryz.underlying148, fun _ => by kernel_rfl⟩⟩
instance : FldT Tryz.prog 148 0 0 := ⟨fun _ _ => by kernel_rfl⟩
instance : FldT Tryz.prog 148 1 1 := ⟨fun _ _ => by kernel_rfl⟩
instance : Ty Tryz.prog 149 true 32 32 (.agg #[(.int .u8 0), (.int .u8 0), (.int .u8 0), (.int .u8 0), (.int .u8 0), (.int .u8 0), (.int .u8 0), (.int .u8 0), (.int .u8 0), (.int .u8 0), (.int .u8 0), (.int .u8 0), (.int .u8 0), (.int .u8 0), (.int .u8 0), (.int .u8 0), (.int .u8 0), (.int .u8 0), (.int .u8 0), (.int .u8 0), (.int .u8 0), (.int .u8 0), (.int .u8 0), (.int .u8 0), (.int .u8 0), (.int .u8 0), (.int .u8 0), (.int .u8 0), (.int .u8 0), (.int .u8 0), (.int .u8 0), (.int .u8 0)]) := ⟨⟨by kernel_rfl, by kernel_rfl⟩⟩
instance : ArT Tryz.prog 149 16 148 := ⟨by kernel_rfl⟩
instance : Ty Tryz.prog 150 true 1 8 (.agg #[(.pointer none)]) := ⟨⟨by kernel_rfl, by kernel_rfl⟩⟩
instance : NIfT Tryz.prog 150 := ⟨⟨_, Tryz.underlying150, fun _ h => by cases h⟩⟩
instance : StT Tryz.prog 150 #[(0, 1)] := ⟨⟨_, Tryz.underlying150, fun _ => by kernel_rfl⟩⟩
instance : FldT Tryz.prog 150 0 0 := ⟨fun _ _ => by kernel_rfl⟩
instance : Ty Tryz.prog 151 true 1 8 (.agg #[(.pointer none)]) := ⟨⟨by kernel_rfl, by kernel_rfl⟩⟩
instance : NIfT Tryz.prog 151 := ⟨⟨_, Tryz.underlying151, fun _ h => by cases h⟩⟩
instance : StT Tryz.prog 151 #[(0, 1)] := ⟨⟨_, Tryz.underlying151, fun _ => by kernel_rfl⟩⟩
instance : FldT Tryz.prog 151 0 0 := ⟨fun _ _ => by kernel_rfl⟩
instance : Ty Tryz.prog 152 false 1 8 (.pointer none) := ⟨⟨by kernel_rfl, by kernel_rfl⟩⟩
instance : NIfT Tryz.prog 152 := ⟨⟨.pointer 188, by kernel_rfl, fun _ h => by cases h⟩⟩
instance : Ty Tryz.prog 153 false 1 8 .nilFunc := ⟨⟨by kernel_rfl, by kernel_rfl⟩⟩
instance : Ty Tryz.prog 154 false 1 8 .nilFunc := ⟨⟨by kernel_rfl, by kernel_rfl⟩⟩
instance : Ty Tryz.prog 155 false 1 8 .nilFunc := ⟨⟨by kernel_rfl, by kernel_rfl⟩⟩
instance : Ty Tryz.prog 156 false 1 16 .nilIface := ⟨⟨by kernel_rfl, by kernel_rfl⟩⟩
instance : IfT Tryz.prog 156 := ⟨⟨_, Tryz.underlying156⟩⟩
instance : Ty Tryz.prog 158 false 1 8 .nilFunc := ⟨⟨by kernel_rfl, by kernel_rfl⟩⟩
instance : Ty Tryz.prog 159 false 1 16 .nilIface := ⟨⟨by kernel_rfl, by kernel_rfl⟩⟩
instance : IfT Tryz.prog 159 := ⟨⟨_, Tryz.underlying159⟩⟩
instance : Ty Tryz.prog 160 false 1 8 .nilFunc := ⟨⟨by kernel_rfl, by kernel_rfl⟩⟩
instance : Ty Tryz.prog 161 false 1 16 .nilIface := ⟨⟨by kernel_rfl, by kernel_rfl⟩⟩
instance : IfT Tryz.prog 161 := ⟨⟨_, Tryz.underlying161⟩⟩
instance : Ty Tryz.prog 162 false 1 24 (.slice none 0 0) := ⟨⟨by kernel_rfl, by kernel_rfl⟩⟩
instance : SlT Tryz.prog 162 49 := ⟨by kernel_rfl⟩
instance : Ty Tryz.prog 163 false 1 8 .nilFunc := ⟨⟨by kernel_rfl, by kernel_rfl⟩⟩
instance : Ty Tryz.prog 164 false 1 8 .nilFunc := ⟨⟨by kernel_rfl, by kernel_rfl⟩⟩
instance : Ty Tryz.prog 165 true 3 24 (.agg #[(.int .i64 0), (.int .i64 0), (.int .i64 0)]) := ⟨⟨by kernel_rfl, by kernel_rfl⟩⟩
instance : NIfT Tryz.prog 165 := ⟨⟨_, Tryz.underlying165, fun _ h => by cases h⟩⟩
instance : EqTI Tryz.prog 165 3 := ⟨by kernel_rfl, by kernel_rfl, by kernel_rfl, by kernel_rfl, by kernel_rfl⟩
instance : StT Tryz.prog 165 #[(0, 1), (1, 1), (2, 1)] := ⟨⟨_, Tryz.underlying165, fun _ => by kernel_rfl⟩⟩
instance : FldT Tryz.prog 165 0 0 := ⟨fun _ _ => by kernel_rfl⟩
instance : FldT Tryz.prog 165 1 1 := ⟨fun _ _ => by kernel_rfl⟩
instance : FldT Tryz.prog 165 2 2 := ⟨fun _ _ => by kernel_rfl⟩
instance : Ty Tryz.prog 166 true 3 24 (.agg #[(.int .i64 0), (.int .i64 0), (.int .i64 0)]) := ⟨⟨by kernel_rfl, by kernel_rfl⟩⟩
instance : NIfT Tryz.prog 166 := ⟨⟨_, Tryz.underlying166, fun _ h => by cases h⟩⟩
instance : EqTI Tryz.prog 166 3 := ⟨by kernel_rfl, by kernel_rfl, by kernel_rfl, by kernel_rfl, by kernel_rfl⟩
instance : StT Tryz.prog 166 #[(0, 1), (1, 1), (2, 1)] := ⟨⟨_, Tryz.underlying166, fun _ => by kernel_rfl⟩⟩
instance : FldT Tryz.prog 166 0 0 := ⟨fun _ _ => by kernel_rfl⟩
instance : FldT Tryz.prog 166 1 1 := ⟨fun _ _ => by kernel_rfl⟩
instance : FldT Tryz.prog 166 2 2 := ⟨fun _ _ => by kernel_rfl⟩
instance : Ty Tryz.prog 167 false 1 8 .nilFunc := ⟨⟨by kernel_rfl, by kernel_rfl⟩⟩
instance : Ty Tryz.prog 168 false 1 8 .nilFunc := ⟨⟨by kernel_rfl, by kernel_rfl⟩⟩
instance : Ty Tryz.prog 169 false 1 8 .nilFunc := ⟨⟨by kernel_rfl, by kernel_rfl⟩⟩
instance : Ty Tryz.prog 170 false 1 8 .nilFunc := ⟨⟨by kernel_rfl, by kernel_rfl⟩⟩
instance : Ty Tryz.prog 171 true 4 40 (.agg #[(.pointer none), (.pointer none), (.pointer none), (.string ⟨#[]⟩)]) := ⟨⟨by kernel_rfl, by kernel_rfl⟩⟩
instance : NIfT Tryz.prog 171 := ⟨⟨_, Tryz.underlying171, fun _ h => by cases h⟩⟩
instance : StT Tryz.prog 171 #[(0, 1), (1, 1), (2, 1), (3, 1)] := ⟨⟨_, Tryz.underlying171, fun _ => by kernel_rfl⟩⟩
instance : FldT Tryz.prog 171 0 0 := ⟨fun _ _ => by kernel_rfl⟩
instance : FldT Tryz.prog 171 1 1 := ⟨fun _ _ => by kernel_rfl⟩
instance : FldT Tryz.prog 171 2 2 := ⟨fun _ _ => by kernel_rfl⟩
instance : FldT Tryz.prog 171 3 3 := ⟨fun _ _ => by kernel_rfl⟩
instance : Ty Tryz.prog 172 true 4 40 (.agg #[(.pointer none), (.pointer none), (.pointer none), (.string ⟨#[]⟩)]) := ⟨⟨by kernel_rfl, by kernel_rfl⟩⟩
instance : NIfT Tryz.prog 172 := ⟨⟨_, Tryz.underlying172, fun _ h => by cases h⟩⟩
instance : StT Tryz.prog 172 #[(0, 1), (1, 1), (2, 1), (3, 1)] := ⟨⟨_, Tryz.underlying172, fun _ => by kernel_rfl⟩⟩
instance : FldT Tryz.prog 172 0 0 := ⟨fun _ _ => by kernel_rfl⟩
instance : FldT Tryz.prog 172 1 1 := ⟨fun _ _ => by kernel_rfl⟩
instance : FldT Tryz.prog 172 2 2 := ⟨fun _ _ => by kernel_rfl⟩
instance : FldT Tryz.prog 172 3 3 := ⟨fun _ _ => by kernel_rfl⟩
instance : ArT Tryz.prog 173 0 16 := ⟨by kernel_rfl⟩
instance : NIfT Tryz.prog 174 := ⟨⟨_, Tryz.underlying174, fun _ h => by cases h⟩⟩
instance : StT Tryz.prog 174 #[(0, 0)] := ⟨⟨_, Tryz.underlying174, fun _ => by kernel_rfl⟩⟩
instance : NIfT Tryz.prog 175 := ⟨⟨_, Tryz.underlying175, fun _ h => by cases h⟩⟩
instance : StT Tryz.prog 175 #[(0, 0)] := ⟨⟨_, Tryz.underlying175, fun _ => by kernel_rfl⟩⟩
instance : Ty Tryz.prog 176 false 1 8 .nilFunc := ⟨⟨by kernel_rfl, by kernel_rfl⟩⟩
instance : Ty Tryz.prog 177 false 1 8 .nilFunc := ⟨⟨by kernel_rfl, by kernel_rfl⟩⟩
instance : Ty Tryz.prog 178 false 1 1 (.int .u8 0) := ⟨⟨by kernel_rfl, by kernel_rfl⟩⟩
instance : IntT Tryz.prog 178 .u8 := ⟨by kernel_rfl⟩
instance : Ty Tryz.prog 179 false 1 8 .nilFunc := ⟨⟨by kernel_rfl, by kernel_rfl⟩⟩
instance : Ty Tryz.prog 180 false 1 8 (.pointer none) := ⟨⟨by kernel_rfl, by kernel_rfl⟩⟩
instance : NIfT Tryz.prog 180 := ⟨⟨.pointer 5, by kernel_rfl, fun _ h => by cases h⟩⟩
instance : Ty Tryz.prog 181 false 1 4 (.int .i32 0) := ⟨⟨by kernel_rfl, by kernel_rfl⟩⟩
instance : IntT Tryz.prog 181 .i32 := ⟨by kernel_rfl⟩
instance : Ty Tryz.prog 182 false 1 4 (.int .i32 0) := ⟨⟨by kernel_rfl, by kernel_rfl⟩⟩
instance : IntT Tryz.prog 182 .i32 := ⟨by kernel_rfl⟩
instance : Ty Tryz.prog 183 true 11 48 (.agg #[(.int .u64 0), (.int .u64 0), (.int .u32 0), (.int .u8 0), (.int .u8 0), (.int .u8 0), (.int .u8 0), .nilFunc, (.pointer none), (.int .i32 0), (.int .i32 0)]) := ⟨⟨by kernel_rfl, by kernel_rfl⟩⟩
instance : NIfT Tryz.prog 183 := ⟨⟨_, Tryz.underlying183, fun _ h => by cases h⟩⟩
instance : StT Tryz.prog 183 #[(0, 1), (1, 1), (2, 1), (3, 1), (4, 1), (5, 1), (6, 1), (7, 1), (8, 1), (9, 1), (10, 1)] := ⟨⟨_, Tryz.underlying183, fun _ => by kernel_rfl⟩⟩
instance : FldT Tryz.prog 183 0 0 := ⟨fun _ _ => by kernel_rfl⟩
instance : FldT Tryz.prog 183 1 1 := ⟨fun _ _ => by kernel_rfl⟩
instance : FldT Tryz.prog 183 2 2 := ⟨fun _ _ => by kernel_rfl⟩
instance : FldT Tryz.prog 183 3 3 := ⟨fun _ _ => by kernel_rfl⟩
instance : FldT Tryz.prog 183 4 4 := ⟨fun _ _ => by kernel_rfl⟩
instance : FldT Tryz.prog 183 5 5 := ⟨fun _ _ => by kernel_rfl⟩
instance : FldT Tryz.prog 183 6 6 := ⟨fun _ _ => by kernel_rfl⟩
instance : FldT Tryz.prog 183 7 7 := ⟨fun _ _ => by kernel_rfl⟩
instance : FldT Tryz.prog 183 8 8 := ⟨fun _ _ => by kernel_rfl⟩
instance : FldT Tryz.prog 183 9 9 := ⟨fun _ _ => by kernel_rfl⟩
instance : FldT Tryz.prog 183 10 10 := ⟨fun _ _ => by kernel_rfl⟩
instance : Ty Tryz.prog 184 true 11 48 (.agg #[(.int .u64 0), (.int .u64 0), (.int .u32 0), (.int .u8 0), (.int .u8 0), (.int .u8 0), (.int .u8 0), .nilFunc, (.pointer none), (.int .i32 0), (.int .i32 0)]) := ⟨⟨by kernel_rfl, by kernel_rfl⟩⟩
instance : NIfT Tryz.prog 184 := ⟨⟨_, Tryz.underlying184, fun _ h => by cases h⟩⟩
instance : StT Tryz.prog 184 #[(0, 1), (1, 1), (2, 1), (3, 1), (4, 1), (5, 1), (6, 1), (7, 1), (8, 1), (9, 1), (10, 1)] := ⟨⟨_, Tryz.underlying184, fun _ => by kernel_rfl⟩⟩
instance : FldT Tryz.prog 184 0 0 := ⟨fun _ _ => by kernel_rfl⟩
instance : FldT Tryz.prog 184 1 1 := ⟨fun _ _ => by kernel_rfl⟩
instance : FldT Tryz.prog 184 2 2 := ⟨fun _ _ => by kernel_rfl⟩
instance : FldT Tryz.prog 184 3 3 := ⟨fun _ _ => by kernel_rfl⟩
instance : FldT Tryz.prog 184 4 4 := ⟨fun _ _ => by kernel_rfl⟩
instance : FldT Tryz.prog 184 5 5 := ⟨fun _ _ => by kernel_rfl⟩
instance : FldT Tryz.prog 184 6 6 := ⟨fun _ _ => by kernel_rfl⟩
instance : FldT Tryz.prog 184 7 7 := ⟨fun _ _ => by kernel_rfl⟩
instance : FldT Tryz.prog 184 8 8 := ⟨fun _ _ => by kernel_rfl⟩
instance : FldT Tryz.prog 184 9 9 := ⟨fun _ _ => by kernel_rfl⟩
instance : FldT Tryz.prog 184 10 10 := ⟨fun _ _ => by kernel_rfl⟩
instance : Ty Tryz.prog 185 false 1 8 .nilFunc := ⟨⟨by kernel_rfl, by kernel_rfl⟩⟩
instance : Ty Tryz.prog 186 false 1 8 .nilFunc := ⟨⟨by kernel_rfl, by kernel_rfl⟩⟩
instance : Ty Tryz.prog 187 true 2 24 (.agg #[(.string ⟨#[]⟩), (.int .u8 0)]) := ⟨⟨by kernel_rfl, by kernel_rfl⟩⟩
instance : NIfT Tryz.prog 187 := ⟨⟨_, Tryz.underlying187, fun _ h => by cases h⟩⟩
instance : StT Tryz.prog 187 #[(0, 1), (1, 1)] := ⟨⟨_, Tryz.underlying187, fun _ => by kernel_rfl⟩⟩
instance : FldT Tryz.prog 187 0 0 := ⟨fun _ _ => by kernel_rfl⟩
instance : FldT Tryz.prog 187 1 1 := ⟨fun _ _ => by kernel_rfl⟩
instance : Ty Tryz.prog 188 true 2 24 (.agg #[(.string ⟨#[]⟩), (.int .u8 0)]) := ⟨⟨by kernel_rfl, by kernel_rfl⟩⟩
instance : NIfT Tryz.prog 188 := ⟨⟨_, Tryz.underlying188, fun _ h => by cases h⟩⟩
instance : StT Tryz.prog 188 #[(0, 1), (1, 1)] := ⟨⟨_, Tryz.underlying188, fun _ => by kernel_rfl⟩⟩
instance : FldT Tryz.prog 188 0 0 := ⟨fun _ _ => by kernel_rfl⟩
instance : FldT Tryz.prog 188 1 1 := ⟨fun _ _ => by kernel_rfl⟩
instance : Ty Tryz.prog 189 false 1 8 (.pointer none) := ⟨⟨by kernel_rfl, by kernel_rfl⟩⟩
instance : NIfT Tryz.prog 189 := ⟨⟨.pointer 193, by kernel_rfl, fun _ h => by cases h⟩⟩
instance : Ty Tryz.prog 190 false 1 8 .nilFunc := ⟨⟨by kernel_rfl, by kernel_rfl⟩⟩
instance : Ty Tryz.prog 191 false 1 2 (.int .u16 0) := ⟨⟨by kernel_rfl, by kernel_rfl⟩⟩
instance : IntT Tryz.prog 191 .u16 := ⟨by kernel_rfl⟩
instance : Ty Tryz.prog 192 true 5 16 (.agg #[(.int .i32 0), (.int .u16 0), (.int .u16 0), (.int .u32 0), (.int .u32 0)]) := ⟨⟨by kernel_rfl, by kernel_rfl⟩⟩
instance : NIfT Tryz.prog 192 := ⟨⟨_, Tryz.underlying192, fun _ h => by cases h⟩⟩
instance : StT Tryz.prog 192 #[(0, 1), (1, 1), (2, 1), (3, 1), (4, 1)] := ⟨⟨_, Tryz.underlying192, fun _ => by kernel_rfl⟩⟩
instance : FldT Tryz.prog 192 0 0 := ⟨fun _ _ => by kernel_rfl⟩
instance : FldT Tryz.prog 192 1 1 := ⟨fun _ _ => by kernel_rfl⟩
instance : FldT Tryz.prog 192 2 2 := ⟨fun _ _ => by kernel_rfl⟩
instance : FldT Tryz.prog 192 3 3 := ⟨fun _ _ => by kernel_rfl⟩
instance : FldT Tryz.prog 192 4 4 := ⟨fun _ _ => by kernel_rfl⟩
instance : Ty Tryz.prog 193 true 5 16 (.agg #[(.int .i32 0), (.int .u16 0), (.int .u16 0), (.int .u32 0), (.int .u32 0)]) := ⟨⟨by kernel_rfl, by kernel_rfl⟩⟩
instance : NIfT Tryz.prog 193 := ⟨⟨_, Tryz.underlying193, fun _ h => by cases h⟩⟩
instance : StT Tryz.prog 193 #[(0, 1), (1, 1), (2, 1), (3, 1), (4, 1)] := ⟨⟨_, Tryz.underlying193, fun _ => by kernel_rfl⟩⟩
instance : FldT Tryz.prog 193 0 0 := ⟨fun _ _ => by kernel_rfl⟩
instance : FldT Tryz.prog 193 1 1 := ⟨fun _ _ => by kernel_rfl⟩
instance : FldT Tryz.prog 193 2 2 := ⟨fun _ _ => by kernel_rfl⟩
instance : FldT Tryz.prog 193 3 3 := ⟨fun _ _ => by kernel_rfl⟩
instance : FldT Tryz.prog 193 4 4 := ⟨fun _ _ => by kernel_rfl⟩
instance : Ty Tryz.prog 194 false 1 24 (.slice none 0 0) := ⟨⟨by kernel_rfl, by kernel_rfl⟩⟩
instance : SlT Tryz.prog 194 197 := ⟨by kernel_rfl⟩
instance : Ty Tryz.prog 195 false 1 4 (.int .i32 0) := ⟨⟨by kernel_rfl, by kernel_rfl⟩⟩
instance : IntT Tryz.prog 195 .i32 := ⟨by kernel_rfl⟩
instance : Ty Tryz.prog 196 true 4 16 (.agg #[(.int .i32 0), (.int .i32 0), (.int .i32 0), (.int .i32 0)]) := ⟨⟨by kernel_rfl, by kernel_rfl⟩⟩
instance : NIfT Tryz.prog 196 := ⟨⟨_, Tryz.underlying196, fun _ h => by cases h⟩⟩
instance : StT Tryz.prog 196 #[(0, 1), (1, 1), (2, 1), (3, 1)] := ⟨⟨_, Tryz.underlying196, fun _ => by kernel_rfl⟩⟩
instance : FldT Tryz.prog 196 0 0 := ⟨fun _ _ => by kernel_rfl⟩
instance : FldT Tryz.prog 196 1 1 := ⟨fun _ _ => by kernel_rfl⟩
instance : FldT Tryz.prog 196 2 2 := ⟨fun _ _ => by kernel_rfl⟩
instance : FldT Tryz.prog 196 3 3 := ⟨fun _ _ => by kernel_rfl⟩
instance : Ty Tryz.prog 197 true 4 16 (.agg #[(.int .i32 0), (.int .i32 0), (.int .i32 0), (.int .i32 0)]) := ⟨⟨by kernel_rfl, by kernel_rfl⟩⟩
instance : NIfT Tryz.prog 197 := ⟨⟨_, Tryz.underlying197, fun _ h => by cases h⟩⟩
instance : StT Tryz.prog 197 #[(0, 1), (1, 1), (2, 1), (3, 1)] := ⟨⟨_, Tryz.underlying197, fun _ => by kernel_rfl⟩⟩
instance : FldT Tryz.prog 197 0 0 := ⟨fun _ _ => by kernel_rfl⟩
instance : FldT Tryz.prog 197 1 1 := ⟨fun _ _ => by kernel_rfl⟩
instance : FldT Tryz.prog 197 2 2 := ⟨fun _ _ => by kernel_rfl⟩
instance : FldT Tryz.prog 197 3 3 := ⟨fun _ _ => by kernel_rfl⟩
instance : Ty Tryz.prog 198 false 1 8 (.pointer none) := ⟨⟨by kernel_rfl, by kernel_rfl⟩⟩
instance : NIfT Tryz.prog 198 := ⟨⟨.pointer 49, by kernel_rfl, fun _ h => by cases h⟩⟩
instance : FvT Tryz.prog 7 0 0 := FvT.mk' (ft := 2) Tryz.underlying7 rfl rfl rfl
instance : FvT Tryz.prog 7 1 1 := FvT.mk' (ft := 3) Tryz.underlying7 rfl rfl rfl
instance : FvT Tryz.prog 7 2 2 := FvT.mk' (ft := 4) Tryz.underlying7 rfl rfl rfl
instance : FvT Tryz.prog 7 3 3 := FvT.mk' (ft := 6) Tryz.underlying7 rfl rfl rfl
instance : FvT Tryz.prog 8 0 0 := FvT.mk' (ft := 2) Tryz.underlying8 rfl rfl rfl
instance : FvT Tryz.prog 8 1 1 := FvT.mk' (ft := 3) Tryz.underlying8 rfl rfl rfl
instance : FvT Tryz.prog 8 2 2 := FvT.mk' (ft := 4) Tryz.underlying8 rfl rfl rfl
instance : FvT Tryz.prog 8 3 3 := FvT.mk' (ft := 6) Tryz.underlying8 rfl rfl rfl
instance : FvT Tryz.prog 13 0 0 := FvT.mk' (ft := 9) Tryz.underlying13 rfl rfl rfl
instance : FvT Tryz.prog 13 1 1 := FvT.mk' (ft := 12) Tryz.underlying13 rfl rfl rfl
instance : FvT Tryz.prog 14 0 0 := FvT.mk' (ft := 9) Tryz.underlying14 rfl rfl rfl
instance : FvT Tryz.prog 14 1 1 := FvT.mk' (ft := 12) Tryz.underlying14 rfl rfl rfl
instance : PtT Tryz.prog 15 := PtT.mk' (te := 172) (by kernel_rfl) (by decide)
instance : PtT Tryz.prog 17 := PtT.mk' (te := 184) (by kernel_rfl) (by decide)
instance : FvT Tryz.prog 18 0 0 := FvT.mk' (ft := 17) Tryz.underlying18 rfl rfl rfl
instance : FvT Tryz.prog 19 0 0 := FvT.mk' (ft := 17) Tryz.underlying19 rfl rfl rfl
instance : FvT Tryz.prog 24 0 0 := FvT.mk' (ft := 9) Tryz.underlying24 rfl rfl rfl
instance : FvT Tryz.prog 24 1 1 := FvT.mk' (ft := 3) Tryz.underlying24 rfl rfl rfl
instance : FvT Tryz.prog 24 2 2 := FvT.mk' (ft := 3) Tryz.underlying24 rfl rfl rfl
instance : FvT Tryz.prog 24 3 3 := FvT.mk' (ft := 3) Tryz.underlying24 rfl rfl rfl
instance : FvT Tryz.prog 24 4 4 := FvT.mk' (ft := 3) Tryz.underlying24 rfl rfl rfl
instance : FvT Tryz.prog 24 5 5 := FvT.mk' (ft := 23) Tryz.underlying24 rfl rfl rfl
instance : FvT Tryz.prog 25 0 0 := FvT.mk' (ft := 9) Tryz.underlying25 rfl rfl rfl
instance : FvT Tryz.prog 25 1 1 := FvT.mk' (ft := 3) Tryz.underlying25 rfl rfl rfl
instance : FvT Tryz.prog 25 2 2 := FvT.mk' (ft := 3) Tryz.underlying25 rfl rfl rfl
instance : FvT Tryz.prog 25 3 3 := FvT.mk' (ft := 3) Tryz.underlying25 rfl rfl rfl
instance : FvT Tryz.prog 25 4 4 := FvT.mk' (ft := 3) Tryz.underlying25 rfl rfl rfl
instance : FvT Tryz.prog 25 5 5 := FvT.mk' (ft := 23) Tryz.underlying25 rfl rfl rfl
instance : PtT Tryz.prog 40 := PtT.mk' (te := 69) (by kernel_rfl) (by decide)
instance : PtT Tryz.prog 47 := PtT.mk' (te := 82) (by kernel_rfl) (by decide)
instance : FvT Tryz.prog 61 0 0 := FvT.mk' (ft := 3) Tryz.underlying61 rfl rfl rfl
instance : FvT Tryz.prog 61 1 1 := FvT.mk' (ft := 3) Tryz.underlying61 rfl rfl rfl
instance : FvT Tryz.prog 61 2 2 := FvT.mk' (ft := 3) Tryz.underlying61 rfl rfl rfl
instance : FvT Tryz.prog 61 3 3 := FvT.mk' (ft := 3) Tryz.underlying61 rfl rfl rfl
instance : FvT Tryz.prog 62 0 0 := FvT.mk' (ft := 3) Tryz.underlying62 rfl rfl rfl
instance : FvT Tryz.prog 62 1 1 := FvT.mk' (ft := 3) Tryz.underlying62 rfl rfl rfl
instance : FvT Tryz.prog 62 2 2 := FvT.mk' (ft := 3) Tryz.underlying62 rfl rfl rfl
instance : FvT Tryz.prog 62 3 3 := FvT.mk' (ft := 3) Tryz.underlying62 rfl rfl rfl
instance : FvT Tryz.prog 68 0 0 := FvT.mk' (ft := 22) Tryz.underlying68 rfl rfl rfl
instance : FvT Tryz.prog 68 1 1 := FvT.mk' (ft := 3) Tryz.underlying68 rfl rfl rfl
instance : FvT Tryz.prog 69 0 0 := FvT.mk' (ft := 22) Tryz.underlying69 rfl rfl rfl
instance : FvT Tryz.prog 69 1 1 := FvT.mk' (ft := 3) Tryz.underlying69 rfl rfl rfl
instance : PtT Tryz.prog 76 := PtT.mk' (te := 78) (by kernel_rfl) (by decide)
instance : FvT Tryz.prog 77 0 0 := FvT.mk' (ft := 3) Tryz.underlying77 rfl rfl rfl
instance : FvT Tryz.prog 78 0 0 := FvT.mk' (ft := 3) Tryz.underlying78 rfl rfl rfl
instance : FvT Tryz.prog 81 1 6 := FvT.mk' (ft := 31) Tryz.underlying81 rfl rfl rfl
instance : FvT Tryz.prog 81 2 7 := FvT.mk' (ft := 3) Tryz.underlying81 rfl rfl rfl
instance : FvT Tryz.prog 82 1 6 := FvT.mk' (ft := 31) Tryz.underlying82 rfl rfl rfl
instance : FvT Tryz.prog 82 2 7 := FvT.mk' (ft := 3) Tryz.underlying82 rfl rfl rfl
instance : PtT Tryz.prog 83 := PtT.mk' (te := 112) (by kernel_rfl) (by decide)
instance : PtT Tryz.prog 97 := PtT.mk' (te := 76) (by kernel_rfl) (by decide)
instance : FvT Tryz.prog 100 0 0 := FvT.mk' (ft := 3) Tryz.underlying100 rfl rfl rfl
instance : FvT Tryz.prog 100 1 1 := FvT.mk' (ft := 3) Tryz.underlying100 rfl rfl rfl
instance : FvT Tryz.prog 101 0 0 := FvT.mk' (ft := 3) Tryz.underlying101 rfl rfl rfl
instance : FvT Tryz.prog 101 1 1 := FvT.mk' (ft := 3) Tryz.underlying101 rfl rfl rfl
instance : FvT Tryz.prog 111 0 0 := FvT.mk' (ft := 31) Tryz.underlying111 rfl rfl rfl
instance : FvT Tryz.prog 111 1 1 := FvT.mk' (ft := 31) Tryz.underlying111 rfl rfl rfl
instance : FvT Tryz.prog 111 2 2 := FvT.mk' (ft := 110) Tryz.underlying111 rfl rfl rfl
instance : FvT Tryz.prog 111 3 3 := FvT.mk' (ft := 110) Tryz.underlying111 rfl rfl rfl
instance : FvT Tryz.prog 112 0 0 := FvT.mk' (ft := 31) Tryz.underlying112 rfl rfl rfl
instance : FvT Tryz.prog 112 1 1 := FvT.mk' (ft := 31) Tryz.underlying112 rfl rfl rfl
instance : FvT Tryz.prog 112 2 2 := FvT.mk' (ft := 110) Tryz.underlying112 rfl rfl rfl
instance : FvT Tryz.prog 112 3 3 := FvT.mk' (ft := 110) Tryz.underlying112 rfl rfl rfl
instance : FvT Tryz.prog 119 0 0 := FvT.mk' (ft := 3) Tryz.underlying119 rfl rfl rfl
instance : FvT Tryz.prog 119 1 1 := FvT.mk' (ft := 3) Tryz.underlying119 rfl rfl rfl
instance : FvT Tryz.prog 120 0 0 := FvT.mk' (ft := 3) Tryz.underlying120 rfl rfl rfl
instance : FvT Tryz.prog 120 1 1 := FvT.mk' (ft := 3) Tryz.underlying120 rfl rfl rfl
instance : FvT Tryz.prog 124 0 0 := FvT.mk' (ft := 17) Tryz.underlying124 rfl rfl rfl
instance : FvT Tryz.prog 124 1 1 := FvT.mk' (ft := 122) Tryz.underlying124 rfl rfl rfl
instance : FvT Tryz.prog 124 2 2 := FvT.mk' (ft := 123) Tryz.underlying124 rfl rfl rfl
instance : FvT Tryz.prog 125 0 0 := FvT.mk' (ft := 17) Tryz.underlying125 rfl rfl rfl
instance : FvT Tryz.prog 125 1 1 := FvT.mk' (ft := 122) Tryz.underlying125 rfl rfl rfl
instance : FvT Tryz.prog 125 2 2 := FvT.mk' (ft := 123) Tryz.underlying125 rfl rfl rfl
instance : PtT Tryz.prog 135 := PtT.mk' (te := 65) (by kernel_rfl) (by decide)
instance : FvT Tryz.prog 136 1 2 := FvT.mk' (ft := 3) Tryz.underlying136 rfl rfl rfl
instance : FvT Tryz.prog 137 1 2 := FvT.mk' (ft := 3) Tryz.underlying137 rfl rfl rfl
instance : FvT Tryz.prog 147 0 0 := FvT.mk' (ft := 5) Tryz.underlying147 rfl rfl rfl
instance : FvT Tryz.prog 147 1 1 := FvT.mk' (ft := 5) Tryz.underlying147 rfl rfl rfl
instance : FvT Tryz.prog 148 0 0 := FvT.mk' (ft := 5) Tryz.underlying148 rfl rfl rfl
instance : FvT Tryz.prog 148 1 1 := FvT.mk' (ft := 5) Tryz.underlying148 rfl rfl rfl
instance : FvT Tryz.prog 150 0 0 := FvT.mk' (ft := 17) Tryz.underlying150 rfl rfl rfl
instance : FvT Tryz.prog 151 0 0 := FvT.mk' (ft := 17) Tryz.underlying151 rfl rfl rfl
instance : PtT Tryz.prog 152 := PtT.mk' (te := 188) (by kernel_rfl) (by decide)
instance : FvT Tryz.prog 165 0 0 := FvT.mk' (ft := 3) Tryz.underlying165 rfl rfl rfl
instance : FvT Tryz.prog 165 1 1 := FvT.mk' (ft := 3) Tryz.underlying165 rfl rfl rfl
instance : FvT Tryz.prog 165 2 2 := FvT.mk' (ft := 3) Tryz.underlying165 rfl rfl rfl
instance : FvT Tryz.prog 166 0 0 := FvT.mk' (ft := 3) Tryz.underlying166 rfl rfl rfl
instance : FvT Tryz.prog 166 1 1 := FvT.mk' (ft := 3) Tryz.underlying166 rfl rfl rfl
instance : FvT Tryz.prog 166 2 2 := FvT.mk' (ft := 3) Tryz.underlying166 rfl rfl rfl
instance : FvT Tryz.prog 171 0 0 := FvT.mk' (ft := 17) Tryz.underlying171 rfl rfl rfl
instance : FvT Tryz.prog 171 1 1 := FvT.mk' (ft := 17) Tryz.underlying171 rfl rfl rfl
instance : FvT Tryz.prog 171 2 2 := FvT.mk' (ft := 17) Tryz.underlying171 rfl rfl rfl
instance : FvT Tryz.prog 171 3 3 := FvT.mk' (ft := 9) Tryz.underlying171 rfl rfl rfl
instance : FvT Tryz.prog 172 0 0 := FvT.mk' (ft := 17) Tryz.underlying172 rfl rfl rfl
instance : FvT Tryz.prog 172 1 1 := FvT.mk' (ft := 17) Tryz.underlying172 rfl rfl rfl
instance : FvT Tryz.prog 172 2 2 := FvT.mk' (ft := 17) Tryz.underlying172 rfl rfl rfl
instance : FvT Tryz.prog 172 3 3 := FvT.mk' (ft := 9) Tryz.underlying172 rfl rfl rfl
instance : PtT Tryz.prog 180 := PtT.mk' (te := 5) (by kernel_rfl) (by decide)
instance : FvT Tryz.prog 183 0 0 := FvT.mk' (ft := 12) Tryz.underlying183 rfl rfl rfl
instance : FvT Tryz.prog 183 1 1 := FvT.mk' (ft := 12) Tryz.underlying183 rfl rfl rfl
instance : FvT Tryz.prog 183 2 2 := FvT.mk' (ft := 144) Tryz.underlying183 rfl rfl rfl
instance : FvT Tryz.prog 183 3 3 := FvT.mk' (ft := 178) Tryz.underlying183 rfl rfl rfl
instance : FvT Tryz.prog 183 4 4 := FvT.mk' (ft := 5) Tryz.underlying183 rfl rfl rfl
instance : FvT Tryz.prog 183 5 5 := FvT.mk' (ft := 5) Tryz.underlying183 rfl rfl rfl
instance : FvT Tryz.prog 183 6 6 := FvT.mk' (ft := 130) Tryz.underlying183 rfl rfl rfl
instance : FvT Tryz.prog 183 7 7 := FvT.mk' (ft := 179) Tryz.underlying183 rfl rfl rfl
instance : FvT Tryz.prog 183 8 8 := FvT.mk' (ft := 180) Tryz.underlying183 rfl rfl rfl
instance : FvT Tryz.prog 183 9 9 := FvT.mk' (ft := 181) Tryz.underlying183 rfl rfl rfl
instance : FvT Tryz.prog 183 10 10 := FvT.mk' (ft := 182) Tryz.underlying183 rfl rfl rfl
instance : FvT Tryz.prog 184 0 0 := FvT.mk' (ft := 12) Tryz.underlying184 rfl rfl rfl
instance : FvT Tryz.prog 184 1 1 := FvT.mk' (ft := 12) Tryz.underlying184 rfl rfl rfl
instance : FvT Tryz.prog 184 2 2 := FvT.mk' (ft := 144) Tryz.underlying184 rfl rfl rfl
instance : FvT Tryz.prog 184 3 3 := FvT.mk' (ft := 178) Tryz.underlying184 rfl rfl rfl
instance : FvT Tryz.prog 184 4 4 := FvT.mk' (ft := 5) Tryz.underlying184 rfl rfl rfl
instance : FvT Tryz.prog 184 5 5 := FvT.mk' (ft := 5) Tryz.underlying184 rfl rfl rfl
instance : FvT Tryz.prog 184 6 6 := FvT.mk' (ft := 130) Tryz.underlying184 rfl rfl rfl
instance : FvT Tryz.prog 184 7 7 := FvT.mk' (ft := 179) Tryz.underlying184 rfl rfl rfl
instance : FvT Tryz.prog 184 8 8 := FvT.mk' (ft := 180) Tryz.underlying184 rfl rfl rfl
instance : FvT Tryz.prog 184 9 9 := FvT.mk' (ft := 181) Tryz.underlying184 rfl rfl rfl
instance : FvT Tryz.prog 184 10 10 := FvT.mk' (ft := 182) Tryz.underlying184 rfl rfl rfl
instance : FvT Tryz.prog 187 0 0 := FvT.mk' (ft := 9) Tryz.underlying187 rfl rfl rfl
instance : FvT Tryz.prog 187 1 1 := FvT.mk' (ft := 130) Tryz.underlying187 rfl rfl rfl
instance : FvT Tryz.prog 188 0 0 := FvT.mk' (ft := 9) Tryz.underlying188 rfl rfl rfl
instance : FvT Tryz.prog 188 1 1 := FvT.mk' (ft := 130) Tryz.underlying188 rfl rfl rfl
instance : PtT Tryz.prog 189 := PtT.mk' (te := 193) (by kernel_rfl) (by decide)
instance : FvT Tryz.prog 192 0 0 := FvT.mk' (ft := 181) Tryz.underlying192 rfl rfl rfl
instance : FvT Tryz.prog 192 1 1 := FvT.mk' (ft := 191) Tryz.underlying192 rfl rfl rfl
instance : FvT Tryz.prog 192 2 2 := FvT.mk' (ft := 191) Tryz.underlying192 rfl rfl rfl
instance : FvT Tryz.prog 192 3 3 := FvT.mk' (ft := 144) Tryz.underlying192 rfl rfl rfl
instance : FvT Tryz.prog 192 4 4 := FvT.mk' (ft := 144) Tryz.underlying192 rfl rfl rfl
instance : FvT Tryz.prog 193 0 0 := FvT.mk' (ft := 181) Tryz.underlying193 rfl rfl rfl
instance : FvT Tryz.prog 193 1 1 := FvT.mk' (ft := 191) Tryz.underlying193 rfl rfl rfl
instance : FvT Tryz.prog 193 2 2 := FvT.mk' (ft := 191) Tryz.underlying193 rfl rfl rfl
instance : FvT Tryz.prog 193 3 3 := FvT.mk' (ft := 144) Tryz.underlying193 rfl rfl rfl
instance : FvT Tryz.prog 193 4 4 := FvT.mk' (ft := 144) Tryz.underlying193 rfl rfl rfl
instance : FvT Tryz.prog 196 0 0 := FvT.mk' (ft := 181) Tryz.underlying196 rfl rfl rfl
instance : FvT Tryz.prog 196 1 1 := FvT.mk' (ft := 182) Tryz.underlying196 rfl rfl rfl
instance : FvT Tryz.prog 196 2 2 := FvT.mk' (ft := 195) Tryz.underlying196 rfl rfl rfl
instance : FvT Tryz.prog 196 3 3 := FvT.mk' (ft := 195) Tryz.underlying196 rfl rfl rfl
instance : FvT Tryz.prog 197 0 0 := FvT.mk' (ft := 181) Tryz.underlying197 rfl rfl rfl
instance : FvT Tryz.prog 197 1 1 := FvT.mk' (ft := 182) Tryz.underlying197 rfl rfl rfl
instance : FvT Tryz.prog 197 2 2 := FvT.mk' (ft := 195) Tryz.underlying197 rfl rfl rfl
instance : FvT Tryz.prog 197 3 3 := FvT.mk' (ft := 195) Tryz.underlying197 rfl rfl rfl
instance : PtT Tryz.prog 198 := PtT.mk' (te := 49) (by kernel_rfl) (by decide)
instance : Wide Tryz.prog := ⟨by kernel_rfl⟩
instance : FnB Tryz.prog 3 := FnB.mk' Tryz.func3 (by kernel_rfl)
instance : FnB Tryz.prog 4 := FnB.mk' Tryz.func4 (by kernel_rfl)
instance : FnB Tryz.prog 5 := FnB.mk' Tryz.func5 (by kernel_rfl)
instance : FnB Tryz.prog 6 := FnB.mk' Tryz.func6 (by kernel_rfl)
instance : FnB Tryz.prog 7 := FnB.mk' Tryz.func7 (by kernel_rfl)
instance : FnB Tryz.prog 8 := FnB.mk' Tryz.func8 (by kernel_rfl)
instance : FnB Tryz.prog 9 := FnB.mk' Tryz.func9 (by kernel_rfl)
instance : FnB Tryz.prog 10 := FnB.mk' Tryz.func10 (by kernel_rfl)
instance : FnB Tryz.prog 11 := FnB.mk' Tryz.func11 (by kernel_rfl)
instance : FnB Tryz.prog 12 := FnB.mk' Tryz.func12 (by kernel_rfl)
instance : FnB Tryz.prog 13 := FnB.mk' Tryz.func13 (by kernel_rfl)
instance : FnB Tryz.prog 14 := FnB.mk' Tryz.func14 (by kernel_rfl)
instance : FnB Tryz.prog 15 := FnB.mk' Tryz.func15 (by kernel_rfl)
instance : FnB Tryz.prog 16 := FnB.mk' Tryz.func16 (by kernel_rfl)
instance : FnB Tryz.prog 17 := FnB.mk' Tryz.func17 (by kernel_rfl)
instance : FnB Tryz.prog 18 := FnB.mk' Tryz.func18 (by kernel_rfl)
instance : FnB Tryz.prog 19 := FnB.mk' Tryz.func19 (by kernel_rfl)
instance : FnB Tryz.prog 20 := FnB.mk' Tryz.func20 (by kernel_rfl)
instance : FnB Tryz.prog 21 := FnB.mk' Tryz.func21 (by kernel_rfl)
instance : FnB Tryz.prog 22 := FnB.mk' Tryz.func22 (by kernel_rfl)
instance : FnB Tryz.prog 23 := FnB.mk' Tryz.func23 (by kernel_rfl)
instance : FnB Tryz.prog 24 := FnB.mk' Tryz.func24 (by kernel_rfl)
instance : FnB Tryz.prog 25 := FnB.mk' Tryz.func25 (by kernel_rfl)
instance : FnB Tryz.prog 26 := FnB.mk' Tryz.func26 (by kernel_rfl)
instance : FnB Tryz.prog 27 := FnB.mk' Tryz.func27 (by kernel_rfl)
instance : FnB Tryz.prog 28 := FnB.mk' Tryz.func28 (by kernel_rfl)
instance : FnB Tryz.prog 29 := FnB.mk' Tryz.func29 (by kernel_rfl)
instance : FnB Tryz.prog 30 := FnB.mk' Tryz.func30 (by kernel_rfl)
instance : FnB Tryz.prog 31 := FnB.mk' Tryz.func31 (by kernel_rfl)
instance : FnB Tryz.prog 32 := FnB.mk' Tryz.func32 (by kernel_rfl)
instance : FnB Tryz.prog 33 := FnB.mk' Tryz.func33 (by kernel_rfl)
instance : FnB Tryz.prog 34 := FnB.mk' Tryz.func34 (by kernel_rfl)
instance : FnB Tryz.prog 35 := FnB.mk' Tryz.func35 (by kernel_rfl)
instance : FnB Tryz.prog 36 := FnB.mk' Tryz.func36 (by kernel_rfl)
instance : FnB Tryz.prog 37 := FnB.mk' Tryz.func37 (by kernel_rfl)
instance : FnB Tryz.prog 38 := FnB.mk' Tryz.func38 (by kernel_rfl)
instance : FnB Tryz.prog 39 := FnB.mk' Tryz.func39 (by kernel_rfl)
instance : FnB Tryz.prog 40 := FnB.mk' Tryz.func40 (by kernel_rfl)
instance : FnB Tryz.prog 41 := FnB.mk' Tryz.func41 (by kernel_rfl)
instance : FnB Tryz.prog 42 := FnB.mk' Tryz.func42 (by kernel_rfl)
instance : FnB Tryz.prog 43 := FnB.mk' Tryz.func43 (by kernel_rfl)
instance : FnB Tryz.prog 44 := FnB.mk' Tryz.func44 (by kernel_rfl)
instance : FnB Tryz.prog 45 := FnB.mk' Tryz.func45 (by kernel_rfl)
instance : FnB Tryz.prog 46 := FnB.mk' Tryz.func46 (by kernel_rfl)
instance : FnB Tryz.prog 47 := FnB.mk' Tryz.func47 (by kernel_rfl)
instance : FnB Tryz.prog 48 := FnB.mk' Tryz.func48 (by kernel_rfl)
instance : FnB Tryz.prog 49 := FnB.mk' Tryz.func49 (by kernel_rfl)
instance : FnB Tryz.prog 50 := FnB.mk' Tryz.func50 (by kernel_rfl)
instance : FnB Tryz.prog 51 := FnB.mk' Tryz.func51 (by kernel_rfl)
instance : FnB Tryz.prog 52 := FnB.mk' Tryz.func52 (by kernel_rfl)
instance : FnB Tryz.prog 53 := FnB.mk' Tryz.func53 (by kernel_rfl)
instance : FnB Tryz.prog 54 := FnB.mk' Tryz.func54 (by kernel_rfl)
instance : FnB Tryz.prog 55 := FnB.mk' Tryz.func55 (by kernel_rfl)
instance : FnB Tryz.prog 56 := FnB.mk' Tryz.func56 (by kernel_rfl)
instance : FnB Tryz.prog 57 := FnB.mk' Tryz.func57 (by kernel_rfl)
instance : FnB Tryz.prog 58 := FnB.mk' Tryz.func58 (by kernel_rfl)
instance : FnB Tryz.prog 59 := FnB.mk' Tryz.func59 (by kernel_rfl)
instance : FnB Tryz.prog 60 := FnB.mk' Tryz.func60 (by kernel_rfl)
instance : FnB Tryz.prog 61 := FnB.mk' Tryz.func61 (by kernel_rfl)
instance : FnB Tryz.prog 62 := FnB.mk' Tryz.func62 (by kernel_rfl)
instance : FnB Tryz.prog 63 := FnB.mk' Tryz.func63 (by kernel_rfl)
instance : FnB Tryz.prog 64 := FnB.mk' Tryz.func64 (by kernel_rfl)
instance : FnB Tryz.prog 65 := FnB.mk' Tryz.func65 (by kernel_rfl)
instance : FnB Tryz.prog 66 := FnB.mk' Tryz.func66 (by kernel_rfl)
instance : FnB Tryz.prog 67 := FnB.mk' Tryz.func67 (by kernel_rfl)
instance : FnB Tryz.prog 68 := FnB.mk' Tryz.func68 (by kernel_rfl)
instance : FnB Tryz.prog 70 := FnB.mk' Tryz.func70 (by kernel_rfl)
instance : FnB Tryz.prog 71 := FnB.mk' Tryz.func71 (by kernel_rfl)
instance : FnB Tryz.prog 72 := FnB.mk' Tryz.func72 (by kernel_rfl)
instance : FnB Tryz.prog 73 := FnB.mk' Tryz.func73 (by kernel_rfl)
instance : FnB Tryz.prog 74 := FnB.mk' Tryz.func74 (by kernel_rfl)
instance : FnB Tryz.prog 75 := FnB.mk' Tryz.func75 (by kernel_rfl)
instance : FnB Tryz.prog 79 := FnB.mk' Tryz.func79 (by kernel_rfl)
instance : FnB Tryz.prog 80 := FnB.mk' Tryz.func80 (by kernel_rfl)
instance : FnB Tryz.prog 81 := FnB.mk' Tryz.func81 (by kernel_rfl)
instance : FnB Tryz.prog 82 := FnB.mk' Tryz.func82 (by kernel_rfl)
instance : FnB Tryz.prog 83 := FnB.mk' Tryz.func83 (by kernel_rfl)
instance : FnB Tryz.prog 84 := FnB.mk' Tryz.func84 (by kernel_rfl)
instance : FnB Tryz.prog 85 := FnB.mk' Tryz.func85 (by kernel_rfl)
instance : FnB Tryz.prog 86 := FnB.mk' Tryz.func86 (by kernel_rfl)
instance : FnB Tryz.prog 87 := FnB.mk' Tryz.func87 (by kernel_rfl)
instance : FnB Tryz.prog 88 := FnB.mk' Tryz.func88 (by kernel_rfl)
instance : FnB Tryz.prog 92 := FnB.mk' Tryz.func92 (by kernel_rfl)
instance : FnB Tryz.prog 93 := FnB.mk' Tryz.func93 (by kernel_rfl)
instance : FnB Tryz.prog 94 := FnB.mk' Tryz.func94 (by kernel_rfl)
instance : FnB Tryz.prog 95 := FnB.mk' Tryz.func95 (by kernel_rfl)
instance : FnB Tryz.prog 96 := FnB.mk' Tryz.func96 (by kernel_rfl)
instance : FnB Tryz.prog 97 := FnB.mk' Tryz.func97 (by kernel_rfl)
end Go.SL

/- The library's contracts that this claim leans on, laid at this dump by the kit's own tools (lay-shelf, lay-plain). -/
set_option linter.unusedVariables false
namespace Go.Proofs
open Go.Shelf
def Tryz.lays197_ren : Go.Shelf.Ren := ⟨fun | 197 => 52 | 260 => 75 | n => n, fun | 9 => 9 | 21 => 21 | 3 => 3 | 4 => 4 | 5 => 5 | 105 => 93 | 119 => 145 | 0 => 0 | 46 => 146 | 139 => 149 | 138 => 148 | n => n, fun | 3 => 1 | 4 => 2 | n => n⟩
theorem Tryz.lays197 : Go.Proofs.Lays.n197 Tryz.prog Tryz.lays197_ren := {
  mixed := by kernel_rfl
  f197 := Tryz.func52.trans (congrArg some (by kernel_rfl))
  f260 := Tryz.func75.trans (congrArg some (by kernel_rfl))
  t0 := Tryz.underlying0
  a0 := Tryz.isAgg0
  z0 := Tryz.sizeOf0
  v0 := Tryz.zeroValue0
  t3 := Tryz.underlying3
  a3 := Tryz.isAgg3
  z3 := Tryz.sizeOf3
  v3 := Tryz.zeroValue3
  t4 := Tryz.underlying4
  a4 := Tryz.isAgg4
  z4 := Tryz.sizeOf4
  v4 := Tryz.zeroValue4
  t5 := Tryz.underlying5
  a5 := Tryz.isAgg5
  z5 := Tryz.sizeOf5
  v5 := Tryz.zeroValue5
  t9 := Tryz.underlying9
  a9 := Tryz.isAgg9
  z9 := Tryz.sizeOf9
  v9 := Tryz.zeroValue9
  t21 := Tryz.underlying21
  a21 := Tryz.isAgg21
  z21 := Tryz.sizeOf21
  v21 := Tryz.zeroValue21
  t46 := Tryz.underlying146
  a46 := Tryz.isAgg146
  z46 := Tryz.sizeOf146
  v46 := Tryz.zeroValue146
  t105 := Tryz.underlying93
  a105 := Tryz.isAgg93
  z105 := Tryz.sizeOf93
  v105 := Tryz.zeroValue93
  t119 := Tryz.underlying145
  a119 := Tryz.isAgg145
  z119 := Tryz.sizeOf145
  t138 := Tryz.underlying148
  a138 := Tryz.isAgg148
  z138 := Tryz.sizeOf148
  v138 := Tryz.zeroValue148
  t139 := Tryz.underlying149
  a139 := Tryz.isAgg149
  z139 := Tryz.sizeOf149
  v139 := Tryz.zeroValue149
  g3 := by kernel_rfl
  g4 := by kernel_rfl }
open Go.RowKit Go.Lib in
/-- **unicode/utf8.DecodeRuneInString AT EVERY STRING.** (LAID: no walk: one application.) -/
theorem Tryz.utf8_DecodeRuneInString (s : ByteArray) (w : World) (hT : Lib.Utf8Tabs 1 2 w) :
    Calls Tryz.prog 52 #[.string s] w fun e w' => e = .returned (.tuple #[.int .i32 (Lib.decodeGo s).1, .int .i64 (Lib.decodeGo s).2]) ∧ Below w.heap.size w w' := Any.utf8_DecodeRuneInString Tryz.lays197 s w hT
def Tryz.laysNm223_ren : Go.Shelf.Ren := ⟨fun | 23 => 54 | n => n, fun | 22 => 31 | 3 => 3 | 4 => 4 | 0 => 0 | n => n, fun | n => n⟩
theorem Tryz.laysNm223 : Go.Proofs.Lays2.n23 Tryz.prog Tryz.laysNm223_ren := {
  mixed := by kernel_rfl
  f23 := Tryz.func54.trans (congrArg some (by kernel_rfl))
  t0 := Tryz.underlying0
  a0 := Tryz.isAgg0
  z0 := Tryz.sizeOf0
  v0 := Tryz.zeroValue0
  t3 := Tryz.underlying3
  a3 := Tryz.isAgg3
  z3 := Tryz.sizeOf3
  v3 := Tryz.zeroValue3
  t4 := Tryz.underlying4
  a4 := Tryz.isAgg4
  z4 := Tryz.sizeOf4
  v4 := Tryz.zeroValue4
  t22 := Tryz.underlying31
  a22 := Tryz.isAgg31
  z22 := Tryz.sizeOf31
  v22 := Tryz.zeroValue31
  i3 := by kernel_rfl }
open Go.RowKit Go.Lib Go.Sort in
/-- slices.Delete at []int: "Delete modifies s in place by removing the elements s[i:j], and returns the modified slice. Delete panics if j > len(s) or s[i:j] is not a valid slice of s. Delete is O(len(s)-i), so if many items must be deleted, it is better to make a single call deleting them all together than to delete one at a time. Delete zeroes the elements s[len(s)-(j-i):len(s)]. If the result is empty, it has the same nilness as s.": FOR i ≤ j ≤ len(s) IT RETURNS THE SLICE CUT TO len(s) - (j - i) ELEMENTS; ITS CELLS HOLD what stood ahead of i, what stood from j on, then j - i zero values; all else is as it was, but for the count of draws. IN THE WORDS OF slices.Sort's CONTRACT ('Holds', 'putRow'). It asks 'zs.length ≤ cap ≤ 2^63 - 1' (every slice's). (Outside i ≤ j ≤ len(s) it panics: no contract here.) (LAID: no walk: one application.) -/
theorem Tryz.slices_Delete_int (blk off cap i j : Nat) (zs : List Int) (w : World) (hH : Holds (Value.int .i64) w blk off zs.toArray) (hcap : zs.length ≤ cap) (hm : cap ≤ 9223372036854775807) (hij : i ≤ j) (hj : j ≤ zs.length) :
    Calls Tryz.prog 54 #[.slice (some ⟨blk, off, none⟩) zs.length cap, .int .i64 i, .int .i64 j] w fun e w' => e = .returned (.slice (some ⟨blk, off, none⟩) (zs.length - (j - i)) cap) ∧ ∃ q, w' = putRow (Value.int .i64) (Sort.ahead w q) blk off (zs.take i ++ zs.drop j ++ List.replicate (j - i) 0).toArray := Any.slices_Delete_int Tryz.laysNm223 blk off cap i j zs w hH hcap hm hij hj
def Tryz.laysNm221_ren : Go.Shelf.Ren := ⟨fun | 21 => 44 | 27 => 69 | 28 => 70 | 35 => 88 | 39 => 96 | n => n, fun | 22 => 31 | 3 => 3 | 4 => 4 | 0 => 0 | n => n, fun | n => n⟩
theorem Tryz.laysNm221 : Go.Proofs.Lays2.n21 Tryz.prog Tryz.laysNm221_ren := {
  mixed := by kernel_rfl
  f21 := Tryz.func44.trans (congrArg some (by kernel_rfl))
  f27 := Tryz.func69.trans (congrArg some (by kernel_rfl))
  f28 := Tryz.func70.trans (congrArg some (by kernel_rfl))
  f35 := Tryz.func88.trans (congrArg some (by kernel_rfl))
  f39 := Tryz.func96.trans (congrArg some (by kernel_rfl))
  t0 := Tryz.underlying0
  a0 := Tryz.isAgg0
  z0 := Tryz.sizeOf0
  v0 := Tryz.zeroValue0
  t3 := Tryz.underlying3
  a3 := Tryz.isAgg3
  z3 := Tryz.sizeOf3
  v3 := Tryz.zeroValue3
  t4 := Tryz.underlying4
  a4 := Tryz.isAgg4
  z4 := Tryz.sizeOf4
  v4 := Tryz.zeroValue4
  t22 := Tryz.underlying31
  a22 := Tryz.isAgg31
  z22 := Tryz.sizeOf31
  v22 := Tryz.zeroValue31
  i3 := by kernel_rfl }
end Go.Proofs

/- utf8.DecodeRuneInString; impl.letters and its iterator. -/
set_option linter.unusedVariables false
set_option linter.unusedSimpArgs false
namespace Go.SL
open Go.RowKit Go.Proofs
/-- The tables of unicode/utf8 lie as its text lays them. -/
def tabs (w : World) : Prop := Lib.Utf8Tabs 1 2 w
def dec (l : List UInt8) : Nat × Nat := Lib.decodeGo ⟨l.toArray⟩
theorem decode_c (l : List UInt8) : Spec Tryz.prog 52 [sv l] [tabs] [] (fun _ : Unit => .tuple #[.int .i32 ((dec l).1 : Nat), .int .i64 ((dec l).2 : Nat)]) (fun _ => []) (fun _ => True) :=
  Spec.ofBelow fun w hR => Tryz.utf8_DecodeRuneInString ⟨l.toArray⟩ w (hR _ List.mem_cons_self)
def b0 (l : List UInt8) (i : Nat) : Nat := (l.getD i 0).toNat
theorem get_b0 (l : List UInt8) (i : Nat) : ((⟨l.toArray⟩ : ByteArray).get! i).toNat = b0 l i := by
  simp [ByteArray.get!, b0, List.getD_eq_getElem?_getD]
  cases h : l[i]? <;> simp [h]
  rfl
theorem dec_eq {l : List UInt8} (h : 0 < l.length) : dec l = Lib.decodeN l.length (b0 l 0) (b0 l 1) (b0 l 2) (b0 l 3) := by
  unfold dec Lib.decodeGo
  rw [if_neg (by rw [sv_size]; omega), Lib.decode_at, sv_size]
  simp only [get_b0, Nat.sub_zero, Nat.zero_add]
theorem decodeN_pos (n b0 b1 b2 b3 : Nat) : 1 ≤ (Lib.decodeN n b0 b1 b2 b3).2 ∧ (Lib.decodeN n b0 b1 b2 b3).2 ≤ 4 := by
  unfold Lib.decodeN
  repeat' split
  all_goals simp
theorem decodeN_le (n b0 b1 b2 b3 : Nat) (hn : 0 < n) : (Lib.decodeN n b0 b1 b2 b3).2 ≤ n := by
  unfold Lib.decodeN
  repeat' split
  all_goals (simp only; omega)
theorem decodeN_rune (n b0 b1 b2 b3 : Nat) (h0 : b0 < 256) : (Lib.decodeN n b0 b1 b2 b3).1 ≤ 1114111 := by
  unfold Lib.decodeN
  repeat' split
  all_goals (simp only; omega)
theorem b0_lt (l : List UInt8) (i : Nat) : b0 l i < 256 := UInt8.toNat_lt _
theorem dec_bd {l : List UInt8} (h : 0 < l.length) : (1 ≤ (dec l).2 ∧ (dec l).2 ≤ 4 ∧ (dec l).2 ≤ l.length) ∧ (dec l).1 ≤ 1114111 := by
  rw [dec_eq h]
  exact ⟨⟨(decodeN_pos _ _ _ _ _).1, (decodeN_pos _ _ _ _ _).2, decodeN_le _ _ _ _ _ h⟩, decodeN_rune _ _ _ _ _ (b0_lt l 0)⟩
/-- Whether what was decoded is a letter. -/
def good (l : List UInt8) : Bool := !decide (((dec l).1 : Int) = 65533) || decide ((1 : Int) < ((dec l).2 : Int))
/-- What impl.letters hands out, at most so many. -/
def letsN : Nat → List UInt8 → List (Nat × Bool)
  | 0, _ => []
  | f + 1, l => match decide (0 < l.length) with
    | false => []
    | true => match good l with
      | true => ((dec l).1, true) :: letsN f (l.drop (dec l).2)
      | false => [((dec l).1, false)]
def lets (l : List UInt8) : List (Nat × Bool) := letsN l.length l
theorem letsN_more : ∀ (f g : Nat) (l : List UInt8), l.length ≤ f → l.length ≤ g → letsN f l = letsN g l
  | 0, 0, _, _, _ => rfl
  | 0, g + 1, l, h, _ => by
    have : l = [] := List.eq_nil_of_length_eq_zero (by omega)
    subst this
    rfl
  | f + 1, 0, l, _, h => by
    have : l = [] := List.eq_nil_of_length_eq_zero (by omega)
    subst this
    rfl
  | f + 1, g + 1, l, h, h' => by
    simp only [letsN]
    cases hl : decide (0 < l.length) with
    | false => rfl
    | true =>
      rw [decide_eq_true_eq] at hl
      simp only
      cases good l with
      | false => rfl
      | true =>
        have hd := (dec_bd hl).1
        rw [letsN_more f g (l.drop (dec l).2) (by simp; omega) (by simp; omega)]
theorem lets_nil : lets [] = [] := rfl
theorem lets_ok {l : List UInt8} (h : 0 < l.length) (hg : good l = true) : lets l = ((dec l).1, true) :: lets (l.drop (dec l).2) := by
  have hd := (dec_bd h).1
  obtain ⟨n, hn⟩ : ∃ n, l.length = n + 1 := ⟨l.length - 1, by omega⟩
  unfold lets
  rw [hn]
  simp only [letsN, decide_eq_true h, hg]
  rw [letsN_more n _ (l.drop (dec l).2) (by simp; omega) (Nat.le_refl _)]
theorem lets_bad {l : List UInt8} (h : 0 < l.length) (hg : good l = false) : lets l = [((dec l).1, false)] := by
  obtain ⟨n, hn⟩ : ∃ n, l.length = n + 1 := ⟨l.length - 1, by omega⟩
  unfold lets
  rw [hn]
  simp only [letsN, decide_eq_true h, hg]
def vLet (q : Nat × Bool) : List Value := [.int .i64 (q.1 : Nat), .bool q.2]
set_option maxRecDepth 100000 in
set_option maxHeartbeats 4000000 in
theorem lettersIt (b : Nat) (l : List UInt8) : IterSpec Tryz.prog 51 [.pointer (some ⟨b, 0, none⟩)] [tabs] [blk b (.cells #[sv l] 9 (0, 0))] ((lets l).map vLet) := by
  refine IterSpec.mk' Tryz.func51 rfl Tryz.ntmps51 rfl ?_
  intro w0 O y Iy Ix hR hY
  have hr : ∀ k, Rd w0 O [Iy k] tabs := fun k => (hR k).h _ List.mem_cons_self
  clear hR
  have hr0 := hr 0
  repeat' (first | ((with_reducible apply iOJ); first | ((with_reducible apply iOp); refine OJ.p ?_) | with_reducible apply OJ.nil | ((with_reducible apply iOg); first | refine OJ.guardY ?_ | refine OJ.guardN ?_ | refine OJ.guardNd ?_ | refine OJ.guardU ?_ | refine OJ.guardS (fun _ => ?_) (fun _ => ?_) | fail) | ((with_reducible apply iOstore); first | (refine OJ.as AS.store ?_; rintro _ _ rfl) | (refine OJ.as AS.storeA ?_; rintro _ _ rfl) | (refine OJ.as AS.storeAV ?_; rintro _ _ rfl) | (refine OJ.as AS.storeE ?_; rintro _ _ rfl) | (refine OJ.as AS.storeEA ?_; rintro _ _ rfl) | (refine OJ.as AS.storeP ?_; rintro _ _ rfl) | fail) | ((with_reducible apply iOcall); first | (refine OJ.as AS.append1 ?_; rintro _ _ rfl) | (refine OJ.as AS.append ?_; rintro _ _ rfl) | fail) | ((with_reducible apply iObox); first | (refine OJ.as AS.box1 ?_; rintro _ _ ⟨_, rfl, rfl⟩) | (refine OJ.as AS.boxA ?_; rintro _ _ ⟨_, rfl, rfl⟩) | fail) | ((with_reducible apply iOalloc); first | (refine OJ.as AS.alloc ?_; rintro _ _ ⟨_, rfl, rfl⟩) | fail) | ((with_reducible apply iObuildSlice); first | (refine OJ.as AS.buildSlice ?_; rintro _ _ ⟨_, rfl, rfl⟩) | fail) | ((with_reducible apply iOmakeSlice); first | (refine OJ.as AS.makeSlice ?_; rintro _ _ rfl) | fail) | ((with_reducible apply iOmakeMap); first | (refine OJ.as AS.makeMap ?_; rintro _ _ ⟨_, rfl, rfl⟩) | fail) | ((with_reducible apply iOmapEntry); first | (refine OJ.as AS.mapEntry ?_; rintro _ _ ⟨_, _, rfl, rfl⟩) | fail) | ((with_reducible apply iOentryStore); first | (refine OJ.as AS.entryStore ?_; rintro _ _ rfl) | fail) | ((with_reducible apply iOinsert); first | (refine OJ.as AS.insert ?_; rintro _ _ rfl) | fail) | ((with_reducible apply iOmapUpdate); first | (refine OJ.as AS.mapUpdate ?_; rintro _ _ rfl) | fail) | refine OJ.unboxP fun _ => ?_ | fail) | ((with_reducible apply iJ); first | refine J.seq ?_ | refine J.region ?_ | refine J.block ?_ | refine J.skip ?_ | refine J.exit ?_ | refine J.condT ?_ | refine J.condF ?_ | refine J.cond (fun _ => ?_) (fun _ => ?_) | fail) | ((with_reducible apply iJK); first | refine JK.code ?_ | refine JK.blk ?_ | refine JK.loop ?_ | refine JK.begin ?_ | refine JK.more ?_ | fail) | ((with_reducible apply iEnt); first | exact Ent.nil | ((with_reducible apply iERow); refine Ent.row ?_ ?_) | ((with_reducible apply iEBox); first | refine Ent.box ?_ ?_ | refine Ent.box2 ?_ ?_) | ((with_reducible apply iEBlk); refine Ent.blk ?_ ?_) | ((with_reducible apply iEPure); refine Ent.pure ?_ ?_) | ((with_reducible apply iERdR); first | refine Ent.rdR ?_ | refine Ent.any ?_ | fail) | refine Ent.any ?_ | with_reducible exact Ent.refl | fail) | ((with_reducible apply iEq); with_reducible rfl) | fail)
  clear hr0
  refine J.loopW (fun (m : List UInt8) (n : Nat) _ => ∃ done : List (Nat × Bool), done.length = n ∧ lets l = done ++ lets m) (fun m => m.length)
    (fun m n _ => [(0, yv y), (1, .pointer (some ⟨b, 0, none⟩))]) (fun m n _ => [Iy n, blk b (.cells #[sv m] 9 (0, 0))]) l 0 undef ⟨[], rfl, rfl⟩ ?_
  rintro m n u ⟨done, hn, hm⟩ ih
  have hr1 := hr n
  have hx : ∀ q : Bool, 0 < m.length → q = good m → ((lets l).map vLet)[n]? = some (vLet ((dec m).1, q)) := fun q h1 hq => by
    rw [hq, hm, ← hn]
    cases hg : good m with
    | true => rw [lets_ok h1 hg]; simp
    | false => rw [lets_bad h1 hg]; simp
  have hd := @dec_bd m
  have hlen : ((lets l).map vLet).length = n + (lets m).length := by rw [hm]; simp [hn]
  repeat' (first | ((with_reducible apply iOJ); first | ((with_reducible apply iOp); refine OJ.p ?_) | with_reducible apply OJ.nil | ((with_reducible apply iOg); first | refine OJ.guardY ?_ | refine OJ.guardN ?_ | refine OJ.guardNd ?_ | refine OJ.guardU ?_ | refine OJ.guardS (fun _ => ?_) (fun _ => ?_) | fail) | ((with_reducible apply iOstore); first | (refine OJ.as AS.store ?_; rintro _ _ rfl) | (refine OJ.as AS.storeA ?_; rintro _ _ rfl) | (refine OJ.as AS.storeAV ?_; rintro _ _ rfl) | (refine OJ.as AS.storeE ?_; rintro _ _ rfl) | (refine OJ.as AS.storeEA ?_; rintro _ _ rfl) | (refine OJ.as AS.storeP ?_; rintro _ _ rfl) | fail) | ((with_reducible apply iOcall); first | (refine OJ.as AS.append1 ?_; rintro _ _ rfl) | (refine OJ.as AS.append ?_; rintro _ _ rfl) | (refine OJ.as (AS.call0 (decode_c m)) ?_; rotate_right; rintro _ _ ⟨y, hy, rfl, rfl⟩) | (refine OJ.as (AS.yield (hY _ _ (hx _ (by omega) ?_))) ?_; rotate_right; rintro _ _ (⟨rfl, rfl⟩ | ⟨rfl, rfl⟩)) | fail) | ((with_reducible apply iObox); first | (refine OJ.as AS.box1 ?_; rintro _ _ ⟨_, rfl, rfl⟩) | (refine OJ.as AS.boxA ?_; rintro _ _ ⟨_, rfl, rfl⟩) | fail) | ((with_reducible apply iOalloc); first | (refine OJ.as AS.alloc ?_; rintro _ _ ⟨_, rfl, rfl⟩) | fail) | ((with_reducible apply iObuildSlice); first | (refine OJ.as AS.buildSlice ?_; rintro _ _ ⟨_, rfl, rfl⟩) | fail) | ((with_reducible apply iOmakeSlice); first | (refine OJ.as AS.makeSlice ?_; rintro _ _ rfl) | fail) | ((with_reducible apply iOmakeMap); first | (refine OJ.as AS.makeMap ?_; rintro _ _ ⟨_, rfl, rfl⟩) | fail) | ((with_reducible apply iOmapEntry); first | (refine OJ.as AS.mapEntry ?_; rintro _ _ ⟨_, _, rfl, rfl⟩) | fail) | ((with_reducible apply iOentryStore); first | (refine OJ.as AS.entryStore ?_; rintro _ _ rfl) | fail) | ((with_reducible apply iOinsert); first | (refine OJ.as AS.insert ?_; rintro _ _ rfl) | fail) | ((with_reducible apply iOmapUpdate); first | (refine OJ.as AS.mapUpdate ?_; rintro _ _ rfl) | fail) | refine OJ.unboxP fun _ => ?_ | fail) | ((with_reducible apply iJ); first | refine J.seq ?_ | refine J.region ?_ | refine J.block ?_ | refine J.skip ?_ | refine J.exit ?_ | refine J.condT ?_ | refine J.condF ?_ | refine J.cond (fun _ => ?_) (fun _ => ?_) | refine J.ret (iendsX n (Ent.any Ent.nil)) | refine J.ret (iends ?_) | fail) | ((with_reducible apply iJK); first | refine JK.code ?_ | refine JK.blk ?_ | refine JK.loop ?_ | refine JK.begin ?_ | refine JK.more ?_ | refine JK.fin (iends ?_) | fail) | ((with_reducible apply iJL); first | refine JL.use (ih (m.drop (dec m).2) (n + 1) undef ⟨done ++ [((dec m).1, true)], ?_, ?_⟩ ?_) | fail) | ((with_reducible apply iEnt); first | exact Ent.nil | ((with_reducible apply iERow); refine Ent.row ?_ ?_) | ((with_reducible apply iEBox); first | refine Ent.box ?_ ?_ | refine Ent.box2 ?_ ?_) | ((with_reducible apply iEBlk); refine Ent.blk ?_ ?_) | ((with_reducible apply iEPure); refine Ent.pure ?_ ?_) | ((with_reducible apply iERdR); first | refine Ent.rdR ?_ | refine Ent.any ?_ | fail) | refine Ent.any ?_ | with_reducible exact Ent.refl | fail) | ((with_reducible apply iEq); with_reducible rfl) | fail)
  all_goals try clear ih hY hr hr1
  all_goals first
    | (show (_ : Bool) = _; simp [good, *]; done)
    | (show (_ : Bool) = decide _; simp [good, *]; done)
    | (show Decidable.decide _ = _; simp [good, *]; done)
    | (have h0 := (hd (by omega)).1; simp; omega)
    | (simp [hn]; done)
    | (have hg : good m = true := (by simp [good, *]); rw [hm, lets_ok (by omega) hg]; simp; done)
    | (by_cases h0 : 0 < m.length
       · have hg : good m = false := by
           simp only [good]
           rw [decide_eq_true (by first | assumption | omega), decide_eq_false (by first | assumption | omega)]
           rfl
         have e : ((lets l).map vLet).length = n + 1 := by rw [hlen, lets_bad h0 hg]; rfl
         rw [e]
         exact Ent.any Ent.nil
       · exfalso; omega)
    | (have e : ((lets l).map vLet).length = n := by rw [hlen, List.eq_nil_of_length_eq_zero (l := m) (by omega)]; rfl
       rw [e]
       exact Ent.any Ent.nil)
end Go.SL

/- impl.letters, impl.Utf8Get. -/
set_option linter.unusedVariables false
set_option linter.unusedSimpArgs false
namespace Go.SL
open Go.RowKit Go.Proofs
instance : EncN 3 eInt := ⟨trivial⟩
set_option maxRecDepth 100000 in
set_option maxHeartbeats 4000000 in
theorem letters_c (l : List UInt8) : Spec Tryz.prog 26 [sv l] [] [] (fun b : Nat => .func (.func 51) #[] #[.pointer (some ⟨b, 0, none⟩)]) (fun b => [blk b (.cells #[sv l] 9 (0, 0))]) (fun _ => True) := by
  refine Spec.mk Tryz.func26 rfl Tryz.ntmps26 rfl ?_
  intro w0 O hR hS0; clear hR hS0
  repeat' (first | ((with_reducible apply iOJ); first | ((with_reducible apply iOp); refine OJ.p ?_) | with_reducible apply OJ.nil | ((with_reducible apply iOg); first | refine OJ.guardY ?_ | refine OJ.guardN ?_ | refine OJ.guardNd ?_ | refine OJ.guardU ?_ | refine OJ.guardS (fun _ => ?_) (fun _ => ?_) | fail) | ((with_reducible apply iOstore); first | (refine OJ.as AS.store ?_; rintro _ _ rfl) | (refine OJ.as AS.storeA ?_; rintro _ _ rfl) | (refine OJ.as AS.storeAV ?_; rintro _ _ rfl) | (refine OJ.as AS.storeE ?_; rintro _ _ rfl) | (refine OJ.as AS.storeEA ?_; rintro _ _ rfl) | (refine OJ.as AS.storeP ?_; rintro _ _ rfl) | fail) | ((with_reducible apply iOcall); first | (refine OJ.as AS.append1 ?_; rintro _ _ rfl) | (refine OJ.as AS.append ?_; rintro _ _ rfl) | fail) | ((with_reducible apply iObox); first | (refine OJ.as AS.box1 ?_; rintro _ _ ⟨_, rfl, rfl⟩) | (refine OJ.as AS.boxA ?_; rintro _ _ ⟨_, rfl, rfl⟩) | fail) | ((with_reducible apply iOalloc); first | (refine OJ.as AS.alloc ?_; rintro _ _ ⟨_, rfl, rfl⟩) | fail) | ((with_reducible apply iObuildSlice); first | (refine OJ.as AS.buildSlice ?_; rintro _ _ ⟨_, rfl, rfl⟩) | fail) | ((with_reducible apply iOmakeSlice); first | (refine OJ.as AS.makeSlice ?_; rintro _ _ rfl) | fail) | ((with_reducible apply iOmakeMap); first | (refine OJ.as AS.makeMap ?_; rintro _ _ ⟨_, rfl, rfl⟩) | fail) | ((with_reducible apply iOmapEntry); first | (refine OJ.as AS.mapEntry ?_; rintro _ _ ⟨_, _, rfl, rfl⟩) | fail) | ((with_reducible apply iOentryStore); first | (refine OJ.as AS.entryStore ?_; rintro _ _ rfl) | fail) | ((with_reducible apply iOinsert); first | (refine OJ.as AS.insert ?_; rintro _ _ rfl) | fail) | ((with_reducible apply iOmapUpdate); first | (refine OJ.as AS.mapUpdate ?_; rintro _ _ rfl) | fail) | refine OJ.unboxP fun _ => ?_ | fail) | ((with_reducible apply iJ); first | refine J.seq ?_ | refine J.region ?_ | refine J.block ?_ | refine J.skip ?_ | refine J.exit ?_ | refine J.condT ?_ | refine J.condF ?_ | refine J.cond (fun _ => ?_) (fun _ => ?_) | refine J.ret (ends _ trivial rfl ?_) | fail) | ((with_reducible apply iJK); first | refine JK.code ?_ | refine JK.blk ?_ | refine JK.loop ?_ | refine JK.begin ?_ | refine JK.more ?_ | fail) | ((with_reducible apply iEnt); first | exact Ent.nil | ((with_reducible apply iERow); refine Ent.row ?_ ?_) | ((with_reducible apply iEBox); first | refine Ent.box ?_ ?_ | refine Ent.box2 ?_ ?_) | ((with_reducible apply iEBlk); refine Ent.blk ?_ ?_) | ((with_reducible apply iEPure); refine Ent.pure ?_ ?_) | ((with_reducible apply iERdR); first | refine Ent.rdR ?_ | refine Ent.any ?_ | fail) | refine Ent.any ?_ | with_reducible exact Ent.refl | fail) | ((with_reducible apply iEq); with_reducible rfl) | fail)
def getI : List Int → List (Nat × Bool) → Option (List Int)
  | acc, [] => some acc
  | acc, q :: r => match (!q.2) || decide ((acc.length : Int) = 80) with
    | true => none
    | false => getI (acc ++ [(q.1 : Int)]) r
def accK (xs : List (Nat × Bool)) (k : Nat) : List Int := (xs.take k).map fun q => (q.1 : Int)
def iGet (l : List UInt8) : Option (List Int) := getI [] (lets l)
theorem letsN_len : ∀ (f : Nat) (l : List UInt8), (letsN f l).length ≤ f
  | 0, _ => Nat.le_refl _
  | f + 1, l => by
    simp only [letsN]
    split
    · simp
    · split
      · have := letsN_len f (l.drop (dec l).2); simp; omega
      · simp
set_option maxRecDepth 100000 in
set_option maxHeartbeats 4000000 in
theorem iGet_c (l : List UInt8) (hl : l.length ≤ 10000000) : Spec Tryz.prog 8 [sv l] [tabs] [] (fun u : Value => .tuple #[u, .bool (iGet l).isSome]) (fun u => [row eInt 3 u ((iGet l).getD [])]) (fun _ => True) := by
  refine Spec.mkM Tryz.func8 rfl Tryz.ntmps8 rfl ?_
  intro w0 O hR hS0
  have hr := hR _ List.mem_cons_self; clear hR hS0
  have hn : (lets l).length ≤ 10000000 := Nat.le_trans (letsN_len _ _) hl
  obtain ⟨g, hg⟩ : ∃ g, iGet l = g := ⟨_, rfl⟩
  rw [hg]
  repeat' (first | ((with_reducible apply iOJ); first | ((with_reducible apply iOp); refine OJ.p ?_) | with_reducible apply OJ.nil | ((with_reducible apply iOg); first | refine OJ.guardY ?_ | refine OJ.guardN ?_ | refine OJ.guardNd ?_ | refine OJ.guardU ?_ | refine OJ.guardS (fun _ => ?_) (fun _ => ?_) | fail) | ((with_reducible apply iOstore); first | (refine OJ.as AS.store ?_; rintro _ _ rfl) | (refine OJ.as AS.storeA ?_; rintro _ _ rfl) | (refine OJ.as AS.storeAV ?_; rintro _ _ rfl) | (refine OJ.as AS.storeE ?_; rintro _ _ rfl) | (refine OJ.as AS.storeEA ?_; rintro _ _ rfl) | (refine OJ.as AS.storeP ?_; rintro _ _ rfl) | fail) | ((with_reducible apply iOcall); first | (refine OJ.as AS.append1 ?_; rintro _ _ rfl) | (refine OJ.as AS.append ?_; rintro _ _ rfl) | (refine OJ.as (AS.call1 (letters_c l)) ?_; rotate_right; rintro _ _ ⟨y, hy, rfl, rfl⟩) | fail) | ((with_reducible apply iObox); first | (refine OJ.as AS.box1 ?_; rintro _ _ ⟨_, rfl, rfl⟩) | (refine OJ.as AS.boxA ?_; rintro _ _ ⟨_, rfl, rfl⟩) | fail) | ((with_reducible apply iOalloc); first | (refine OJ.as AS.alloc ?_; rintro _ _ ⟨_, rfl, rfl⟩) | fail) | ((with_reducible apply iObuildSlice); first | (refine OJ.as AS.buildSlice ?_; rintro _ _ ⟨_, rfl, rfl⟩) | fail) | ((with_reducible apply iOmakeSlice); first | (refine OJ.as AS.makeSlice ?_; rintro _ _ rfl) | fail) | ((with_reducible apply iOmakeMap); first | (refine OJ.as AS.makeMap ?_; rintro _ _ ⟨_, rfl, rfl⟩) | fail) | ((with_reducible apply iOmapEntry); first | (refine OJ.as AS.mapEntry ?_; rintro _ _ ⟨_, _, rfl, rfl⟩) | fail) | ((with_reducible apply iOentryStore); first | (refine OJ.as AS.entryStore ?_; rintro _ _ rfl) | fail) | ((with_reducible apply iOinsert); first | (refine OJ.as AS.insert ?_; rintro _ _ rfl) | fail) | ((with_reducible apply iOmapUpdate); first | (refine OJ.as AS.mapUpdate ?_; rintro _ _ rfl) | fail) | refine OJ.unboxP fun _ => ?_ | fail) | ((with_reducible apply iJ); first | refine J.seq ?_ | refine J.region ?_ | refine J.block ?_ | refine J.skip ?_ | refine J.exit ?_ | refine J.condT ?_ | refine J.condF ?_ | refine J.cond (fun _ => ?_) (fun _ => ?_) | fail) | ((with_reducible apply iJK); first | refine JK.code ?_ | refine JK.blk ?_ | refine JK.loop ?_ | refine JK.begin ?_ | refine JK.more ?_ | fail) | ((with_reducible apply iEnt); first | exact Ent.nil | ((with_reducible apply iERow); refine Ent.row ?_ ?_) | ((with_reducible apply iEBox); first | refine Ent.box ?_ ?_ | refine Ent.box2 ?_ ?_) | ((with_reducible apply iEBlk); refine Ent.blk ?_ ?_) | ((with_reducible apply iEPure); refine Ent.pure ?_ ?_) | ((with_reducible apply iERdR); first | refine Ent.rdR ?_ | refine Ent.any ?_ | fail) | refine Ent.any ?_ | with_reducible exact Ent.refl | fail) | ((with_reducible apply iEq); with_reducible rfl) | fail)
  rename_i b2 b3 b4
  refine J.range (fun k => [boxR b4 31 eInt 3 (accK (lets l) k), blk b3 (.cells #[.bool false] 4 (0, 0)), blk b2 (.cells #[.slice none 0 0] 31 (0, 0)), pureR (g = getI (accK (lets l) k) ((lets l).drop k))])
    (fun _ c => [blk b3 (.cells #[.bool false] 4 (0, 0)), blk b2 (.cells #[.slice none 0 0] 31 (0, 0)), pureR (c = .ret ∧ g = none)]) (lettersIt y l) (fun k => ⟨fun R h => by rw [List.mem_singleton.1 h]; exact Rd.base hr⟩)
    (fun a ha => by obtain ⟨s, _, rfl⟩ := List.mem_map.1 ha; rfl) ?_ ?_ ?_ (hL := by refine Ent.blkS ?_; refine Ent.box2 ?_ ?_; refine Ent.blkS ?_; refine Ent.blkS ?_; exact Ent.pure Ent.nil hg.symm; rfl)
  · intro l' rc fr k a ha
    obtain ⟨s, hs, rfl⟩ : ∃ s, (lets l)[k]? = some s ∧ a = vLet s := by
      rw [List.getElem?_map] at ha
      obtain ⟨s, h1, h2⟩ := Option.map_eq_some_iff.1 ha
      exact ⟨s, h1, h2.symm⟩
    have hk := (List.getElem?_eq_some_iff.1 hs).1
    refine J.pureAt fun hm => ?_
    have hal : (accK (lets l) k).length ≤ 10000000 := by simp only [accK, List.length_map, List.length_take]; omega
    have hdr : (lets l).drop k = s :: (lets l).drop (k + 1) := by rw [List.drop_eq_getElem_cons hk, (List.getElem?_eq_some_iff.1 hs).2]
    have hac : accK (lets l) (k + 1) = accK (lets l) k ++ [(s.1 : Int)] := by simp only [accK, List.take_add_one, hs, List.map_append]; rfl
    rw [hdr] at hm
    repeat' (first | ((with_reducible apply iOJ); first | ((with_reducible apply iOp); refine OJ.p ?_) | with_reducible apply OJ.nil | ((with_reducible apply iOg); first | refine OJ.guardY ?_ | refine OJ.guardN ?_ | refine OJ.guardNd ?_ | refine OJ.guardU ?_ | refine OJ.guardS (fun _ => ?_) (fun _ => ?_) | fail) | ((with_reducible apply iOstore); first | (refine OJ.as AS.store ?_; rintro _ _ rfl) | (refine OJ.as AS.storeA ?_; rintro _ _ rfl) | (refine OJ.as AS.storeAV ?_; rintro _ _ rfl) | (refine OJ.as AS.storeE ?_; rintro _ _ rfl) | (refine OJ.as AS.storeEA ?_; rintro _ _ rfl) | (refine OJ.as AS.storeP ?_; rintro _ _ rfl) | fail) | ((with_reducible apply iOcall); first | (refine OJ.as AS.append1 ?_; rintro _ _ rfl) | (refine OJ.as AS.append ?_; rintro _ _ rfl) | fail) | ((with_reducible apply iObox); first | (refine OJ.as AS.box1 ?_; rintro _ _ ⟨_, rfl, rfl⟩) | (refine OJ.as AS.boxA ?_; rintro _ _ ⟨_, rfl, rfl⟩) | fail) | ((with_reducible apply iOalloc); first | (refine OJ.as AS.alloc ?_; rintro _ _ ⟨_, rfl, rfl⟩) | fail) | ((with_reducible apply iObuildSlice); first | (refine OJ.as AS.buildSlice ?_; rintro _ _ ⟨_, rfl, rfl⟩) | fail) | ((with_reducible apply iOmakeSlice); first | (refine OJ.as AS.makeSlice ?_; rintro _ _ rfl) | fail) | ((with_reducible apply iOmakeMap); first | (refine OJ.as AS.makeMap ?_; rintro _ _ ⟨_, rfl, rfl⟩) | fail) | ((with_reducible apply iOmapEntry); first | (refine OJ.as AS.mapEntry ?_; rintro _ _ ⟨_, _, rfl, rfl⟩) | fail) | ((with_reducible apply iOentryStore); first | (refine OJ.as AS.entryStore ?_; rintro _ _ rfl) | fail) | ((with_reducible apply iOinsert); first | (refine OJ.as AS.insert ?_; rintro _ _ rfl) | fail) | ((with_reducible apply iOmapUpdate); first | (refine OJ.as AS.mapUpdate ?_; rintro _ _ rfl) | fail) | refine OJ.unboxP fun _ => ?_ | fail) | ((with_reducible apply iJ); first | refine J.seq ?_ | refine J.region ?_ | refine J.block ?_ | refine J.skip ?_ | refine J.exit ?_ | refine J.condT ?_ | refine J.condF ?_ | refine J.cond (fun _ => ?_) (fun _ => ?_) | refine J.retR ?_ | fail) | ((with_reducible apply iJK); first | refine JK.code ?_ | refine JK.blk ?_ | refine JK.loop ?_ | refine JK.begin ?_ | refine JK.more ?_ | fail) | ((with_reducible apply iEnt); first | exact Ent.nil | ((with_reducible apply iERow); refine Ent.row ?_ ?_) | ((with_reducible apply iEBox); first | refine Ent.box ?_ ?_ | refine Ent.box2 ?_ ?_) | ((with_reducible apply iEBlk); refine Ent.blk ?_ ?_) | ((with_reducible apply iEPure); refine Ent.pure ?_ ?_) | ((with_reducible apply iERdR); first | refine Ent.rdR ?_ | refine Ent.any ?_ | fail) | refine Ent.any ?_ | with_reducible exact Ent.refl | fail) | ((with_reducible apply iEq); with_reducible rfl) | fail)
    all_goals first
      | (refine ⟨rfl, ?_⟩; rw [hm]; simp [getI, *]; done)
      | exact hac.symm
      | (rw [hm, hac]; simp [getI, *]; done)
  · intro D
    refine JK.pureAt fun hm => ?_
    obtain rfl : g = some (accK (lets l) ((lets l).map vLet).length) := by rw [hm, List.length_map, List.drop_length]; rfl
    repeat' (first | ((with_reducible apply iOJ); first | ((with_reducible apply iOp); refine OJ.p ?_) | with_reducible apply OJ.nil | ((with_reducible apply iOg); first | refine OJ.guardY ?_ | refine OJ.guardN ?_ | refine OJ.guardNd ?_ | refine OJ.guardU ?_ | refine OJ.guardS (fun _ => ?_) (fun _ => ?_) | fail) | ((with_reducible apply iOstore); first | (refine OJ.as AS.store ?_; rintro _ _ rfl) | (refine OJ.as AS.storeA ?_; rintro _ _ rfl) | (refine OJ.as AS.storeAV ?_; rintro _ _ rfl) | (refine OJ.as AS.storeE ?_; rintro _ _ rfl) | (refine OJ.as AS.storeEA ?_; rintro _ _ rfl) | (refine OJ.as AS.storeP ?_; rintro _ _ rfl) | fail) | ((with_reducible apply iOcall); first | (refine OJ.as AS.append1 ?_; rintro _ _ rfl) | (refine OJ.as AS.append ?_; rintro _ _ rfl) | fail) | ((with_reducible apply iObox); first | (refine OJ.as AS.box1 ?_; rintro _ _ ⟨_, rfl, rfl⟩) | (refine OJ.as AS.boxA ?_; rintro _ _ ⟨_, rfl, rfl⟩) | fail) | ((with_reducible apply iOalloc); first | (refine OJ.as AS.alloc ?_; rintro _ _ ⟨_, rfl, rfl⟩) | fail) | ((with_reducible apply iObuildSlice); first | (refine OJ.as AS.buildSlice ?_; rintro _ _ ⟨_, rfl, rfl⟩) | fail) | ((with_reducible apply iOmakeSlice); first | (refine OJ.as AS.makeSlice ?_; rintro _ _ rfl) | fail) | ((with_reducible apply iOmakeMap); first | (refine OJ.as AS.makeMap ?_; rintro _ _ ⟨_, rfl, rfl⟩) | fail) | ((with_reducible apply iOmapEntry); first | (refine OJ.as AS.mapEntry ?_; rintro _ _ ⟨_, _, rfl, rfl⟩) | fail) | ((with_reducible apply iOentryStore); first | (refine OJ.as AS.entryStore ?_; rintro _ _ rfl) | fail) | ((with_reducible apply iOinsert); first | (refine OJ.as AS.insert ?_; rintro _ _ rfl) | fail) | ((with_reducible apply iOmapUpdate); first | (refine OJ.as AS.mapUpdate ?_; rintro _ _ rfl) | fail) | refine OJ.unboxP fun _ => ?_ | fail) | ((with_reducible apply iJ); first | refine J.seq ?_ | refine J.region ?_ | refine J.block ?_ | refine J.skip ?_ | refine J.exit ?_ | refine J.condT ?_ | refine J.condF ?_ | refine J.cond (fun _ => ?_) (fun _ => ?_) | refine J.retXM (ends _ trivial rfl ?_) | fail) | ((with_reducible apply iJK); first | refine JK.code ?_ | refine JK.blk ?_ | refine JK.loop ?_ | refine JK.begin ?_ | refine JK.more ?_ | fail) | ((with_reducible apply iEnt); first | exact Ent.nil | ((with_reducible apply iERow); refine Ent.row ?_ ?_) | ((with_reducible apply iEBox); first | refine Ent.box ?_ ?_ | refine Ent.box2 ?_ ?_) | ((with_reducible apply iEBlk); refine Ent.blk ?_ ?_) | ((with_reducible apply iEPure); refine Ent.pure ?_ ?_) | ((with_reducible apply iERdR); first | refine Ent.rdR ?_ | refine Ent.any ?_ | fail) | refine Ent.any ?_ | with_reducible exact Ent.refl | fail) | ((with_reducible apply iEq); with_reducible rfl) | fail)
    rfl
  · intro D j c
    refine J.pureAt fun hm => ?_
    obtain ⟨rfl, rfl⟩ := hm
    repeat' (first | ((with_reducible apply iOJ); first | ((with_reducible apply iOp); refine OJ.p ?_) | with_reducible apply OJ.nil | ((with_reducible apply iOg); first | refine OJ.guardY ?_ | refine OJ.guardN ?_ | refine OJ.guardNd ?_ | refine OJ.guardU ?_ | refine OJ.guardS (fun _ => ?_) (fun _ => ?_) | fail) | ((with_reducible apply iOstore); first | (refine OJ.as AS.store ?_; rintro _ _ rfl) | (refine OJ.as AS.storeA ?_; rintro _ _ rfl) | (refine OJ.as AS.storeAV ?_; rintro _ _ rfl) | (refine OJ.as AS.storeE ?_; rintro _ _ rfl) | (refine OJ.as AS.storeEA ?_; rintro _ _ rfl) | (refine OJ.as AS.storeP ?_; rintro _ _ rfl) | fail) | ((with_reducible apply iOcall); first | (refine OJ.as AS.append1 ?_; rintro _ _ rfl) | (refine OJ.as AS.append ?_; rintro _ _ rfl) | fail) | ((with_reducible apply iObox); first | (refine OJ.as AS.box1 ?_; rintro _ _ ⟨_, rfl, rfl⟩) | (refine OJ.as AS.boxA ?_; rintro _ _ ⟨_, rfl, rfl⟩) | fail) | ((with_reducible apply iOalloc); first | (refine OJ.as AS.alloc ?_; rintro _ _ ⟨_, rfl, rfl⟩) | fail) | ((with_reducible apply iObuildSlice); first | (refine OJ.as AS.buildSlice ?_; rintro _ _ ⟨_, rfl, rfl⟩) | fail) | ((with_reducible apply iOmakeSlice); first | (refine OJ.as AS.makeSlice ?_; rintro _ _ rfl) | fail) | ((with_reducible apply iOmakeMap); first | (refine OJ.as AS.makeMap ?_; rintro _ _ ⟨_, rfl, rfl⟩) | fail) | ((with_reducible apply iOmapEntry); first | (refine OJ.as AS.mapEntry ?_; rintro _ _ ⟨_, _, rfl, rfl⟩) | fail) | ((with_reducible apply iOentryStore); first | (refine OJ.as AS.entryStore ?_; rintro _ _ rfl) | fail) | ((with_reducible apply iOinsert); first | (refine OJ.as AS.insert ?_; rintro _ _ rfl) | fail) | ((with_reducible apply iOmapUpdate); first | (refine OJ.as AS.mapUpdate ?_; rintro _ _ rfl) | fail) | refine OJ.unboxP fun _ => ?_ | fail) | ((with_reducible apply iJ); first | refine J.seq ?_ | refine J.region ?_ | refine J.block ?_ | refine J.skip ?_ | refine J.exit ?_ | refine J.condT ?_ | refine J.condF ?_ | refine J.cond (fun _ => ?_) (fun _ => ?_) | refine J.retXM (ends _ trivial rfl ?_) | fail) | ((with_reducible apply iJK); first | refine JK.code ?_ | refine JK.blk ?_ | refine JK.loop ?_ | refine JK.begin ?_ | refine JK.more ?_ | fail) | ((with_reducible apply iEnt); first | exact Ent.nil | ((with_reducible apply iERow); refine Ent.row ?_ ?_) | ((with_reducible apply iEBox); first | refine Ent.box ?_ ?_ | refine Ent.box2 ?_ ?_) | ((with_reducible apply iEBlk); refine Ent.blk ?_ ?_) | ((with_reducible apply iEPure); refine Ent.pure ?_ ?_) | ((with_reducible apply iERdR); first | refine Ent.rdR ?_ | refine Ent.any ?_ | fail) | refine Ent.any ?_ | with_reducible exact Ent.refl | fail) | ((with_reducible apply iEq); with_reducible rfl) | fail)
    rfl
end Go.SL

/- Rows of small numbers (bytes as numbers); bytes to texts. -/
set_option linter.unusedVariables false
set_option linter.unusedSimpArgs false
namespace Go.SL
open Go.RowKit
def eU8 : Enc Int where
  sz := 1
  f x := [.int .u8 x]
  d := 0
  dec
    | [.int .u8 x] => some x
    | _ => none
  pos := by decide
  len _ := rfl
  one x u hu := by rw [List.mem_singleton.1 hu]; rfl
  inv cs x h := by
    split at h
    · injection h with h; rw [h]
    · cases h
/-- Numbers as a text. -/
def txt (xs : List Int) : List UInt8 := xs.map fun n => UInt8.ofNat n.toNat
theorem push_all : ∀ (xs : List Int) (s : ByteArray), xs.foldl (fun r n => r.push (UInt8.ofNat n.toNat)) s = ⟨s.data ++ (txt xs).toArray⟩
  | [], s => by simp [txt]
  | x :: xs, s => by
    rw [List.foldl_cons, push_all xs]
    simp [txt, ByteArray.push]
theorem flat_u8 : ∀ (xs : List Int), xs.flatMap eU8.f = xs.map (Value.int .u8)
  | [] => rfl
  | x :: xs => by rw [List.flatMap_cons, flat_u8 xs]; rfl
theorem txt_len (xs : List Int) : (txt xs).length = xs.length := List.length_map ..
theorem txt_app (xs ys : List Int) : txt (xs ++ ys) = txt xs ++ txt ys := List.map_append ..
section
variable {P : Program} {x : Cx} {E : List (Nat × Value)} {L L' : List HP} {ty t t' e : TypeId} {y z c : Operand} {v u : Value}
theorem PS.text {xs : List Int} [hSl : SlT P t e] [hI : IntT P e .u8] [hD : StrT P t'] (hv : ev E y = some v := by rfl) (hr : autoParam (Rd x.w0 x.O L (rd eU8 v xs)) ARD.h._autoParam) : PS P x E L (.convert t t' y) ty (sv (txt xs)) := ⟨fun a w _ _ _ _ hE hS => by
  obtain ⟨A, cp, rfl, hc, _, hA⟩ := hr.h w hS
  have e1 : (convert t t' (.slice A xs.length cp)).run P w = .ok (sv (txt xs)) w := by
    rw [run_convert_bytes_string w t t' e A _ _ hSl.h hI.h hD.h]
    by_cases h0 : 0 < xs.length
    · obtain ⟨ad, rfl, hc⟩ := hA h0
      have hl := run_loadCells_list (P := P) w ad (xs.map (Value.int .u8)) (fun j u hu => hc j u (by rw [flat_u8]; exact hu))
      rw [List.length_map] at hl
      rw [run_bytesToString w ad _ cp xs hl, push_all]
      simp [sv]
    · have : xs = [] := List.length_eq_zero_iff.1 (by omega)
      subst this
      cases A with
      | none => rfl
      | some ad =>
        exact (run_bytesToString w ad 0 cp [] (run_loadCells_list (P := P) w ad [] (fun j u hu => by cases hu))).trans (by rw [push_all]; rfl)
  simp only [execOp, hE.ev hv]
  simp only [Sem.run_bind, e1, Result.andThen]
  rfl⟩
theorem Pick.u8Row {b n : Nat} {cs : Array Value} {xs : List Int} (hd : decs eU8 n cs.toList = some xs := by rfl) (hn : Nat.ble n 16777216 = true := by rfl) : Pick (blk b (.cells cs e (0, 0)) :: L) (SL.row eU8 e (.slice (some ⟨b, 0, none⟩) n n) xs) L := ⟨fun g hg => by
  obtain ⟨h1, h2, d, rfl, hb, hL⟩ := hg
  obtain ⟨hl, hf⟩ := decs_eq _ _ _ hd
  exact ⟨h1, h2, d, rfl, row_blk hf.symm hl (by have := Nat.le_of_ble_eq_true hn; simp [maxLen]; omega) rfl hb, hL⟩⟩
theorem Pick.u8Nil : Pick L (SL.row eU8 e (.slice none 0 0) []) L := ⟨fun g hg => ⟨fun _ => none, g, fun _ => .inl rfl, rfl, ⟨by simp, .inl ⟨rfl, rfl, rfl⟩⟩, hg⟩⟩
/-- Values of one cell each. -/
structure AllOne (x : Cx) (L : List HP) (vs : List Value) : Prop where
  h : ∀ w, SAT x.w0 x.O L w → ∀ u ∈ vs, u.oneCell' = true
theorem AllOne.nil : AllOne x L [] := ⟨fun _ _ _ h => by cases h⟩
theorem AllOne.cons {us : List Value} (h : One x L u) (ht : AllOne x L us) : AllOne x L (u :: us) := ⟨fun w hw a ha => by
  cases ha with
  | head => exact h.h w hw
  | tail _ h' => exact ht.h w hw a h'⟩
theorem AS.storeAV {b f sz bt : Nat} {zv : Value} {cs : Array Value} {T : TypeId} {vs r : List Value} [hT : Ty P t true sz bt zv] (hy : ev E y = some (.pointer (some ⟨b, f, none⟩)) := by rfl) (hz : ev E z = some (.agg vs.toArray) := by rfl)
    (hp : autoParam (Pick L (blk b (.cells cs T (0, 0))) L') APK.h._autoParam) (hu : updO cs.toList f vs = some r := by rfl) (hs : Nat.beq vs.length sz = true := by rfl) (h1 : autoParam (AllOne x L vs) AAOS.h._autoParam) : AS P x E L (.store t y z) ty (fun _ L1 => L1 = blk b (.cells r.toArray T (0, 0)) :: L') := by
  refine ⟨fun a w dst pos aft g next Q hE hS hn => ?_⟩
  have hS' := hS.pick hp
  have hr0 := storeRun (P := P) hS'.read hu (h1.h w hS)
  have hsz := Nat.eq_of_beq_eq_true hs
  have hr : (execOp a.eval ⟨dst, .store t y z, ty, pos, aft, g⟩).run P w = .ok .skip (w.setRow b r.toArray) := by
    simp [execOp, hE.ev hy, hE.ev hz, Instr.storeAt, Instr.sureAddr, storeVar, Value.cells, hT.sizeOf, hsz, hr0]
  refine .inl ?_
  unfold Oper.wp
  rw [hr]
  exact hn undef _ _ rfl hS'.setRow
theorem ResIn.cellA {E : List (Nat × Value)} {rs : List ResultVar} {vs : List Value} {us : List Value} {cl rt : Nat} {b f sz bt : Nat} {zv : Value} {cs : Array Value} {T : TypeId} [hT : Ty P rt true sz bt zv] (h : ResIn P x E L rs vs) (hv : lookup E cl = some (.pointer (some ⟨b, f, none⟩)) := by rfl)
    (hp : autoParam (Pick L (blk b (.cells cs T (0, 0))) L') APK.h._autoParam) (hs : slc cs.toList f sz = us := by rfl) (hl : Nat.ble (f + sz) cs.toList.length = true := by rfl) : ResIn P x E L (.cell cl rt :: rs) (.agg us.toArray :: vs) := ResIn.one h hv fun w hS => by
  have hv := (slc_eq cs.toList f sz).symm.trans hs
  have hw := (hS.pick hp).read
  have hlen := Nat.le_of_ble_eq_true hl
  have hvl : us.length = sz := by rw [← hv]; simp; simp at hlen; omega
  have hr := run_loadCells_list (P := P) w ⟨b, f, none⟩ us (fun j u hu => by
    rw [at_off, ← hv, List.getElem?_take] at *
    split at hu
    · rw [List.getElem?_drop] at hu
      simp [World.cell?, hw]
      simpa using hu
    · cases hu)
  rw [hvl] at hr
  simp [loadVar, hT.isAgg, hT.sizeOf, hr]
end
end Go.SL

/- Maps of ints; slices that can only be read; interface values; slices compared with nil. -/
set_option linter.unusedVariables false
set_option linter.unusedSimpArgs false
namespace Go.SL
open Go.RowKit Go.MapKept

/-! ### what can be read, as a resource -/
def rdR {α : Type} (k : Enc α) (v : Value) (xs : List α) : HP := fun h => ∀ w, Emb h w → rd k v xs w
theorem emb_join {h1 h2 : PH} {w : World} (h : Emb (PH.join h1 h2) w) : Emb h1 w := fun k o e => h k o (by unfold PH.join; rw [e])
theorem row_rdR {α : Type} {k : Enc α} {e : TypeId} {v : Value} {xs : List α} {h : PH} (hr : row k e v xs h) : rdR k v xs h := fun w he => by
  refine SAT.rd (w0 := w) (O := fun _ => True) (L := []) (e := e) ⟨KeptW.refl _ _, h, he, fun _ _ _ => .inl trivial, h, fun _ => none, fun _ => .inr rfl, ?_, hr, fun _ => rfl⟩
  funext j
  unfold PH.join
  cases h j <;> rfl
theorem Rd.rdR {w0 : World} {O : Nat → Prop} {L L' : List HP} {α : Type} {k : Enc α} {v : Value} {xs : List α} (hp : Pick L (SL.rdR k v xs) L') : Rd w0 O L (SL.rd k v xs) := ⟨fun w hw => by
  obtain ⟨g, he, _, h1, h2, _, rfl, hr, _⟩ := (hw.pick hp).2
  exact hr w (emb_join he)⟩
theorem Pick.rowRdR {α : Type} {k : Enc α} {e : TypeId} {v : Value} {xs : List α} {L L' : List HP} (hp : Pick L (row k e v xs) L') : Pick L (rdR k v xs) L' := ⟨fun g hg => by
  obtain ⟨h1, h2, d, rfl, a, b⟩ := hp.h g hg
  exact ⟨h1, h2, d, rfl, row_rdR a, b⟩⟩
theorem Ent.rdR {α : Type} {k : Enc α} {e : TypeId} {v : Value} {xs : List α} {L L1 L2 : List HP} (h : Ent L1 L2) (hp : autoParam (Pick L (SL.row k e v xs) L1) APK.h._autoParam) : Ent L (SL.rdR k v xs :: L2) := Ent.pick (Pick.rowRdR hp) h

/-! ### maps of ints -/
/-- What the entries say. -/
structure Says (es : Array MapEntry) (f : Int → Option Int) (but : Int → Prop) : Prop where
  all : ∀ x ∈ es.toList, ∃ k v, x.key = .int .i64 k ∧ x.val = .int .i64 v
  at_ : ∀ k, ¬ but k → ∀ v, f k = some v ↔ ∃ x ∈ es.toList, x.key = .int .i64 k ∧ x.val = .int .i64 v
def mapF (b : Nat) (f : Int → Option Int) : HP := fun h => ∃ es clock, Stamped es clock ∧ Says es f (fun _ => False) ∧ blk b (.map es clock) h
/-- An entry for k0 is there, stamped s; it has no value yet. -/
def mapE (b : Nat) (f : Int → Option Int) (k0 : Int) (s : Nat) : HP := fun h => ∃ es clock, Stamped es clock ∧ Says es f (fun k => k = k0) ∧ (∃ x ∈ es.toList, x.key = .int .i64 k0 ∧ x.born = s) ∧ blk b (.map es clock) h
def rdM (b : Nat) (f : Int → Option Int) (w : World) : Prop := ∃ es clock, Says es f (fun _ => False) ∧ w.heap[b]? = some (.map es clock)
section
variable {w0 w : World} {O : Nat → Prop} {L L' : List HP} {b : Nat} {f : Int → Option Int}
theorem SAT.mapF (h : SAT w0 O (mapF b f :: L) w) : ∃ es clock, Stamped es clock ∧ Says es f (fun _ => False) ∧ SAT w0 O (blk b (.map es clock) :: L) w := by
  obtain ⟨hk, g, he, hd, h1, h2, d, rfl, ⟨es, cl, hs, hf, hb⟩, hL⟩ := h
  exact ⟨es, cl, hs, hf, hk, _, he, hd, h1, h2, d, rfl, hb, hL⟩
theorem SAT.mapE {k0 : Int} {s : Nat} (h : SAT w0 O (mapE b f k0 s :: L) w) : ∃ es clock, Stamped es clock ∧ Says es f (fun k => k = k0) ∧ (∃ x ∈ es.toList, x.key = .int .i64 k0 ∧ x.born = s) ∧ SAT w0 O (blk b (.map es clock) :: L) w := by
  obtain ⟨hk, g, he, hd, h1, h2, d, rfl, ⟨es, cl, hs, hf, hx, hb⟩, hL⟩ := h
  exact ⟨es, cl, hs, hf, hx, hk, _, he, hd, h1, h2, d, rfl, hb, hL⟩
theorem Rd.map (hp : Pick L (SL.mapF b f) L') : Rd w0 O L (rdM b f) := ⟨fun w hw => by
  obtain ⟨es, cl, _, hf, h⟩ := (hw.pick hp).mapF
  exact ⟨es, cl, hf, h.read⟩⟩
end
theorem int_ne {a b : Int} (h : (Value.int .i64 a) = .int .i64 b) : a = b := by injection h
theorem Says.same {es : Array MapEntry} {f : Int → Option Int} {a b : Int → Prop} (h : Says es f a) (hab : ∀ k, a k → b k) : Says es f b := ⟨h.all, fun k hk => h.at_ k fun e => hk (hab k e)⟩
theorem modify_mem {es : Array MapEntry} {i : Nat} {g : MapEntry → MapEntry} {x : MapEntry} : x ∈ (es.modify i g).toList ↔ (∃ j, j ≠ i ∧ es[j]? = some x) ∨ ∃ e, es[i]? = some e ∧ x = g e := by
  rw [Array.mem_toList_iff, Array.mem_iff_getElem?]
  constructor
  · rintro ⟨j, hj⟩
    rw [Array.getElem?_modify] at hj
    split at hj
    · rename_i e
      subst e
      cases he : es[i]? with
      | none => rw [he] at hj; cases hj
      | some e => rw [he] at hj; simp at hj; exact .inr ⟨e, rfl, hj.symm⟩
    · rename_i e
      exact .inl ⟨j, Ne.symm e, hj⟩
  · rintro (⟨j, hj, he⟩ | ⟨e, he, rfl⟩)
    · exact ⟨j, by rw [Array.getElem?_modify, if_neg (Ne.symm hj)]; exact he⟩
    · exact ⟨i, by rw [Array.getElem?_modify, if_pos rfl, he]; rfl⟩
theorem get_mem {es : Array MapEntry} {i : Nat} {e : MapEntry} (h : es[i]? = some e) : e ∈ es.toList := by
  rw [Array.mem_toList_iff, Array.mem_iff_getElem?]; exact ⟨i, h⟩
theorem mem_get {es : Array MapEntry} {e : MapEntry} (h : e ∈ es.toList) : ∃ i : Nat, es[i]? = some e := by
  rw [Array.mem_toList_iff, Array.mem_iff_getElem?] at h; exact h
theorem Stamped.key {es : Array MapEntry} {cl : Nat} (h : Stamped es cl) {i j : Nat} {x y : MapEntry} (hx : es[i]? = some x) (hy : es[j]? = some y) (hk : x.key = y.key) : i = j := by
  have hn := h.2.2
  have e1 : (es.toList.map (·.key))[i]? = some x.key := by simp [hx]
  have e2 : (es.toList.map (·.key))[j]? = some x.key := by simp [hy, hk]
  have hi := (List.getElem?_eq_some_iff.1 e1).1
  exact (List.getElem?_inj hi hn).1 (e1.trans e2.symm)
theorem Stamped.born {es : Array MapEntry} {cl : Nat} (h : Stamped es cl) {i j : Nat} {x y : MapEntry} (hx : es[i]? = some x) (hy : es[j]? = some y) (hk : x.born = y.born) : i = j := by
  have hn := h.2.1
  have e1 : (es.toList.map (·.born))[i]? = some x.born := by simp [hx]
  have e2 : (es.toList.map (·.born))[j]? = some x.born := by simp [hy, hk]
  have hi := (List.getElem?_eq_some_iff.1 e1).1
  exact (List.getElem?_inj hi hn).1 (e1.trans e2.symm)
def updF (f : Int → Option Int) (k v : Int) : Int → Option Int := fun j => if j = k then some v else f j
section
variable {P : Program} {x : Cx} {E : List (Nat × Value)} {L L' : List HP} {k : List Fr} {ops : Array Oper} {rest : List Oper}
variable {ty t t' t'' : TypeId} {y z c : Operand} {v u : Value} {b : Nat} {f : Int → Option Int} {kk vv : Int}
theorem AS.makeMap : AS P x E L (.makeMap t none) ty (fun u L1 => ∃ b, u = .map (some b) ∧ L1 = mapF b (fun _ => none) :: L) :=
  AS.run fun a w dst pos aft g hE hS => ⟨.map (some w.heap.size), w.alloc (.map #[] 0), mapF w.heap.size (fun _ => none) :: L, by
    simp [execOp, Instr.makeMap], SAT.imp (hS.alloc _) (fun g hg => ⟨#[], 0, MapKept.stamped_empty 0, ⟨by simp, by simp⟩, hg⟩), _, rfl, rfl⟩
theorem isKeyI (n : Int) : IsKey (.int .i64) (.int .i64 n) := rfl
theorem Says.keys {es : Array MapEntry} {bt : Int → Prop} (h : Says es f bt) : ∀ x ∈ es.toList, IsKey (.int .i64) x.key := fun x hx => by
  obtain ⟨k, v, e, _⟩ := h.all x hx
  rw [e]
  rfl
theorem AS.mapEntry {kt et : TypeId} {bt : Nat} [hM : MapT P t kt et] [hK : IntT P kt .i64] [hT : Ty P et false 1 bt (.int .i64 0)] (hy : ev E y = some (.map (some b)) := by rfl) (hz : ev E z = some (.int .i64 kk) := by rfl) (hp : autoParam (Pick L (mapF b f) L') APK.h._autoParam) :
    AS P x E L (.mapEntry t y z) ty (fun u L1 => ∃ n : Int, ∃ s : Nat, u = .tuple #[.int .i64 n, .int .i64 (s : Int)] ∧ L1 = mapE b f kk s :: L') := by
  refine AS.run fun a w dst pos aft g hE hS => ?_
  obtain ⟨es, cl, hst, hf, hS1⟩ := (hS.pick hp).mapF
  have hb := hS1.read
  have hk := isKeyI kk
  rcases MapKept.findNow_spec hk es.toList 0 hf.keys with ⟨h1, h2⟩ | ⟨j, e, h1, h2, h3⟩
  · refine ⟨.tuple #[.int .i64 0, .int .i64 (cl : Int)], { w with heap := w.heap.setIfInBounds b (.map (es.push { key := .int .i64 kk, val := .int .i64 0, born := cl }) (cl + 1)) }, mapE b f kk cl :: L', ?_, ?_, _, _, rfl, rfl⟩
    · simp only [execOp, hE.ev hy, hE.ev hz]
      simp [Instr.mapEntry, run_underlying hM.h, MapKept.run_getObj_map hb, MapKept.run_checkKey hK.h hk, MapKept.run_findKey hK.h h1, MapKept.run_setObj_map _ hb, Result.andThen, hT.zeroValue, goInt]
    · refine SAT.imp (hS1.put (o' := .map (es.push { key := .int .i64 kk, val := .int .i64 0, born := cl }) (cl + 1)) rfl rfl rfl (by simp) (fun j hj => (MapKept.heap_set hb).2 j hj) (MapKept.heap_set hb).1) fun g hg => ?_
      refine ⟨_, _, MapKept.stamped_push hst h2, ⟨fun x hx => ?_, fun k hk v => ?_⟩, ⟨{ key := .int .i64 kk, val := .int .i64 0, born := cl }, by simp, rfl, rfl⟩, hg⟩
      · simp only [Array.toList_push, List.mem_append, List.mem_singleton] at hx
        rcases hx with hx | rfl
        · exact hf.all x hx
        · exact ⟨_, _, rfl, rfl⟩
      · rw [hf.at_ k id v]
        constructor
        · rintro ⟨x, hx, e⟩
          exact ⟨x, by simp at hx ⊢; exact .inl hx, e⟩
        · rintro ⟨x, hx, e1, e2⟩
          simp only [Array.toList_push, List.mem_append, List.mem_singleton] at hx
          rcases hx with hx | rfl
          · exact ⟨x, hx, e1, e2⟩
          · exact absurd (int_ne e1).symm hk
  · have hj : es[j]? = some e := by simpa using h2
    obtain ⟨k1, v1, e1, e2⟩ := hf.all e (get_mem hj)
    have hes : es.modify j (fun e => { e with key := .int .i64 kk }) = es := by
      apply Array.ext_getElem?
      intro i
      rw [Array.getElem?_modify]
      split
      · rename_i q
        subst q
        rw [hj]
        simp only [Option.map_some, Option.some.injEq]
        rw [← h3]
      · rfl
    refine ⟨.tuple #[e.val, .int .i64 (e.born : Int)], { w with heap := w.heap.setIfInBounds b (.map es cl) }, mapE b f kk e.born :: L', ?_, ?_, v1, e.born, by rw [e2], rfl⟩
    · simp only [execOp, hE.ev hy, hE.ev hz]
      simp [Instr.mapEntry, run_underlying hM.h, MapKept.run_getObj_map hb, MapKept.run_checkKey hK.h hk, MapKept.run_findKey hK.h h1, MapKept.run_setObj_map _ hb, Result.andThen, hj, h3, MapKept.run_keyThatStays hk, hes, goInt]
    · refine SAT.imp (hS1.put (o' := .map es cl) rfl rfl rfl (by simp) (fun j hj => (MapKept.heap_set hb).2 j hj) (MapKept.heap_set hb).1) fun g hg => ?_
      exact ⟨es, cl, hst, hf.same fun _ h => h.elim, ⟨e, get_mem hj, h3, rfl⟩, hg⟩
theorem AS.entryStore {s : Nat} (hy : ev E y = some (.map (some b)) := by rfl) (hz : ev E z = some (.int .i64 (s : Int)) := by rfl) (hc : ev E c = some (.int .i64 vv) := by rfl) (hp : autoParam (Pick L (mapE b f kk s) L') APK.h._autoParam) :
    AS P x E L (.entryStore t y z c) ty (fun _ L1 => L1 = mapF b (updF f kk vv) :: L') := by
  refine ⟨fun a w dst pos aft g next Q hE hS hn => ?_⟩
  obtain ⟨es, cl, hst, hf, ⟨x0, hx0, hk0, hs0⟩, hS1⟩ := (hS.pick hp).mapE
  have hb := hS1.read
  obtain ⟨i, hi⟩ := mem_get hx0
  have hfind : es.findIdx? (fun e => ((e.born : Int) == (s : Int))) = some i := by
    rw [Array.findIdx?_eq_some_iff_getElem]
    obtain ⟨hlt, he⟩ := Array.getElem?_eq_some_iff.1 hi
    refine ⟨hlt, by rw [he, hs0]; simp, fun j hji => ?_⟩
    have hj2 : es[j]? = some es[j] := Array.getElem?_eq_getElem (by omega)
    intro hbj
    have hbj : ((es[j].born : Int)) = (s : Int) := by simpa using hbj
    have := Stamped.born hst hj2 hi (by omega)
    omega
  have hr : (execOp a.eval ⟨dst, .entryStore t y z c, ty, pos, aft, g⟩).run P w = .ok .skip { w with heap := w.heap.setIfInBounds b (.map (es.modify i fun e => { e with val := .int .i64 vv }) cl) } := by
    simp only [execOp, hE.ev hy, hE.ev hz, hE.ev hc]
    simp [Instr.entryStore, MapKept.run_getObj_map hb, Result.andThen, asInt, asIntOf, hfind, MapKept.run_setObj_map _ hb]
  refine .inl ?_
  unfold Oper.wp
  rw [hr]
  refine hn undef _ _ rfl (SAT.imp (hS1.put (o' := .map (es.modify i fun e => { e with val := .int .i64 vv }) cl) rfl rfl rfl (by simp) (fun j hj => (MapKept.heap_set hb).2 j hj) (MapKept.heap_set hb).1) fun g hg => ?_)
  refine ⟨_, cl, MapKept.stamped_modify hst i (fun e => { e with val := .int .i64 vv }) (fun _ _ => rfl) (fun _ _ _ => rfl), ⟨fun x hx => ?_, fun k _ v => ?_⟩, hg⟩
  · rcases modify_mem.1 hx with ⟨j, _, hj⟩ | ⟨e, he, rfl⟩
    · exact hf.all x (get_mem hj)
    · obtain ⟨k1, v1, e1, _⟩ := hf.all e (get_mem he)
      exact ⟨k1, vv, e1, rfl⟩
  · unfold updF
    by_cases hk : k = kk
    · subst hk
      rw [if_pos rfl]
      constructor
      · rintro h
        injection h with h
        subst h
        exact ⟨{ x0 with val := .int .i64 vv }, modify_mem.2 (.inr ⟨x0, hi, rfl⟩), hk0, rfl⟩
      · rintro ⟨x, hx, e1, e2⟩
        rcases modify_mem.1 hx with ⟨j, hne, hj⟩ | ⟨e, he, rfl⟩
        · exact absurd (Stamped.key hst hj hi (e1.trans hk0.symm)) hne
        · exact congrArg some (int_ne e2)
    · rw [if_neg hk, hf.at_ k hk v]
      constructor
      · rintro ⟨x, hx, e1, e2⟩
        obtain ⟨j, hj⟩ := mem_get hx
        refine ⟨x, modify_mem.2 (.inl ⟨j, ?_, hj⟩), e1, e2⟩
        rintro rfl
        rw [hi] at hj
        injection hj with hj
        subst hj
        exact hk (int_ne (e1.symm.trans hk0))
      · rintro ⟨x, hx, e1, e2⟩
        rcases modify_mem.1 hx with ⟨j, _, hj⟩ | ⟨e, he, rfl⟩
        · exact ⟨x, get_mem hj, e1, e2⟩
        · rw [hi] at he
          injection he with he
          subst he
          exact absurd (int_ne (e1.symm.trans hk0)) hk
theorem PS.lookupF {kt et : TypeId} {bt : Nat} [hM : MapT P t kt et] [hK : IntT P kt .i64] [hT : Ty P et false 1 bt (.int .i64 0)] (hy : ev E y = some (.map (some b)) := by rfl) (hz : ev E z = some (.int .i64 kk) := by rfl) (hr : autoParam (Rd x.w0 x.O L (rdM b f)) ARD.h._autoParam) :
    PS P x E L (.lookup t y z true) ty (.tuple #[.int .i64 ((f kk).getD 0), .bool (f kk).isSome]) := ⟨fun a w _ _ _ _ hE hS => by
  obtain ⟨es, cl, hf, hb⟩ := hr.h w hS
  have hk := isKeyI kk
  rcases MapKept.findNow_spec hk es.toList 0 hf.keys with ⟨h1, h2⟩ | ⟨j, e, h1, h2, h3⟩
  · have hn : f kk = none := by
      cases e : f kk with
      | none => rfl
      | some v =>
        obtain ⟨x, hx, e1, _⟩ := (hf.at_ kk id v).1 e
        exact absurd e1 (h2 x hx)
    simp only [execOp, hE.ev hy, hE.ev hz]
    simp [Instr.lookup, run_underlying hM.h, MapKept.run_getObj_map hb, MapKept.run_checkKey hK.h hk, MapKept.run_findKey hK.h h1, Result.andThen, hT.zeroValue, hn]
  · have hj : es[j]? = some e := by simpa using h2
    obtain ⟨k1, v1, e1, e2⟩ := hf.all e (get_mem hj)
    have hn : f kk = some v1 := (hf.at_ kk id v1).2 ⟨e, get_mem hj, h3, e2⟩
    simp only [execOp, hE.ev hy, hE.ev hz]
    simp [Instr.lookup, run_underlying hM.h, MapKept.run_getObj_map hb, MapKept.run_checkKey hK.h hk, MapKept.run_findKey hK.h h1, Result.andThen, hn, e2]⟩
/-! ### interface values -/
theorem PS.iface [hN : NIfT P t] (hy : ev E y = some v := by rfl) : PS P x E L (.makeInterface t y) ty (.iface t v) := ⟨fun a w _ _ _ _ hE _ => by
  obtain ⟨d, hd, hn⟩ := hN.h
  simp only [execOp, hE.ev hy]
  simp only [Instr.makeInterface, Sem.run_bind, run_underlying hd, Result.andThen]
  cases d <;> first | rfl | exact absurd rfl (hn _)⟩
theorem equal_iface {w : World} [hI : IfT P t] {d : TypeId} {q : Value} : (Op.equal t (.iface d q) .nilIface).run P w = .ok false w := by
  obtain ⟨ms, hd⟩ := hI.h
  have h : ∀ n : Nat, (Op.equalIn (n + 1) t (.iface d q) .nilIface).run P w = .ok false w := fun n => by
    simp [Op.equalIn, run_underlying hd]
  simp only [Op.equal, Op.maxDepth]
  exact h 9999
theorem equal_nil {w : World} [hI : IfT P t] : (Op.equal t .nilIface .nilIface).run P w = .ok true w := by
  obtain ⟨ms, hd⟩ := hI.h
  have h : ∀ n : Nat, (Op.equalIn (n + 1) t .nilIface .nilIface).run P w = .ok true w := fun n => by
    simp [Op.equalIn, run_underlying hd]
  simp only [Op.equal, Op.maxDepth]
  exact h 9999
theorem PS.neIf {d : TypeId} {q : Value} [hI : IfT P t] (hy : ev E y = some (.iface d q) := by rfl) : PS P x E L (.binOp .neq t y (.const .nilIface) t') ty (.bool true) := ⟨fun a w _ _ _ _ hE _ => by
  have hc : a.eval (.const .nilIface) = .nilIface := rfl
  simp only [execOp, hE.ev hy, hc, eqGuard_at_iface]
  simp [binOp, equal_iface]⟩
theorem PS.neNil [hI : IfT P t] (hy : ev E y = some .nilIface := by rfl) : PS P x E L (.binOp .neq t y (.const .nilIface) t') ty (.bool false) := ⟨fun a w _ _ _ _ hE _ => by
  have hc : a.eval (.const .nilIface) = .nilIface := rfl
  simp only [execOp, hE.ev hy, hc, eqGuard_nil_constR]
  simp [binOp, equal_nil]⟩
theorem PS.eqIf {d : TypeId} {q : Value} [hI : IfT P t] (hy : ev E y = some (.iface d q) := by rfl) : PS P x E L (.binOp .eql t y (.const .nilIface) t') ty (.bool false) := ⟨fun a w _ _ _ _ hE _ => by
  have hc : a.eval (.const .nilIface) = .nilIface := rfl
  simp only [execOp, hE.ev hy, hc, eqGuard_at_iface]
  simp [binOp, equal_iface]⟩
theorem PS.eqNil [hI : IfT P t] (hy : ev E y = some .nilIface := by rfl) : PS P x E L (.binOp .eql t y (.const .nilIface) t') ty (.bool true) := ⟨fun a w _ _ _ _ hE _ => by
  have hc : a.eval (.const .nilIface) = .nilIface := rfl
  simp only [execOp, hE.ev hy, hc, eqGuard_nil_constR]
  simp [binOp, equal_nil]⟩
theorem eqslice {w : World} {e : TypeId} [hS : SlT P t e] {a : Option Addr} {n m : Nat} : (Op.equal t (.slice a n m) (.slice none 0 0)).run P w = .ok a.isNone w := by
  have h : ∀ k : Nat, (Op.equalIn (k + 1) t (.slice a n m) (.slice none 0 0)).run P w = .ok a.isNone w := fun k => by
    cases a <;> simp [Op.equalIn, run_underlying hS.h]
  simp only [Op.equal, Op.maxDepth]
  exact h 9999
theorem PS.eqSN {e : TypeId} {a : Option Addr} {n m : Nat} [hS : SlT P t e] (hy : ev E y = some (.slice a n m) := by rfl) : PS P x E L (.binOp .eql t y (.const (.slice none 0 0)) t') ty (.bool a.isNone) := ⟨fun ac w _ _ _ _ hE _ => by
  have hc : ac.eval (.const (.slice none 0 0)) = .slice none 0 0 := rfl
  simp only [execOp, hE.ev hy, hc, eqGuard_at_slice]
  simp [binOp, eqslice]⟩
theorem PS.eqSN0 {e : TypeId} {n m : Nat} [hS : SlT P t e] (hy : ev E y = some (.slice none n m) := by rfl) : PS P x E L (.binOp .eql t y (.const (.slice none 0 0)) t') ty (.bool true) := PS.eqSN (a := none) hy
theorem PS.eqSN1 {e : TypeId} {a : Addr} {n m : Nat} [hS : SlT P t e] (hy : ev E y = some (.slice (some a) n m) := by rfl) : PS P x E L (.binOp .eql t y (.const (.slice none 0 0)) t') ty (.bool false) := PS.eqSN (a := some a) hy
theorem equal_bool {w : World} [hB : BoolT P t] {a b : Bool} : (Op.equal t (.bool a) (.bool b)).run P w = .ok (a == b) w := by
  have h : ∀ k : Nat, (Op.equalIn (k + 1) t (.bool a) (.bool b)).run P w = .ok (a == b) w := fun k => by
    simp [Op.equalIn, run_underlying hB.h]
  simp only [Op.equal, Op.maxDepth]
  exact h 9999
theorem PS.eqB {a b : Bool} [hB : BoolT P t] (hy : ev E y = some (.bool a) := by rfl) (hz : ev E z = some (.bool b) := by rfl) : PS P x E L (.binOp .eql t y z t') ty (.bool (a == b)) := ⟨fun ac w _ _ _ _ hE _ => by
  simp only [execOp, hE.ev hy, hE.ev hz, eqGuard_at_bool]
  simp [binOp, equal_bool]⟩
theorem PS.eqB1 {a : Bool} [hB : BoolT P t] (hy : ev E y = some (.bool a) := by rfl) (hz : ev E z = some (.bool a) := by rfl) : PS P x E L (.binOp .eql t y z t') ty (.bool true) := by
  have h := PS.eqB (P := P) (x := x) (E := E) (L := L) (t := t) (t' := t') (ty := ty) hy hz
  rwa [beq_self_eq_true] at h
theorem PS.neB {a b : Bool} [hB : BoolT P t] (hy : ev E y = some (.bool a) := by rfl) (hz : ev E z = some (.bool b) := by rfl) : PS P x E L (.binOp .neq t y z t') ty (.bool (!(a == b))) := ⟨fun ac w _ _ _ _ hE _ => by
  simp only [execOp, hE.ev hy, hE.ev hz, eqGuard_at_bool]
  simp [binOp, equal_bool]⟩
theorem PS.neB1 {a : Bool} [hB : BoolT P t] (hy : ev E y = some (.bool a) := by rfl) (hz : ev E z = some (.bool a) := by rfl) : PS P x E L (.binOp .neq t y z t') ty (.bool false) := by
  have h := PS.neB (P := P) (x := x) (E := E) (L := L) (t := t) (t' := t') (ty := ty) hy hz
  rwa [beq_self_eq_true, Bool.not_true] at h
end
theorem AS.call3 {P : Program} {x : Cx} {E : List (Nat × Value)} {L L1 L2 : List HP} {ty : TypeId} {f : FuncId} {ags : List Operand} {ts : Array TypeId} {args : List Value} {Rs : List (World → Prop)} {X : Type} {ret : X → Value} {p q r : X → HP} {po : X → Prop} [hF : FnB P f]
    (hs : Spec P f args Rs L1 ret (fun y => [p y, q y, r y]) po) (ha : evs E ags = some args := by rfl) (hL : Parts L L1 L2 := by first | exact Parts.nil | exact Parts.cons xPK Parts.nil | exact Parts.cons xPK (Parts.cons xPK Parts.nil) | exact Parts.cons xPK (Parts.cons xPK (Parts.cons xPK Parts.nil)) | fail) (hR : RdAll x.w0 x.O L2 Rs := by first | exact RdAll.nil | exact RdAll.cons xRD RdAll.nil | exact RdAll.cons xRD (RdAll.cons xRD RdAll.nil) | exact RdAll.cons xRD (RdAll.cons xRD (RdAll.cons xRD RdAll.nil)) | fail) :
    AS P x E L (.call ⟨.value (.func f), ags.toArray, ts⟩) ty (fun v L3 => ∃ y, po y ∧ v = ret y ∧ L3 = p y :: q y :: r y :: L2) := AS.call hs ha hL hR
theorem AS.call4 {P : Program} {x : Cx} {E : List (Nat × Value)} {L L1 L2 : List HP} {ty : TypeId} {f : FuncId} {ags : List Operand} {ts : Array TypeId} {args : List Value} {Rs : List (World → Prop)} {X : Type} {ret : X → Value} {p q r s : X → HP} {po : X → Prop} [hF : FnB P f]
    (hs : Spec P f args Rs L1 ret (fun y => [p y, q y, r y, s y]) po) (ha : evs E ags = some args := by rfl) (hL : Parts L L1 L2 := by first | exact Parts.nil | exact Parts.cons xPK Parts.nil | exact Parts.cons xPK (Parts.cons xPK Parts.nil) | exact Parts.cons xPK (Parts.cons xPK (Parts.cons xPK Parts.nil)) | fail) (hR : RdAll x.w0 x.O L2 Rs := by first | exact RdAll.nil | exact RdAll.cons xRD RdAll.nil | exact RdAll.cons xRD (RdAll.cons xRD RdAll.nil) | exact RdAll.cons xRD (RdAll.cons xRD (RdAll.cons xRD RdAll.nil)) | fail) :
    AS P x E L (.call ⟨.value (.func f), ags.toArray, ts⟩) ty (fun v L3 => ∃ y, po y ∧ v = ret y ∧ L3 = p y :: q y :: r y :: s y :: L2) := AS.call hs ha hL hR
theorem iOmakeMap {P : Program} {x : Cx} {E : List (Nat × Value)} {L : List HP} {ops : Array Oper} {rest : List Oper} {k : List Fr} {d : Option Tmp} {ty : TypeId} {pos : String} {aft : Array Edge} {a0 : TypeId} {a1 : Option Operand} (h : OJ P x E L ops (⟨d, .makeMap a0 a1, ty, pos, aft, none⟩ :: rest) k) : OJ P x E L ops (⟨d, .makeMap a0 a1, ty, pos, aft, none⟩ :: rest) k := h
theorem iOmapEntry {P : Program} {x : Cx} {E : List (Nat × Value)} {L : List HP} {ops : Array Oper} {rest : List Oper} {k : List Fr} {d : Option Tmp} {ty : TypeId} {pos : String} {aft : Array Edge} {a0 : TypeId} {a1 : Operand} {a2 : Operand} (h : OJ P x E L ops (⟨d, .mapEntry a0 a1 a2, ty, pos, aft, none⟩ :: rest) k) : OJ P x E L ops (⟨d, .mapEntry a0 a1 a2, ty, pos, aft, none⟩ :: rest) k := h
theorem iOentryStore {P : Program} {x : Cx} {E : List (Nat × Value)} {L : List HP} {ops : Array Oper} {rest : List Oper} {k : List Fr} {d : Option Tmp} {ty : TypeId} {pos : String} {aft : Array Edge} {a0 : TypeId} {a1 : Operand} {a2 : Operand} {a3 : Operand} (h : OJ P x E L ops (⟨d, .entryStore a0 a1 a2 a3, ty, pos, aft, none⟩ :: rest) k) : OJ P x E L ops (⟨d, .entryStore a0 a1 a2 a3, ty, pos, aft, none⟩ :: rest) k := h
theorem iERdR {α : Type} {L L1 : List HP} {q : Enc α} {v : Value} {xs : List α} (h : Ent L (SL.rdR q v xs :: L1)) : Ent L (SL.rdR q v xs :: L1) := h
theorem iAmakeMap {P : Program} {x : Cx} {E : List (Nat × Value)} {L L0 L1 : List HP} {s : Nat × Nat} {l : List Oper} {fuel : Nat} {dl : List Nat} {k : List Fr} {i : Nat} {d : Option Tmp} {ty : TypeId} {a0 : TypeId} {a1 : Option Operand} (h : AO P x E L L0 L1 s l fuel dl k i d (.makeMap a0 a1) ty) : AO P x E L L0 L1 s l fuel dl k i d (.makeMap a0 a1) ty := h
theorem iAmapEntry {P : Program} {x : Cx} {E : List (Nat × Value)} {L L0 L1 : List HP} {s : Nat × Nat} {l : List Oper} {fuel : Nat} {dl : List Nat} {k : List Fr} {i : Nat} {d : Option Tmp} {ty : TypeId} {a0 : TypeId} {a1 : Operand} {a2 : Operand} (h : AO P x E L L0 L1 s l fuel dl k i d (.mapEntry a0 a1 a2) ty) : AO P x E L L0 L1 s l fuel dl k i d (.mapEntry a0 a1 a2) ty := h
theorem iAentryStore {P : Program} {x : Cx} {E : List (Nat × Value)} {L L0 L1 : List HP} {s : Nat × Nat} {l : List Oper} {fuel : Nat} {dl : List Nat} {k : List Fr} {i : Nat} {d : Option Tmp} {ty : TypeId} {a0 : TypeId} {a1 : Operand} {a2 : Operand} {a3 : Operand} (h : AO P x E L L0 L1 s l fuel dl k i d (.entryStore a0 a1 a2 a3) ty) : AO P x E L L0 L1 s l fuel dl k i d (.entryStore a0 a1 a2 a3) ty := h
theorem Pick.rowCut {α : Type} {q : Enc α} {e : TypeId} {v : Value} {xs : List α} {L L' : List HP} {sz hi : Nat} (hp : Pick L (SL.row q e v xs) L') (h : hi ≤ xs.length) (hq : q.sz = sz := by rfl) : Pick L (SL.row q e (sliceV sz v 0 hi) (xs.take hi)) L' := ⟨fun g hg => by
  subst hq
  obtain ⟨h1, h2, d, rfl, ⟨hl, hr⟩, b⟩ := hp.h g hg
  refine ⟨h1, h2, d, rfl, ⟨flat_len, ?_⟩, b⟩
  have hlen : (xs.take hi).length = hi := by simp; omega
  rcases hr with ⟨rfl, hn, he⟩ | ⟨g', cap, cur, rfl, hc, hm, hs, ht, hb⟩
  · obtain rfl : hi = 0 := by omega
    exact .inl ⟨rfl, by simp, he⟩
  · refine .inr ⟨g', cap, cur, ?_, by omega, hm, hs, ?_, hb⟩
    · simp only [sliceV, sliced, hlen]
      simp [Addr.add]
    · rw [flatMap_take, ← ht, List.take_take, hlen, Nat.min_eq_left]
      exact Nat.mul_le_mul_right _ h⟩
end Go.SL

/- impl.RuneBidi: the class of a letter. -/
set_option linter.unusedVariables false
set_option linter.unusedSimpArgs false
namespace Go.SL
open Go.RowKit Go.Proofs
/-- Letters from one to another one, and what they have. -/
structure Reach where
  low : Int
  high : Int
  has : Int
def eReach : Enc Reach where
  sz := 3
  f x := [.int .i64 x.low, .int .i64 x.high, .int .i64 x.has]
  d := ⟨0, 0, 0⟩
  dec
    | [.int .i64 a, .int .i64 b, .int .i64 c] => some ⟨a, b, c⟩
    | _ => none
  pos := by decide
  len _ := rfl
  one x u hu := by
    simp only [List.mem_cons, List.not_mem_nil, or_false] at hu
    rcases hu with rfl | rfl | rfl <;> rfl
  inv cs x h := by
    split at h
    · injection h with h; rw [← h]
    · cases h
instance : EncN 166 eReach := ⟨trivial⟩
set_option maxRecDepth 100000 in
theorem isNaN_c (r : Int) : Spec Tryz.prog 97 [.int .i64 r] [] [] (fun _ : Unit => .bool false) (fun _ => []) (fun _ => True) := by
  refine Spec.mk Tryz.func97 rfl Tryz.ntmps97 rfl ?_
  intro w0 O hR hS0; clear hR hS0
  repeat' (first | ((with_reducible apply iOJ); first | ((with_reducible apply iOp); refine OJ.p ?_) | with_reducible apply OJ.nil | ((with_reducible apply iOg); first | refine OJ.guardY ?_ | refine OJ.guardN ?_ | refine OJ.guardNd ?_ | refine OJ.guardU ?_ | refine OJ.guardS (fun _ => ?_) (fun _ => ?_) | fail) | ((with_reducible apply iOstore); first | (refine OJ.as AS.store ?_; rintro _ _ rfl) | (refine OJ.as AS.storeA ?_; rintro _ _ rfl) | (refine OJ.as AS.storeAV ?_; rintro _ _ rfl) | (refine OJ.as AS.storeE ?_; rintro _ _ rfl) | (refine OJ.as AS.storeEA ?_; rintro _ _ rfl) | (refine OJ.as AS.storeP ?_; rintro _ _ rfl) | fail) | ((with_reducible apply iOcall); first | (refine OJ.as AS.append1 ?_; rintro _ _ rfl) | (refine OJ.as AS.append ?_; rintro _ _ rfl) | fail) | ((with_reducible apply iObox); first | (refine OJ.as AS.box1 ?_; rintro _ _ ⟨_, rfl, rfl⟩) | (refine OJ.as AS.boxA ?_; rintro _ _ ⟨_, rfl, rfl⟩) | fail) | ((with_reducible apply iOalloc); first | (refine OJ.as AS.alloc ?_; rintro _ _ ⟨_, rfl, rfl⟩) | fail) | ((with_reducible apply iObuildSlice); first | (refine OJ.as AS.buildSlice ?_; rintro _ _ ⟨_, rfl, rfl⟩) | fail) | ((with_reducible apply iOmakeSlice); first | (refine OJ.as AS.makeSlice ?_; rintro _ _ rfl) | fail) | ((with_reducible apply iOmakeMap); first | (refine OJ.as AS.makeMap ?_; rintro _ _ ⟨_, rfl, rfl⟩) | fail) | ((with_reducible apply iOmapEntry); first | (refine OJ.as AS.mapEntry ?_; rintro _ _ ⟨_, _, rfl, rfl⟩) | fail) | ((with_reducible apply iOentryStore); first | (refine OJ.as AS.entryStore ?_; rintro _ _ rfl) | fail) | ((with_reducible apply iOinsert); first | (refine OJ.as AS.insert ?_; rintro _ _ rfl) | fail) | ((with_reducible apply iOmapUpdate); first | (refine OJ.as AS.mapUpdate ?_; rintro _ _ rfl) | fail) | refine OJ.unboxP fun _ => ?_ | fail) | ((with_reducible apply iJ); first | refine J.seq ?_ | refine J.region ?_ | refine J.block ?_ | refine J.skip ?_ | refine J.exit ?_ | refine J.condT ?_ | refine J.condF ?_ | refine J.cond (fun _ => ?_) (fun _ => ?_) | refine J.retB ?_ | fail) | ((with_reducible apply iJK); first | refine JK.code ?_ | refine JK.blk ?_ | refine JK.loop ?_ | refine JK.begin ?_ | refine JK.more ?_ | fail) | ((with_reducible apply iEnt); first | exact Ent.nil | ((with_reducible apply iERow); refine Ent.row ?_ ?_) | ((with_reducible apply iEBox); first | refine Ent.box ?_ ?_ | refine Ent.box2 ?_ ?_) | ((with_reducible apply iEBlk); refine Ent.blk ?_ ?_) | ((with_reducible apply iEPure); refine Ent.pure ?_ ?_) | ((with_reducible apply iERdR); first | refine Ent.rdR ?_ | refine Ent.any ?_ | fail) | refine Ent.any ?_ | with_reducible exact Ent.refl | fail) | ((with_reducible apply iEq); with_reducible rfl) | fail)
  all_goals simp
def cmpI (a b : Int) : Int := if a < b then -1 else if b < a then 1 else 0
set_option maxRecDepth 100000 in
theorem compare_c (a b : Int) : Spec Tryz.prog 94 [.int .i64 a, .int .i64 b] [] [] (fun _ : Unit => .int .i64 (cmpI a b)) (fun _ => []) (fun _ => True) := by
  refine Spec.mk Tryz.func94 rfl Tryz.ntmps94 rfl ?_
  intro w0 O hR hS0; clear hR hS0
  repeat' (first | ((with_reducible apply iOJ); first | ((with_reducible apply iOp); refine OJ.p ?_) | with_reducible apply OJ.nil | ((with_reducible apply iOg); first | refine OJ.guardY ?_ | refine OJ.guardN ?_ | refine OJ.guardNd ?_ | refine OJ.guardU ?_ | refine OJ.guardS (fun _ => ?_) (fun _ => ?_) | fail) | ((with_reducible apply iOstore); first | (refine OJ.as AS.store ?_; rintro _ _ rfl) | (refine OJ.as AS.storeA ?_; rintro _ _ rfl) | (refine OJ.as AS.storeAV ?_; rintro _ _ rfl) | (refine OJ.as AS.storeE ?_; rintro _ _ rfl) | (refine OJ.as AS.storeEA ?_; rintro _ _ rfl) | (refine OJ.as AS.storeP ?_; rintro _ _ rfl) | fail) | ((with_reducible apply iOcall); first | (refine OJ.as AS.append1 ?_; rintro _ _ rfl) | (refine OJ.as AS.append ?_; rintro _ _ rfl) | (refine OJ.as (AS.call0 (isNaN_c _)) ?_; rotate_right; rintro _ _ ⟨y, hy, rfl, rfl⟩) | fail) | ((with_reducible apply iObox); first | (refine OJ.as AS.box1 ?_; rintro _ _ ⟨_, rfl, rfl⟩) | (refine OJ.as AS.boxA ?_; rintro _ _ ⟨_, rfl, rfl⟩) | fail) | ((with_reducible apply iOalloc); first | (refine OJ.as AS.alloc ?_; rintro _ _ ⟨_, rfl, rfl⟩) | fail) | ((with_reducible apply iObuildSlice); first | (refine OJ.as AS.buildSlice ?_; rintro _ _ ⟨_, rfl, rfl⟩) | fail) | ((with_reducible apply iOmakeSlice); first | (refine OJ.as AS.makeSlice ?_; rintro _ _ rfl) | fail) | ((with_reducible apply iOmakeMap); first | (refine OJ.as AS.makeMap ?_; rintro _ _ ⟨_, rfl, rfl⟩) | fail) | ((with_reducible apply iOmapEntry); first | (refine OJ.as AS.mapEntry ?_; rintro _ _ ⟨_, _, rfl, rfl⟩) | fail) | ((with_reducible apply iOentryStore); first | (refine OJ.as AS.entryStore ?_; rintro _ _ rfl) | fail) | ((with_reducible apply iOinsert); first | (refine OJ.as AS.insert ?_; rintro _ _ rfl) | fail) | ((with_reducible apply iOmapUpdate); first | (refine OJ.as AS.mapUpdate ?_; rintro _ _ rfl) | fail) | refine OJ.unboxP fun _ => ?_ | fail) | ((with_reducible apply iJ); first | refine J.seq ?_ | refine J.region ?_ | refine J.block ?_ | refine J.skip ?_ | refine J.exit ?_ | refine J.condT ?_ | refine J.condF ?_ | refine J.cond (fun _ => ?_) (fun _ => ?_) | refine J.retI ?_ | fail) | ((with_reducible apply iJK); first | refine JK.code ?_ | refine JK.blk ?_ | refine JK.loop ?_ | refine JK.begin ?_ | refine JK.more ?_ | fail) | ((with_reducible apply iEnt); first | exact Ent.nil | ((with_reducible apply iERow); refine Ent.row ?_ ?_) | ((with_reducible apply iEBox); first | refine Ent.box ?_ ?_ | refine Ent.box2 ?_ ?_) | ((with_reducible apply iEBlk); refine Ent.blk ?_ ?_) | ((with_reducible apply iEPure); refine Ent.pure ?_ ?_) | ((with_reducible apply iERdR); first | refine Ent.rdR ?_ | refine Ent.any ?_ | fail) | refine Ent.any ?_ | with_reducible exact Ent.refl | fail) | ((with_reducible apply iEq); with_reducible rfl) | fail)
  all_goals
    unfold cmpI
    (repeat' split) <;> omega
def vReach (q : Reach) : Value := .agg #[.int .i64 q.low, .int .i64 q.high, .int .i64 q.has]
def cmpR (q : Reach) (r : Int) : Int := if q.low ≤ r ∧ r ≤ q.high then 0 else cmpI q.low r
set_option maxRecDepth 100000 in
theorem findCmp_c (q : Reach) (r : Int) : Spec Tryz.prog 93 ([.agg #[.int .i64 q.low, .int .i64 q.high, .int .i64 q.has], .int .i64 r] ++ []) [] [] (fun _ : Unit => .int .i64 (cmpR q r)) (fun _ => []) (fun _ => True) := by
  refine Spec.mk Tryz.func93 rfl Tryz.ntmps93 rfl ?_
  intro w0 O hR hS0; clear hR hS0
  repeat' (first | ((with_reducible apply iOJ); first | ((with_reducible apply iOp); refine OJ.p ?_) | with_reducible apply OJ.nil | ((with_reducible apply iOg); first | refine OJ.guardY ?_ | refine OJ.guardN ?_ | refine OJ.guardNd ?_ | refine OJ.guardU ?_ | refine OJ.guardS (fun _ => ?_) (fun _ => ?_) | fail) | ((with_reducible apply iOstore); first | (refine OJ.as AS.store ?_; rintro _ _ rfl) | (refine OJ.as AS.storeA ?_; rintro _ _ rfl) | (refine OJ.as AS.storeAV ?_; rintro _ _ rfl) | (refine OJ.as AS.storeE ?_; rintro _ _ rfl) | (refine OJ.as AS.storeEA ?_; rintro _ _ rfl) | (refine OJ.as AS.storeP ?_; rintro _ _ rfl) | fail) | ((with_reducible apply iOcall); first | (refine OJ.as AS.append1 ?_; rintro _ _ rfl) | (refine OJ.as AS.append ?_; rintro _ _ rfl) | (refine OJ.as (AS.call0 (compare_c _ _)) ?_; rotate_right; rintro _ _ ⟨y, hy, rfl, rfl⟩) | fail) | ((with_reducible apply iObox); first | (refine OJ.as AS.box1 ?_; rintro _ _ ⟨_, rfl, rfl⟩) | (refine OJ.as AS.boxA ?_; rintro _ _ ⟨_, rfl, rfl⟩) | fail) | ((with_reducible apply iOalloc); first | (refine OJ.as AS.alloc ?_; rintro _ _ ⟨_, rfl, rfl⟩) | fail) | ((with_reducible apply iObuildSlice); first | (refine OJ.as AS.buildSlice ?_; rintro _ _ ⟨_, rfl, rfl⟩) | fail) | ((with_reducible apply iOmakeSlice); first | (refine OJ.as AS.makeSlice ?_; rintro _ _ rfl) | fail) | ((with_reducible apply iOmakeMap); first | (refine OJ.as AS.makeMap ?_; rintro _ _ ⟨_, rfl, rfl⟩) | fail) | ((with_reducible apply iOmapEntry); first | (refine OJ.as AS.mapEntry ?_; rintro _ _ ⟨_, _, rfl, rfl⟩) | fail) | ((with_reducible apply iOentryStore); first | (refine OJ.as AS.entryStore ?_; rintro _ _ rfl) | fail) | ((with_reducible apply iOinsert); first | (refine OJ.as AS.insert ?_; rintro _ _ rfl) | fail) | ((with_reducible apply iOmapUpdate); first | (refine OJ.as AS.mapUpdate ?_; rintro _ _ rfl) | fail) | refine OJ.unboxP fun _ => ?_ | fail) | ((with_reducible apply iJ); first | refine J.seq ?_ | refine J.region ?_ | refine J.block ?_ | refine J.skip ?_ | refine J.exit ?_ | refine J.condT ?_ | refine J.condF ?_ | refine J.cond (fun _ => ?_) (fun _ => ?_) | refine J.retI ?_ | fail) | ((with_reducible apply iJK); first | refine JK.code ?_ | refine JK.blk ?_ | refine JK.loop ?_ | refine JK.begin ?_ | refine JK.more ?_ | fail) | ((with_reducible apply iEnt); first | exact Ent.nil | ((with_reducible apply iERow); refine Ent.row ?_ ?_) | ((with_reducible apply iEBox); first | refine Ent.box ?_ ?_ | refine Ent.box2 ?_ ?_) | ((with_reducible apply iEBlk); refine Ent.blk ?_ ?_) | ((with_reducible apply iEPure); refine Ent.pure ?_ ?_) | ((with_reducible apply iERdR); first | refine Ent.rdR ?_ | refine Ent.any ?_ | fail) | refine Ent.any ?_ | with_reducible exact Ent.refl | fail) | ((with_reducible apply iEq); with_reducible rfl) | fail)
  all_goals
    unfold cmpR
    first | (rw [if_pos (by omega)]; done) | (rw [if_neg (by omega)]; done)
def fnCmp : Value := .func (.func 93) #[] #[]
def inQ (q : Reach) (r : Int) : Prop := q.low ≤ r ∧ r ≤ q.high
/-- What a list says of a letter: the first that it is in. -/
def lookR : List Reach → Int → Int → Int
  | [], _, other => other
  | q :: l, r, other => if q.low ≤ r ∧ r ≤ q.high then q.has else lookR l r other
/-- Ascending. -/
def ascB : List Reach → Bool
  | [] => true
  | q :: l => decide (q.low ≤ q.high) && (l.all fun p => decide (q.high < p.low)) && ascB l
theorem asc_low : ∀ {l : List Reach}, ascB l = true → ∀ i, i < l.length → (l.getD i eReach.d).low ≤ (l.getD i eReach.d).high
  | q :: l, h, i, hi => by
    simp only [ascB, Bool.and_eq_true, decide_eq_true_eq] at h
    cases i with
    | zero => exact h.1.1
    | succ i =>
      simp only [List.length_cons] at hi
      exact asc_low h.2 i (by omega)
theorem asc_lt : ∀ {l : List Reach}, ascB l = true → ∀ i j, i < j → j < l.length → (l.getD i eReach.d).high < (l.getD j eReach.d).low
  | q :: l, h, i, j, hij, hj => by
    simp only [ascB, Bool.and_eq_true, decide_eq_true_eq, List.all_eq_true] at h
    simp only [List.length_cons] at hj
    match i, j with
    | 0, j + 1 =>
      refine h.1.2 _ ?_
      show l.getD j eReach.d ∈ l
      rw [List.getD_eq_getElem?_getD, List.getElem?_eq_getElem (by omega)]
      exact List.getElem_mem _
    | i + 1, j + 1 => exact asc_lt h.2 i j (by omega) (by omega)
theorem lookR_none : ∀ {l : List Reach} {r other : Int}, (∀ i, i < l.length → ¬ inQ (l.getD i eReach.d) r) → lookR l r other = other
  | [], _, _, _ => rfl
  | q :: l, r, other, h => by
    have h0 : ¬ (q.low ≤ r ∧ r ≤ q.high) := h 0 (by simp)
    rw [lookR, if_neg h0]
    exact lookR_none fun i hi => h (i + 1) (by simpa using hi)
theorem lookR_at : ∀ {l : List Reach} {r other : Int} {i : Nat}, ascB l = true → i < l.length → inQ (l.getD i eReach.d) r → lookR l r other = (l.getD i eReach.d).has
  | q :: l, r, other, 0, _, _, h => by
    have h : q.low ≤ r ∧ r ≤ q.high := h
    rw [lookR, if_pos h]
    rfl
  | q :: l, r, other, i + 1, ha, hi, h => by
    have h0 := asc_lt ha 0 (i + 1) (by omega) hi
    have h1 : (l.getD i eReach.d).low ≤ r ∧ r ≤ (l.getD i eReach.d).high := h
    have h2 : q.high < (l.getD i eReach.d).low := h0
    rw [lookR, if_neg (by omega)]
    simp only [ascB, Bool.and_eq_true] at ha
    exact lookR_at ha.2 (by simpa using hi) h
theorem cmpR_neg {q : Reach} {r : Int} (h : q.low ≤ q.high) : cmpR q r < 0 ↔ q.high < r := by
  unfold cmpR cmpI
  (repeat' split) <;> omega
theorem cmpR_zero {q : Reach} {r : Int} (h : q.low ≤ q.high) : cmpR q r = 0 ↔ inQ q r := by
  unfold cmpR cmpI inQ
  (repeat' split) <;> omega
def Found (l : List Reach) (r : Int) (q : Nat × Bool) : Prop := (q.2 = true → q.1 < l.length ∧ inQ (l.getD q.1 eReach.d) r) ∧ (q.2 = false → ∀ i, i < l.length → ¬ inQ (l.getD i eReach.d) r)
structure SInv (l : List Reach) (r : Int) (i j : Nat) : Prop where
  ij : i ≤ j
  jn : j ≤ l.length
  lo : ∀ k, k < i → (l.getD k eReach.d).high < r
  hi : ∀ k, j ≤ k → k < l.length → r ≤ (l.getD k eReach.d).high
theorem SInv.up {l : List Reach} {r : Int} {i j h : Nat} (ha : ascB l = true) (H : SInv l r i j) (h1 : i ≤ h) (h2 : h < j) (hc : cmpR (l.getD h eReach.d) r < 0) : SInv l r (h + 1) j := by
  have := H.jn
  have hlow := asc_low ha h (by omega)
  rw [cmpR_neg hlow] at hc
  refine ⟨by omega, H.jn, fun k hk => ?_, H.hi⟩
  by_cases e : k = h
  · subst e; exact hc
  · have := asc_lt ha k h (by omega) (by omega)
    omega
theorem SInv.down {l : List Reach} {r : Int} {i j h : Nat} (ha : ascB l = true) (H : SInv l r i j) (h1 : i ≤ h) (h2 : h < j) (hc : ¬ cmpR (l.getD h eReach.d) r < 0) : SInv l r i h := by
  have := H.jn
  have hlow := asc_low ha h (by omega)
  rw [cmpR_neg hlow] at hc
  refine ⟨h1, by omega, H.lo, fun k hk hk2 => ?_⟩
  by_cases e : k = h
  · subst e; omega
  · have := asc_lt ha h k (by omega) hk2
    have := asc_low ha k hk2
    omega
theorem found_in {l : List Reach} {r : Int} {i j : Nat} (ha : ascB l = true) (H : SInv l r i j) (e : ¬ i < j) (hi : i < l.length) : Found l r (i, decide (cmpR (l.getD i eReach.d) r = 0)) := by
  have hlow := asc_low ha i hi
  have hij := H.ij
  refine ⟨fun h => ⟨hi, ?_⟩, fun h k hk => ?_⟩
  · simp only [decide_eq_true_eq] at h
    exact (cmpR_zero hlow).1 h
  · simp only [decide_eq_false_iff_not] at h
    rw [cmpR_zero hlow] at h
    unfold inQ at h ⊢
    have hk' := asc_low ha k hk
    have hh := H.hi i (by omega) hi
    by_cases h1 : k < i
    · have := H.lo k h1
      omega
    by_cases h2 : k = i
    · subst h2; exact h
    · have := asc_lt ha i k (by omega) hk
      omega
theorem found_out {l : List Reach} {r : Int} {i j : Nat} (H : SInv l r i j) (hi : ¬ i < l.length) : Found l r (i, false) := by
  unfold Found
  refine And.intro (fun h => by cases h) (fun _ k hk => ?_)
  have := H.lo k (by omega)
  unfold inQ
  omega
set_option maxRecDepth 100000 in
set_option maxHeartbeats 4000000 in
theorem search_c (v : Value) (l : List Reach) (r : Int) (hl : l.length ≤ 1000) (ha : ascB l = true) : Spec Tryz.prog 92 [v, .int .i64 r, fnCmp] [rd eReach v l] [] (fun q : Nat × Bool => .tuple #[.int .i64 (q.1 : Int), .bool q.2]) (fun _ => []) (Found l r) := by
  refine Spec.mk Tryz.func92 rfl Tryz.ntmps92 rfl ?_
  intro w0 O hR hS0
  have hr := hR _ List.mem_cons_self; clear hR hS0
  repeat' (first | ((with_reducible apply iOJ); first | ((with_reducible apply iOp); refine OJ.p ?_) | with_reducible apply OJ.nil | ((with_reducible apply iOg); first | refine OJ.guardY ?_ | refine OJ.guardN ?_ | refine OJ.guardNd ?_ | refine OJ.guardU ?_ | refine OJ.guardS (fun _ => ?_) (fun _ => ?_) | fail) | ((with_reducible apply iOstore); first | (refine OJ.as AS.store ?_; rintro _ _ rfl) | (refine OJ.as AS.storeA ?_; rintro _ _ rfl) | (refine OJ.as AS.storeAV ?_; rintro _ _ rfl) | (refine OJ.as AS.storeE ?_; rintro _ _ rfl) | (refine OJ.as AS.storeEA ?_; rintro _ _ rfl) | (refine OJ.as AS.storeP ?_; rintro _ _ rfl) | fail) | ((with_reducible apply iOcall); first | (refine OJ.as AS.append1 ?_; rintro _ _ rfl) | (refine OJ.as AS.append ?_; rintro _ _ rfl) | fail) | ((with_reducible apply iObox); first | (refine OJ.as AS.box1 ?_; rintro _ _ ⟨_, rfl, rfl⟩) | (refine OJ.as AS.boxA ?_; rintro _ _ ⟨_, rfl, rfl⟩) | fail) | ((with_reducible apply iOalloc); first | (refine OJ.as AS.alloc ?_; rintro _ _ ⟨_, rfl, rfl⟩) | fail) | ((with_reducible apply iObuildSlice); first | (refine OJ.as AS.buildSlice ?_; rintro _ _ ⟨_, rfl, rfl⟩) | fail) | ((with_reducible apply iOmakeSlice); first | (refine OJ.as AS.makeSlice ?_; rintro _ _ rfl) | fail) | ((with_reducible apply iOmakeMap); first | (refine OJ.as AS.makeMap ?_; rintro _ _ ⟨_, rfl, rfl⟩) | fail) | ((with_reducible apply iOmapEntry); first | (refine OJ.as AS.mapEntry ?_; rintro _ _ ⟨_, _, rfl, rfl⟩) | fail) | ((with_reducible apply iOentryStore); first | (refine OJ.as AS.entryStore ?_; rintro _ _ rfl) | fail) | ((with_reducible apply iOinsert); first | (refine OJ.as AS.insert ?_; rintro _ _ rfl) | fail) | ((with_reducible apply iOmapUpdate); first | (refine OJ.as AS.mapUpdate ?_; rintro _ _ rfl) | fail) | refine OJ.unboxP fun _ => ?_ | fail) | ((with_reducible apply iJ); first | refine J.seq ?_ | refine J.region ?_ | refine J.block ?_ | refine J.skip ?_ | refine J.exit ?_ | refine J.condT ?_ | refine J.condF ?_ | refine J.cond (fun _ => ?_) (fun _ => ?_) | fail) | ((with_reducible apply iJK); first | refine JK.code ?_ | refine JK.blk ?_ | refine JK.loop ?_ | refine JK.begin ?_ | refine JK.more ?_ | fail) | ((with_reducible apply iEnt); first | exact Ent.nil | ((with_reducible apply iERow); refine Ent.row ?_ ?_) | ((with_reducible apply iEBox); first | refine Ent.box ?_ ?_ | refine Ent.box2 ?_ ?_) | ((with_reducible apply iEBlk); refine Ent.blk ?_ ?_) | ((with_reducible apply iEPure); refine Ent.pure ?_ ?_) | ((with_reducible apply iERdR); first | refine Ent.rdR ?_ | refine Ent.any ?_ | fail) | refine Ent.any ?_ | with_reducible exact Ent.refl | fail) | ((with_reducible apply iEq); with_reducible rfl) | fail)
  refine J.loopI (fun q : Nat × Nat => SInv l r q.1 q.2) (fun q => q.2 - q.1) (fun q => [(9, .int .i64 (q.1 : Int)), (10, .int .i64 (q.2 : Int)), (8, .int .i64 (l.length : Int)), (0, v), (1, .int .i64 r), (2, fnCmp)]) (fun _ => []) (0, l.length) ⟨Nat.zero_le _, Nat.le_refl _, fun _ h => absurd h (Nat.not_lt_zero _), fun _ h1 h2 => absurd h2 (by dsimp only at h1; omega)⟩ ?_
  rintro ⟨i, j⟩ H ih
  dsimp only at H ⊢
  have hi := H.ij
  have hj := H.jn
  repeat' (first | ((with_reducible apply iOJ); first | ((with_reducible apply iOp); refine OJ.p ?_) | with_reducible apply OJ.nil | ((with_reducible apply iOg); first | refine OJ.guardY ?_ | refine OJ.guardN ?_ | refine OJ.guardNd ?_ | refine OJ.guardU ?_ | refine OJ.guardS (fun _ => ?_) (fun _ => ?_) | fail) | ((with_reducible apply iOstore); first | (refine OJ.as AS.store ?_; rintro _ _ rfl) | (refine OJ.as AS.storeA ?_; rintro _ _ rfl) | (refine OJ.as AS.storeAV ?_; rintro _ _ rfl) | (refine OJ.as AS.storeE ?_; rintro _ _ rfl) | (refine OJ.as AS.storeEA ?_; rintro _ _ rfl) | (refine OJ.as AS.storeP ?_; rintro _ _ rfl) | fail) | ((with_reducible apply iOcall); first | (refine OJ.as AS.append1 ?_; rintro _ _ rfl) | (refine OJ.as AS.append ?_; rintro _ _ rfl) | (refine OJ.as (AS.callV (findCmp_c (l.getD _ eReach.d) _)) ?_; rotate_right; rintro _ _ ⟨y, hy, rfl, rfl⟩) | fail) | ((with_reducible apply iObox); first | (refine OJ.as AS.box1 ?_; rintro _ _ ⟨_, rfl, rfl⟩) | (refine OJ.as AS.boxA ?_; rintro _ _ ⟨_, rfl, rfl⟩) | fail) | ((with_reducible apply iOalloc); first | (refine OJ.as AS.alloc ?_; rintro _ _ ⟨_, rfl, rfl⟩) | fail) | ((with_reducible apply iObuildSlice); first | (refine OJ.as AS.buildSlice ?_; rintro _ _ ⟨_, rfl, rfl⟩) | fail) | ((with_reducible apply iOmakeSlice); first | (refine OJ.as AS.makeSlice ?_; rintro _ _ rfl) | fail) | ((with_reducible apply iOmakeMap); first | (refine OJ.as AS.makeMap ?_; rintro _ _ ⟨_, rfl, rfl⟩) | fail) | ((with_reducible apply iOmapEntry); first | (refine OJ.as AS.mapEntry ?_; rintro _ _ ⟨_, _, rfl, rfl⟩) | fail) | ((with_reducible apply iOentryStore); first | (refine OJ.as AS.entryStore ?_; rintro _ _ rfl) | fail) | ((with_reducible apply iOinsert); first | (refine OJ.as AS.insert ?_; rintro _ _ rfl) | fail) | ((with_reducible apply iOmapUpdate); first | (refine OJ.as AS.mapUpdate ?_; rintro _ _ rfl) | fail) | refine OJ.unboxP fun _ => ?_ | fail) | ((with_reducible apply iJ); first | refine J.seq ?_ | refine J.region ?_ | refine J.block ?_ | refine J.skip ?_ | refine J.exit ?_ | refine J.condT ?_ | refine J.condF ?_ | refine J.cond (fun _ => ?_) (fun _ => ?_) | refine J.ret (ends (i, _) ?_ rfl Ent.nil) | fail) | ((with_reducible apply iJK); first | refine JK.code ?_ | refine JK.blk ?_ | refine JK.loop ?_ | refine JK.begin ?_ | refine JK.more ?_ | fail) | ((with_reducible apply iJL); first | refine JL.use (ih ((i + j) / 2 + 1, j) (H.up ha (by omega) (by omega) ?_) (by dsimp only; omega)) (by refine sub.cons (int_some (by omega)) (sub.cons (int_some (by omega)) ?_); repeat (first | exact sub.nil | refine sub.cons (by rfl) ?_)) | refine JL.use (ih (i, (i + j) / 2) (H.down ha (by omega) (by omega) ?_) (by dsimp only; omega)) (by refine sub.cons (int_some (by omega)) (sub.cons (int_some (by omega)) ?_); repeat (first | exact sub.nil | refine sub.cons (by rfl) ?_)) | fail) | ((with_reducible apply iEnt); first | exact Ent.nil | ((with_reducible apply iERow); refine Ent.row ?_ ?_) | ((with_reducible apply iEBox); first | refine Ent.box ?_ ?_ | refine Ent.box2 ?_ ?_) | ((with_reducible apply iEBlk); refine Ent.blk ?_ ?_) | ((with_reducible apply iEPure); refine Ent.pure ?_ ?_) | ((with_reducible apply iERdR); first | refine Ent.rdR ?_ | refine Ent.any ?_ | fail) | refine Ent.any ?_ | with_reducible exact Ent.refl | fail) | ((with_reducible apply iEq); with_reducible rfl) | fail)
  all_goals clear ih
  all_goals first | assumption | exact found_in ha H (by omega) (by omega) | exact found_out H (by omega)
def reaches : List Reach := [⟨9, 9, 11⟩, ⟨32, 32, 12⟩, ⟨35, 37, 6⟩, ⟨43, 43, 5⟩, ⟨44, 44, 8⟩, ⟨45, 45, 5⟩, ⟨46, 47, 8⟩, ⟨48, 57, 4⟩, ⟨58, 58, 8⟩, ⟨65, 90, 1⟩, ⟨97, 122, 1⟩, ⟨173, 173, 10⟩, ⟨768, 879, 9⟩, ⟨1488, 1514, 2⟩, ⟨1569, 1610, 3⟩, ⟨1632, 1641, 7⟩, ⟨8203, 8203, 10⟩, ⟨8205, 8205, 10⟩, ⟨8234, 8234, 14⟩, ⟨8235, 8235, 15⟩, ⟨8236, 8236, 16⟩, ⟨8237, 8237, 17⟩, ⟨8238, 8238, 18⟩, ⟨8294, 8294, 19⟩, ⟨8295, 8295, 20⟩, ⟨8296, 8296, 21⟩, ⟨8297, 8297, 22⟩, ⟨19968, 40959, 1⟩]
set_option maxRecDepth 100000 in
set_option maxHeartbeats 4000000 in
theorem reaches_c : Spec Tryz.prog 83 [] [] [] (fun u : Value => u) (fun u => [row eReach 166 u reaches]) (fun _ => True) := by
  refine Spec.mk Tryz.func83 rfl Tryz.ntmps83 rfl ?_
  intro w0 O hR hS0; clear hR hS0
  repeat' (first | ((with_reducible apply iOJ); first | ((with_reducible apply iOp); refine OJ.p ?_) | with_reducible apply OJ.nil | ((with_reducible apply iOg); first | refine OJ.guardY ?_ | refine OJ.guardN ?_ | refine OJ.guardNd ?_ | refine OJ.guardU ?_ | refine OJ.guardS (fun _ => ?_) (fun _ => ?_) | fail) | ((with_reducible apply iOstore); first | (refine OJ.as AS.store ?_; rintro _ _ rfl) | (refine OJ.as AS.storeA ?_; rintro _ _ rfl) | (refine OJ.as AS.storeAV ?_; rintro _ _ rfl) | (refine OJ.as AS.storeE ?_; rintro _ _ rfl) | (refine OJ.as AS.storeEA ?_; rintro _ _ rfl) | (refine OJ.as AS.storeP ?_; rintro _ _ rfl) | fail) | ((with_reducible apply iOcall); first | (refine OJ.as AS.append1 ?_; rintro _ _ rfl) | (refine OJ.as AS.append ?_; rintro _ _ rfl) | fail) | ((with_reducible apply iObox); first | (refine OJ.as AS.box1 ?_; rintro _ _ ⟨_, rfl, rfl⟩) | (refine OJ.as AS.boxA ?_; rintro _ _ ⟨_, rfl, rfl⟩) | fail) | ((with_reducible apply iOalloc); first | (refine OJ.as AS.alloc ?_; rintro _ _ ⟨_, rfl, rfl⟩) | fail) | ((with_reducible apply iObuildSlice); first | (refine OJ.as AS.buildSlice ?_; rintro _ _ ⟨_, rfl, rfl⟩) | fail) | ((with_reducible apply iOmakeSlice); first | (refine OJ.as AS.makeSlice ?_; rintro _ _ rfl) | fail) | ((with_reducible apply iOmakeMap); first | (refine OJ.as AS.makeMap ?_; rintro _ _ ⟨_, rfl, rfl⟩) | fail) | ((with_reducible apply iOmapEntry); first | (refine OJ.as AS.mapEntry ?_; rintro _ _ ⟨_, _, rfl, rfl⟩) | fail) | ((with_reducible apply iOentryStore); first | (refine OJ.as AS.entryStore ?_; rintro _ _ rfl) | fail) | ((with_reducible apply iOinsert); first | (refine OJ.as AS.insert ?_; rintro _ _ rfl) | fail) | ((with_reducible apply iOmapUpdate); first | (refine OJ.as AS.mapUpdate ?_; rintro _ _ rfl) | fail) | refine OJ.unboxP fun _ => ?_ | fail) | ((with_reducible apply iJ); first | refine J.seq ?_ | refine J.region ?_ | refine J.block ?_ | refine J.skip ?_ | refine J.exit ?_ | refine J.condT ?_ | refine J.condF ?_ | refine J.cond (fun _ => ?_) (fun _ => ?_) | refine J.ret (ends _ trivial rfl ?_) | fail) | ((with_reducible apply iJK); first | refine JK.code ?_ | refine JK.blk ?_ | refine JK.loop ?_ | refine JK.begin ?_ | refine JK.more ?_ | fail) | ((with_reducible apply iEnt); first | exact Ent.nil | ((with_reducible apply iERow); refine Ent.row ?_ ?_) | ((with_reducible apply iEBox); first | refine Ent.box ?_ ?_ | refine Ent.box2 ?_ ?_) | ((with_reducible apply iEBlk); refine Ent.blk ?_ ?_) | ((with_reducible apply iEPure); refine Ent.pure ?_ ?_) | ((with_reducible apply iERdR); first | refine Ent.rdR ?_ | refine Ent.any ?_ | fail) | refine Ent.any ?_ | with_reducible exact Ent.refl | fail) | ((with_reducible apply iEq); with_reducible rfl) | fail)
  rfl
theorem reaches_asc : ascB reaches = true := by decide
def bidi (r : Int) : Int := lookR reaches r 13
set_option maxRecDepth 100000 in
set_option maxHeartbeats 4000000 in
theorem find_c (v : Value) (l : List Reach) (r other : Int) (hl : l.length ≤ 1000) (ha : ascB l = true) : Spec Tryz.prog 82 [v, .int .i64 r, .int .i64 other] [rd eReach v l] [] (fun _ : Unit => .int .i64 (lookR l r other)) (fun _ => []) (fun _ => True) := by
  refine Spec.mk Tryz.func82 rfl Tryz.ntmps82 rfl ?_
  intro w0 O hR hS0
  have hr := hR _ List.mem_cons_self; clear hR hS0
  have hS := search_c v l r hl ha
  obtain ⟨g, hg⟩ : ∃ g, lookR l r other = g := ⟨_, rfl⟩
  rw [hg]
  repeat' (first | ((with_reducible apply iOJ); first | ((with_reducible apply iOp); refine OJ.p ?_) | with_reducible apply OJ.nil | ((with_reducible apply iOg); first | refine OJ.guardY ?_ | refine OJ.guardN ?_ | refine OJ.guardNd ?_ | refine OJ.guardU ?_ | refine OJ.guardS (fun _ => ?_) (fun _ => ?_) | fail) | ((with_reducible apply iOstore); first | (refine OJ.as AS.store ?_; rintro _ _ rfl) | (refine OJ.as AS.storeA ?_; rintro _ _ rfl) | (refine OJ.as AS.storeAV ?_; rintro _ _ rfl) | (refine OJ.as AS.storeE ?_; rintro _ _ rfl) | (refine OJ.as AS.storeEA ?_; rintro _ _ rfl) | (refine OJ.as AS.storeP ?_; rintro _ _ rfl) | fail) | ((with_reducible apply iOcall); first | (refine OJ.as AS.append1 ?_; rintro _ _ rfl) | (refine OJ.as AS.append ?_; rintro _ _ rfl) | (refine OJ.as (AS.call0 (hS)) ?_; rotate_right; rintro _ _ ⟨y, hy, rfl, rfl⟩) | fail) | ((with_reducible apply iObox); first | (refine OJ.as AS.box1 ?_; rintro _ _ ⟨_, rfl, rfl⟩) | (refine OJ.as AS.boxA ?_; rintro _ _ ⟨_, rfl, rfl⟩) | fail) | ((with_reducible apply iOalloc); first | (refine OJ.as AS.alloc ?_; rintro _ _ ⟨_, rfl, rfl⟩) | fail) | ((with_reducible apply iObuildSlice); first | (refine OJ.as AS.buildSlice ?_; rintro _ _ ⟨_, rfl, rfl⟩) | fail) | ((with_reducible apply iOmakeSlice); first | (refine OJ.as AS.makeSlice ?_; rintro _ _ rfl) | fail) | ((with_reducible apply iOmakeMap); first | (refine OJ.as AS.makeMap ?_; rintro _ _ ⟨_, rfl, rfl⟩) | fail) | ((with_reducible apply iOmapEntry); first | (refine OJ.as AS.mapEntry ?_; rintro _ _ ⟨_, _, rfl, rfl⟩) | fail) | ((with_reducible apply iOentryStore); first | (refine OJ.as AS.entryStore ?_; rintro _ _ rfl) | fail) | ((with_reducible apply iOinsert); first | (refine OJ.as AS.insert ?_; rintro _ _ rfl) | fail) | ((with_reducible apply iOmapUpdate); first | (refine OJ.as AS.mapUpdate ?_; rintro _ _ rfl) | fail) | refine OJ.unboxP fun _ => ?_ | fail) | ((with_reducible apply iJ); first | refine J.seq ?_ | refine J.region ?_ | refine J.block ?_ | refine J.skip ?_ | refine J.exit ?_ | refine J.condT ?_ | refine J.condF ?_ | refine J.cond (fun _ => ?_) (fun _ => ?_) | refine J.retI ?_ | fail) | ((with_reducible apply iJK); first | refine JK.code ?_ | refine JK.blk ?_ | refine JK.loop ?_ | refine JK.begin ?_ | refine JK.more ?_ | fail) | ((with_reducible apply iEnt); first | exact Ent.nil | ((with_reducible apply iERow); refine Ent.row ?_ ?_) | ((with_reducible apply iEBox); first | refine Ent.box ?_ ?_ | refine Ent.box2 ?_ ?_) | ((with_reducible apply iEBlk); refine Ent.blk ?_ ?_) | ((with_reducible apply iEPure); refine Ent.pure ?_ ?_) | ((with_reducible apply iERdR); first | refine Ent.rdR ?_ | refine Ent.any ?_ | fail) | refine Ent.any ?_ | with_reducible exact Ent.refl | fail) | ((with_reducible apply iEq); with_reducible rfl) | fail)
  · rename_i hb
    rw [← hg]
    exact (lookR_none (hy.2 hb)).symm
  · rename_i hb
    have hlt := (hy.1 hb).1
    have hin := (hy.1 hb).2
    repeat' (first | ((with_reducible apply iOJ); first | ((with_reducible apply iOp); refine OJ.p ?_) | with_reducible apply OJ.nil | ((with_reducible apply iOg); first | refine OJ.guardY ?_ | refine OJ.guardN ?_ | refine OJ.guardNd ?_ | refine OJ.guardU ?_ | refine OJ.guardS (fun _ => ?_) (fun _ => ?_) | fail) | ((with_reducible apply iOstore); first | (refine OJ.as AS.store ?_; rintro _ _ rfl) | (refine OJ.as AS.storeA ?_; rintro _ _ rfl) | (refine OJ.as AS.storeAV ?_; rintro _ _ rfl) | (refine OJ.as AS.storeE ?_; rintro _ _ rfl) | (refine OJ.as AS.storeEA ?_; rintro _ _ rfl) | (refine OJ.as AS.storeP ?_; rintro _ _ rfl) | fail) | ((with_reducible apply iOcall); first | (refine OJ.as AS.append1 ?_; rintro _ _ rfl) | (refine OJ.as AS.append ?_; rintro _ _ rfl) | fail) | ((with_reducible apply iObox); first | (refine OJ.as AS.box1 ?_; rintro _ _ ⟨_, rfl, rfl⟩) | (refine OJ.as AS.boxA ?_; rintro _ _ ⟨_, rfl, rfl⟩) | fail) | ((with_reducible apply iOalloc); first | (refine OJ.as AS.alloc ?_; rintro _ _ ⟨_, rfl, rfl⟩) | fail) | ((with_reducible apply iObuildSlice); first | (refine OJ.as AS.buildSlice ?_; rintro _ _ ⟨_, rfl, rfl⟩) | fail) | ((with_reducible apply iOmakeSlice); first | (refine OJ.as AS.makeSlice ?_; rintro _ _ rfl) | fail) | ((with_reducible apply iOmakeMap); first | (refine OJ.as AS.makeMap ?_; rintro _ _ ⟨_, rfl, rfl⟩) | fail) | ((with_reducible apply iOmapEntry); first | (refine OJ.as AS.mapEntry ?_; rintro _ _ ⟨_, _, rfl, rfl⟩) | fail) | ((with_reducible apply iOentryStore); first | (refine OJ.as AS.entryStore ?_; rintro _ _ rfl) | fail) | ((with_reducible apply iOinsert); first | (refine OJ.as AS.insert ?_; rintro _ _ rfl) | fail) | ((with_reducible apply iOmapUpdate); first | (refine OJ.as AS.mapUpdate ?_; rintro _ _ rfl) | fail) | refine OJ.unboxP fun _ => ?_ | fail) | ((with_reducible apply iJ); first | refine J.seq ?_ | refine J.region ?_ | refine J.block ?_ | refine J.skip ?_ | refine J.exit ?_ | refine J.condT ?_ | refine J.condF ?_ | refine J.cond (fun _ => ?_) (fun _ => ?_) | refine J.retI ?_ | fail) | ((with_reducible apply iJK); first | refine JK.code ?_ | refine JK.blk ?_ | refine JK.loop ?_ | refine JK.begin ?_ | refine JK.more ?_ | fail) | ((with_reducible apply iEnt); first | exact Ent.nil | ((with_reducible apply iERow); refine Ent.row ?_ ?_) | ((with_reducible apply iEBox); first | refine Ent.box ?_ ?_ | refine Ent.box2 ?_ ?_) | ((with_reducible apply iEBlk); refine Ent.blk ?_ ?_) | ((with_reducible apply iEPure); refine Ent.pure ?_ ?_) | ((with_reducible apply iERdR); first | refine Ent.rdR ?_ | refine Ent.any ?_ | fail) | refine Ent.any ?_ | with_reducible exact Ent.refl | fail) | ((with_reducible apply iEq); with_reducible rfl) | fail)
    rw [← hg]
    exact (lookR_at ha hlt hin).symm
set_option maxRecDepth 100000 in
set_option maxHeartbeats 4000000 in
theorem runeBidi_c (r : Int) : Spec Tryz.prog 65 [.int .i64 r] [] [] (fun _ : Unit => .int .i64 (bidi r)) (fun _ => []) (fun _ => True) := by
  refine Spec.mk Tryz.func65 rfl Tryz.ntmps65 rfl ?_
  intro w0 O hR hS0; clear hR hS0
  have hF := fun v => find_c v reaches r 13 (by decide) reaches_asc
  repeat' (first | ((with_reducible apply iOJ); first | ((with_reducible apply iOp); refine OJ.p ?_) | with_reducible apply OJ.nil | ((with_reducible apply iOg); first | refine OJ.guardY ?_ | refine OJ.guardN ?_ | refine OJ.guardNd ?_ | refine OJ.guardU ?_ | refine OJ.guardS (fun _ => ?_) (fun _ => ?_) | fail) | ((with_reducible apply iOstore); first | (refine OJ.as AS.store ?_; rintro _ _ rfl) | (refine OJ.as AS.storeA ?_; rintro _ _ rfl) | (refine OJ.as AS.storeAV ?_; rintro _ _ rfl) | (refine OJ.as AS.storeE ?_; rintro _ _ rfl) | (refine OJ.as AS.storeEA ?_; rintro _ _ rfl) | (refine OJ.as AS.storeP ?_; rintro _ _ rfl) | fail) | ((with_reducible apply iOcall); first | (refine OJ.as AS.append1 ?_; rintro _ _ rfl) | (refine OJ.as AS.append ?_; rintro _ _ rfl) | (refine OJ.as (AS.call1 (reaches_c)) ?_; rotate_right; rintro _ _ ⟨y, hy, rfl, rfl⟩) | (refine OJ.as (AS.call0 (hF _)) ?_; rotate_right; rintro _ _ ⟨y, hy, rfl, rfl⟩) | fail) | ((with_reducible apply iObox); first | (refine OJ.as AS.box1 ?_; rintro _ _ ⟨_, rfl, rfl⟩) | (refine OJ.as AS.boxA ?_; rintro _ _ ⟨_, rfl, rfl⟩) | fail) | ((with_reducible apply iOalloc); first | (refine OJ.as AS.alloc ?_; rintro _ _ ⟨_, rfl, rfl⟩) | fail) | ((with_reducible apply iObuildSlice); first | (refine OJ.as AS.buildSlice ?_; rintro _ _ ⟨_, rfl, rfl⟩) | fail) | ((with_reducible apply iOmakeSlice); first | (refine OJ.as AS.makeSlice ?_; rintro _ _ rfl) | fail) | ((with_reducible apply iOmakeMap); first | (refine OJ.as AS.makeMap ?_; rintro _ _ ⟨_, rfl, rfl⟩) | fail) | ((with_reducible apply iOmapEntry); first | (refine OJ.as AS.mapEntry ?_; rintro _ _ ⟨_, _, rfl, rfl⟩) | fail) | ((with_reducible apply iOentryStore); first | (refine OJ.as AS.entryStore ?_; rintro _ _ rfl) | fail) | ((with_reducible apply iOinsert); first | (refine OJ.as AS.insert ?_; rintro _ _ rfl) | fail) | ((with_reducible apply iOmapUpdate); first | (refine OJ.as AS.mapUpdate ?_; rintro _ _ rfl) | fail) | refine OJ.unboxP fun _ => ?_ | fail) | ((with_reducible apply iJ); first | refine J.seq ?_ | refine J.region ?_ | refine J.block ?_ | refine J.skip ?_ | refine J.exit ?_ | refine J.condT ?_ | refine J.condF ?_ | refine J.cond (fun _ => ?_) (fun _ => ?_) | refine J.ret (ends () trivial rfl Ent.nil) | fail) | ((with_reducible apply iJK); first | refine JK.code ?_ | refine JK.blk ?_ | refine JK.loop ?_ | refine JK.begin ?_ | refine JK.more ?_ | fail) | ((with_reducible apply iEnt); first | exact Ent.nil | ((with_reducible apply iERow); refine Ent.row ?_ ?_) | ((with_reducible apply iEBox); first | refine Ent.box ?_ ?_ | refine Ent.box2 ?_ ?_) | ((with_reducible apply iEBlk); refine Ent.blk ?_ ?_) | ((with_reducible apply iEPure); refine Ent.pure ?_ ?_) | ((with_reducible apply iERdR); first | refine Ent.rdR ?_ | refine Ent.any ?_ | fail) | refine Ent.any ?_ | with_reducible exact Ent.refl | fail) | ((with_reducible apply iEq); with_reducible rfl) | fail)
end Go.SL
