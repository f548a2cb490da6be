/- Parts of the proof (joined by program). -/
import Derived.Test.YtccmdhihlkmjjaaGreatDoorMC2
import Derived.Laws.BytesString
import Derived.Laws.Strings
import Derived.Below
import Derived.Test.YtccmdhihlkmjjaaGreatDoorProg
import Derived.Shelf.Lays2
import Derived.Shelf.Small.Bits
import Derived.Shelf.Small.Wraps
import Derived.Shelf.Utf8.AppendRune
import Derived.Shelf.Utf8.AppendRunePlain
import Derived.Shelf.Strconv.Itoa0
import Derived.Shelf.Unicode.Decode
import Derived.Shelf.Unicode.DecodeSlow
import Derived.Shelf.Unicode.DecodeAny
import Derived.Shelf.Slices.Reverse
import Derived.Ground.Names2Prog
import Derived.Shelf.Slices.Clone
import Derived.Shelf.Slices.SearchI
import Derived.Shelf.Slices.Delete
import Derived.Shelf.Slices.Cells
import Derived.Shelf.Slices.Empties
import Derived.Ground.SlgnProg
import Derived.Shelf.SlicesE.Clone
import Derived.Lib.DecodeN
import Derived.MapKept
/- Texts; bits of numbers; conversions of numbers to others. -/
set_option linter.unusedVariables false
set_option linter.unusedSimpArgs false
namespace Go.SL
open Go.RowKit
/-- A text, as the list of its bytes. -/
def sv (l : List UInt8) : Value := .string ⟨l.toArray⟩
theorem sv_size (l : List UInt8) : (⟨l.toArray⟩ : ByteArray).size = l.length := by simp [ByteArray.size]
theorem beq_dec (l m : List UInt8) : (l == m) = decide (l = m) := by rw [Bool.eq_iff_iff]; simp
theorem sv_get (l : List UInt8) (i : Nat) (h : i < (⟨l.toArray⟩ : ByteArray).size) : (⟨l.toArray⟩ : ByteArray)[i] = l.getD i 0 := by
  have h' : i < l.length := by rwa [sv_size] at h
  rw [List.getD_eq_getElem?_getD, List.getElem?_eq_getElem h']
  rfl
theorem sv_extract (l : List UInt8) (lo hi : Nat) : (⟨l.toArray⟩ : ByteArray).extract lo hi = ⟨((l.take hi).drop lo).toArray⟩ := by
  apply ByteArray.ext
  simp [List.extract_eq_take_drop, List.drop_take]
section
variable {P : Program} {x : Cx} {E : List (Nat × Value)} {L L' : List HP} {ty t t' e : TypeId} {y z c : Operand} {v u : Value}
theorem PS.lenV {l : List UInt8} [hSl : StrT P t] (hv : ev E y = some (sv l) := by rfl) : PS P x E L (.call ⟨.builtin .len, #[y], #[t]⟩) ty (.int .i64 (l.length : Int)) := by
  have h := PS.lenS (P := P) (x := x) (E := E) (L := L) (ty := ty) (t := t) (y := y) (s := ⟨l.toArray⟩) hv
  rwa [sv_size] at h
theorem PS.indexVZ {l : List UInt8} {k : IntKind} {i : Int} [hSl : StrT P t] (hv : ev E y = some (sv l) := by rfl) (hz : ev E z = some (.int k i) := by rfl) (h0 : 0 ≤ i := by omega) (h1 : autoParam (i < l.length) ABD.h._autoParam) : PS P x E L (.index t y z) ty (.int .u8 ((l.getD i.toNat 0).toNat : Int)) := ⟨fun a w _ _ _ _ hE _ => by
  have hs : 0 ≤ i ∧ i < ((⟨l.toArray⟩ : ByteArray).size : Int) := by rw [sv_size]; omega
  have h := run_index_string (P := P) w t ⟨l.toArray⟩ k i hSl.h
  rw [dif_pos hs, sv_get] at h
  simp only [execOp, hE.ev hv, hE.ev hz, sv]
  simp [h]⟩
theorem PS.indexV {l : List UInt8} {i : Nat} [hSl : StrT P t] (hv : ev E y = some (sv l) := by rfl) (hz : ev E z = some (.int .i64 (i : Int)) := by rfl) (h1 : autoParam (i < l.length) ABD.h._autoParam) : PS P x E L (.index t y z) ty (.int .u8 ((l.getD i 0).toNat : Int)) := by
  have h := PS.indexVZ (P := P) (x := x) (E := E) (L := L) (ty := ty) (t := t) (y := y) (z := z) hv hz (by omega) (by omega)
  rwa [Int.toNat_natCast] at h
theorem PS.sliceVL {l : List UInt8} {lo : Int} [hSl : StrT P t] (hv : ev E y = some (sv l) := by rfl) (hz : ev E z = some (.int .i64 lo) := by rfl) (h0 : 0 ≤ lo := by omega) (h1 : autoParam (lo ≤ l.length) ABD.h._autoParam) : PS P x E L (.slice t y (some z) none none) ty (sv (l.drop lo.toNat)) := ⟨fun a w _ _ _ _ hE _ => by
  have e := sv_extract l lo.toNat l.length
  rw [List.take_length] at e
  simp only [execOp, Option.map, hE.ev hv, hE.ev hz, sv]
  simp [Instr.sliceAt, Instr.slice, Instr.sliceBounds, Instr.sliceBound, asIntOf, run_underlying hSl.h, sv_size, h0, h1, e]⟩
theorem PS.sliceVH {l : List UInt8} {hi : Int} [hSl : StrT P t] (hv : ev E y = some (sv l) := by rfl) (hz : ev E z = some (.int .i64 hi) := by rfl) (h0 : 0 ≤ hi := by omega) (h1 : autoParam (hi ≤ l.length) ABD.h._autoParam) : PS P x E L (.slice t y none (some z) none) ty (sv (l.take hi.toNat)) := ⟨fun a w _ _ _ _ hE _ => by
  have e := sv_extract l 0 hi.toNat
  rw [List.drop_zero] at e
  simp only [execOp, Option.map, hE.ev hv, hE.ev hz, sv]
  simp [Instr.sliceAt, Instr.slice, Instr.sliceBounds, Instr.sliceBound, asIntOf, run_underlying hSl.h, sv_size, h0, h1, e]⟩
theorem PS.sliceVLH {l : List UInt8} {lo hi : Int} [hSl : StrT P t] (hv : ev E y = some (sv l) := by rfl) (hz : ev E z = some (.int .i64 lo) := by rfl) (hc : ev E c = some (.int .i64 hi) := by rfl) (h0 : 0 ≤ lo := by omega) (h1 : lo ≤ hi := by omega) (h2 : autoParam (hi ≤ l.length) ABD.h._autoParam) :
    PS P x E L (.slice t y (some z) (some c) none) ty (sv ((l.take hi.toNat).drop lo.toNat)) := ⟨fun a w _ _ _ _ hE _ => by
  have e := sv_extract l lo.toNat hi.toNat
  have h3 : lo ≤ (hi.toNat : Int) := by omega
  have h4 : 0 ≤ hi := by omega
  simp only [execOp, Option.map, hE.ev hv, hE.ev hz, hE.ev hc, sv]
  simp [Instr.sliceAt, Instr.slice, Instr.sliceBounds, Instr.sliceBound, asIntOf, run_underlying hSl.h, sv_size, h0, h2, h3, h4, e]
  intro hh
  omega⟩
theorem PS.addV {l m : List UInt8} (hv : ev E y = some (sv l) := by rfl) (hz : ev E z = some (sv m) := by rfl) (hb : autoParam (l.length + m.length ≤ 9223372036854775807) ABD.h._autoParam) : PS P x E L (.binOp .add t y z t') ty (sv (l ++ m)) := ⟨fun a w _ _ _ _ hE _ => by
  have e : (⟨l.toArray⟩ : ByteArray) ++ ⟨m.toArray⟩ = ⟨(l ++ m).toArray⟩ := by
    apply ByteArray.ext
    simp
  have h0 : ¬ ((((⟨l.toArray⟩ : ByteArray).size + (⟨m.toArray⟩ : ByteArray).size : Nat) : Int) > IntKind.i64.max) := by
    rw [sv_size, sv_size]
    show ¬ ((l.length + m.length : Nat) : Int) > 9223372036854775807
    omega
  simp only [execOp, hE.ev hv, hE.ev hz, sv]
  simp only [eqGuard, binOp, Op.stringOp]
  simp [h0, e]
  rw [sv_size, sv_size]
  omega⟩
theorem PS.eqV {l m : List UInt8} (hv : ev E y = some (sv l) := by rfl) (hz : ev E z = some (sv m) := by rfl) : PS P x E L (.binOp .eql t y z t') ty (.bool (decide (l = m))) := ⟨fun a w _ _ _ _ hE _ => by
  simp only [execOp, hE.ev hv, hE.ev hz, sv]
  simp [eqGuard, binOp, Op.stringOp, beq_dec]⟩
theorem PS.neV {l m : List UInt8} (hv : ev E y = some (sv l) := by rfl) (hz : ev E z = some (sv m) := by rfl) : PS P x E L (.binOp .neq t y z t') ty (.bool (!decide (l = m))) := ⟨fun a w _ _ _ _ hE _ => by
  simp only [execOp, hE.ev hv, hE.ev hz, sv]
  simp [eqGuard, binOp, Op.stringOp, beq_dec]⟩
/-! ### bits -/
def maxK : IntKind → Int
  | .i8 => 127
  | .i16 => 32767
  | .i32 => 2147483647
  | .i64 => 9223372036854775807
  | .u8 => 255
  | .u16 => 65535
  | .u32 => 4294967295
  | .u64 => 18446744073709551615
theorem maxK_u8 : maxK .u8 = 255 := rfl
theorem maxK_i64 : maxK .i64 = 9223372036854775807 := rfl
theorem maxK_i32 : maxK .i32 = 2147483647 := rfl
theorem maxK_u32 : maxK .u32 = 4294967295 := rfl
theorem maxK_u64 : maxK .u64 = 18446744073709551615 := rfl
theorem maxK_u16 : maxK .u16 = 65535 := rfl
theorem bit_in {k : IntKind} {n m : Int} (hm : maxK k = m) (h : 0 ≤ n ∧ n ≤ m) : (BitVec.ofInt k.bits n).toNat = n.toNat := by
  have hb : n < ((2 ^ k.bits : Nat) : Int) := by
    subst hm
    cases k <;> simp only [maxK] at h <;> simp only [IntKind.bits] <;> omega
  rw [BitVec.toNat_ofInt, Int.emod_eq_of_lt h.1 hb]
theorem wrap_in {k : IntKind} {n m : Int} (hm : maxK k = m) (h : 0 ≤ n ∧ n ≤ m) : k.wrap n = n := by
  subst hm
  cases k <;> simp only [maxK] at h <;> simp [IntKind.wrap, IntKind.bits, IntKind.signed] <;> omega
/-- 2 ^ n, of such n as come. -/
def powOf (n : Int) : Option (Nat × Int) :=
  match n.toNat with
  | 3 => some (3, 8)
  | 1 => some (1, 2)
  | 4 => some (4, 16)
  | 5 => some (5, 32)
  | 6 => some (6, 64)
  | 12 => some (12, 4096)
  | 18 => some (18, 262144)
  | _ => none
def maskOf (n : Int) : Option (Nat × Int) :=
  match n.toNat with
  | 7 => some (3, 8)
  | 15 => some (4, 16)
  | 31 => some (5, 32)
  | 63 => some (6, 64)
  | _ => none
theorem powOf_eq {n c : Int} {p : Nat} (h : powOf n = some (p, c)) : n.toNat = p ∧ c = 2 ^ p ∧ p ≤ 18 := by
  unfold powOf at h
  split at h <;> first
    | (injection h with h; injection h with h1 h2; subst h1 h2; refine ⟨by assumption, by decide, by decide⟩)
    | cases h
theorem maskOf_eq {n c : Int} {p : Nat} (h : maskOf n = some (p, c)) : n.toNat = 2 ^ p - 1 ∧ c = 2 ^ p ∧ p ≤ 18 := by
  unfold maskOf at h
  split at h <;> first
    | (injection h with h; injection h with h1 h2; subst h1 h2; refine ⟨by assumption, by decide, by decide⟩)
    | cases h
theorem bits_big (k : IntKind) (h : k ≠ .u8) (h' : k ≠ .i8) (h2 : k ≠ .u16) (h3 : k ≠ .i16) : 31 ≤ k.bits := by cases k <;> simp_all [IntKind.bits]
theorem PS.andM {k : IntKind} {i j m cc : Int} {p : Nat} (hy : ev E y = some (.int k i) := by rfl) (hz : ev E z = some (.int k j) := by rfl) (hm : maxK k = m := by first | exact maxK_u8 | exact maxK_i64 | exact maxK_i32 | exact maxK_u32 | exact maxK_u64 | exact maxK_u16 | fail) (hj : maskOf j = some (p, cc) := by rfl) (hi : 0 ≤ i ∧ i ≤ m := by omega) (hjj : 0 ≤ j ∧ j ≤ m := by omega) :
    PS P x E L (.binOp .and t y z t') ty (.int k (i % cc)) := ⟨fun a w _ _ _ _ hE _ => by
  obtain ⟨e1, e2, _⟩ := maskOf_eq hj
  have h1 : (BitVec.ofInt k.bits i &&& BitVec.ofInt k.bits j).toNat = (i % cc).toNat := by
    rw [BitVec.toNat_and, bit_in hm hi, bit_in hm hjj, e1, Nat.and_two_pow_sub_one_eq_mod]
    have : (i % cc).toNat = i.toNat % cc.toNat := by
      rw [Int.toNat_emod hi.1 (by rw [e2]; exact Int.le_of_lt (Int.pow_pos (by decide)))]
    rw [this, e2]
    congr 1
  have hc : 0 < cc := by rw [e2]; exact Int.pow_pos (by decide)
  have h0 : 0 ≤ i % cc := Int.emod_nonneg _ (by omega)
  have h2 : i % cc ≤ i := by
    rcases Int.lt_or_le i cc with h | h
    · rw [Int.emod_eq_of_lt hi.1 h]; exact Int.le_refl _
    · have := Int.emod_lt_of_pos i hc; omega
  have h3 : k.wrap (max (i % cc) 0) = i % cc := by
    rw [Int.max_eq_left h0]
    exact wrap_in hm ⟨h0, by omega⟩
  simp only [execOp, hE.ev hy, hE.ev hz]
  simp [eqGuard, binOp, Op.intBits, h1, h3]⟩
theorem PS.orP {k : IntKind} {i j m : Int} {p : Nat} (hy : ev E y = some (.int k i)) (hz : ev E z = some (.int k j)) (hm : maxK k = m) (hi : 0 ≤ i ∧ i % (2 ^ p) = 0) (hj : 0 ≤ j ∧ j < 2 ^ p) (hs : i + j ≤ m) :
    PS P x E L (.binOp .or t y z t') ty (.int k (i + j)) := ⟨fun a w _ _ _ _ hE _ => by
  have h1 : (BitVec.ofInt k.bits i ||| BitVec.ofInt k.bits j).toNat = (i + j).toNat := by
    rw [BitVec.toNat_or, bit_in hm ⟨hi.1, by omega⟩, bit_in hm ⟨hj.1, by omega⟩]
    have e : i.toNat = 2 ^ p * (i.toNat / 2 ^ p) := by
      have h4 : i.toNat % 2 ^ p = 0 := by
        have : ((i.toNat % 2 ^ p : Nat) : Int) = 0 := by
          rw [Int.natCast_emod, Int.toNat_of_nonneg hi.1]
          simpa using hi.2
        omega
      have := Nat.div_add_mod i.toNat (2 ^ p)
      omega
    have hjl : j.toNat < 2 ^ p := by
      have : ((j.toNat : Nat) : Int) < ((2 ^ p : Nat) : Int) := by rw [Int.toNat_of_nonneg hj.1]; simpa using hj.2
      omega
    rw [e, ← Nat.two_pow_add_eq_or_of_lt hjl, ← e]
    omega
  have h3 : k.wrap (max (i + j) 0) = i + j := by
    rw [Int.max_eq_left (by omega)]
    exact wrap_in hm ⟨by omega, hs⟩
  simp only [execOp, hE.ev hy, hE.ev hz]
  simp [eqGuard, binOp, Op.intBits, h1, h3]⟩
theorem PS.or4 {k : IntKind} {i j m : Int} (hy : ev E y = some (.int k i) := by rfl) (hz : ev E z = some (.int k j) := by rfl) (hm : maxK k = m := by first | exact maxK_u8 | exact maxK_i64 | exact maxK_i32 | exact maxK_u32 | exact maxK_u64 | exact maxK_u16 | fail) (hi : 0 ≤ i ∧ i % 16 = 0 := by omega) (hj : 0 ≤ j ∧ j < 16 := by omega) (hs : i + j ≤ m := by omega) : PS P x E L (.binOp .or t y z t') ty (.int k (i + j)) :=
  PS.orP (p := 4) hy hz hm hi hj hs
theorem PS.or5 {k : IntKind} {i j m : Int} (hy : ev E y = some (.int k i) := by rfl) (hz : ev E z = some (.int k j) := by rfl) (hm : maxK k = m := by first | exact maxK_u8 | exact maxK_i64 | exact maxK_i32 | exact maxK_u32 | exact maxK_u64 | exact maxK_u16 | fail) (hi : 0 ≤ i ∧ i % 32 = 0 := by omega) (hj : 0 ≤ j ∧ j < 32 := by omega) (hs : i + j ≤ m := by omega) : PS P x E L (.binOp .or t y z t') ty (.int k (i + j)) :=
  PS.orP (p := 5) hy hz hm hi hj hs
theorem PS.or6 {k : IntKind} {i j m : Int} (hy : ev E y = some (.int k i) := by rfl) (hz : ev E z = some (.int k j) := by rfl) (hm : maxK k = m := by first | exact maxK_u8 | exact maxK_i64 | exact maxK_i32 | exact maxK_u32 | exact maxK_u64 | exact maxK_u16 | fail) (hi : 0 ≤ i ∧ i % 64 = 0 := by omega) (hj : 0 ≤ j ∧ j < 64 := by omega) (hs : i + j ≤ m := by omega) : PS P x E L (.binOp .or t y z t') ty (.int k (i + j)) :=
  PS.orP (p := 6) hy hz hm hi hj hs
theorem PS.or12 {k : IntKind} {i j m : Int} (hy : ev E y = some (.int k i) := by rfl) (hz : ev E z = some (.int k j) := by rfl) (hm : maxK k = m := by first | exact maxK_u8 | exact maxK_i64 | exact maxK_i32 | exact maxK_u32 | exact maxK_u64 | exact maxK_u16 | fail) (hi : 0 ≤ i ∧ i % 4096 = 0 := by omega) (hj : 0 ≤ j ∧ j < 4096 := by omega) (hs : i + j ≤ m := by omega) : PS P x E L (.binOp .or t y z t') ty (.int k (i + j)) :=
  PS.orP (p := 12) hy hz hm hi hj hs
theorem PS.or18 {k : IntKind} {i j m : Int} (hy : ev E y = some (.int k i) := by rfl) (hz : ev E z = some (.int k j) := by rfl) (hm : maxK k = m := by first | exact maxK_u8 | exact maxK_i64 | exact maxK_i32 | exact maxK_u32 | exact maxK_u64 | exact maxK_u16 | fail) (hi : 0 ≤ i ∧ i % 262144 = 0 := by omega) (hj : 0 ≤ j ∧ j < 262144 := by omega) (hs : i + j ≤ m := by omega) : PS P x E L (.binOp .or t y z t') ty (.int k (i + j)) :=
  PS.orP (p := 18) hy hz hm hi hj hs
theorem pow_bits {k : IntKind} {m c : Int} {p : Nat} (hm : maxK k = m) (hc : c = 2 ^ p) (h : c ≤ m) (hp : p ≤ 18) : p ≤ k.bits := by
  subst hm
  cases k <;> simp only [IntKind.bits] <;> try omega
  all_goals
    simp only [maxK] at h
    rcases Nat.lt_or_ge p 8 with h8 | h8
    · omega
    · have h9 : (2 : Int) ^ 8 ≤ 2 ^ p := by
        have := Nat.pow_le_pow_right (n := 2) (by decide) h8
        exact_mod_cast this
      rcases Nat.lt_or_ge p 16 with h16 | h16
      · omega
      · have h17 : (2 : Int) ^ 16 ≤ 2 ^ p := by
          have := Nat.pow_le_pow_right (n := 2) (by decide) h16
          exact_mod_cast this
        omega
theorem PS.shlM {k yk : IntKind} {i n m cc : Int} {p : Nat} (hy : ev E y = some (.int k i) := by rfl) (hz : ev E z = some (.int yk n) := by rfl) (hm : maxK k = m := by first | exact maxK_u8 | exact maxK_i64 | exact maxK_i32 | exact maxK_u32 | exact maxK_u64 | exact maxK_u16 | fail) (hp : powOf n = some (p, cc) := by rfl) (hn : 0 ≤ n := by omega) (hi : 0 ≤ i ∧ i * cc ≤ m := by omega) (hcm : cc ≤ m := by omega) :
    PS P x E L (.binOp .shl t y z t') ty (.int k (i * cc)) := ⟨fun a w _ _ _ _ hE _ => by
  obtain ⟨e1, e2, e3⟩ := powOf_eq hp
  have hb := pow_bits hm e2 hcm e3
  have h1 : min n.toNat k.bits = p := by omega
  have h0 : 0 ≤ i * cc := Int.mul_nonneg hi.1 (by rw [e2]; exact Int.le_of_lt (Int.pow_pos (by decide)))
  have h3 : k.wrap (i * 2 ^ p) = i * cc := by
    rw [← e2]
    exact wrap_in hm ⟨h0, hi.2⟩
  have h4 : ¬ n < 0 := by omega
  simp only [execOp, hE.ev hy, hE.ev hz]
  simp [eqGuard, binOp, Op.shift, h1, h3, h4]⟩
theorem PS.shrM {k yk : IntKind} {i n m cc : Int} {p : Nat} (hy : ev E y = some (.int k i) := by rfl) (hz : ev E z = some (.int yk n) := by rfl) (hm : maxK k = m := by first | exact maxK_u8 | exact maxK_i64 | exact maxK_i32 | exact maxK_u32 | exact maxK_u64 | exact maxK_u16 | fail) (hp : powOf n = some (p, cc) := by rfl) (hn : 0 ≤ n := by omega) (hi : 0 ≤ i := by omega) (hcm : cc ≤ m := by omega) :
    PS P x E L (.binOp .shr t y z t') ty (.int k (i / cc)) := ⟨fun a w _ _ _ _ hE _ => by
  obtain ⟨e1, e2, e3⟩ := powOf_eq hp
  have hb := pow_bits hm e2 hcm e3
  have h1 : min n.toNat k.bits = p := by omega
  have h3 : i.fdiv (2 ^ p) = i / cc := by
    rw [← e2]
    exact Int.fdiv_eq_ediv_of_nonneg _ (by rw [e2]; exact Int.le_of_lt (Int.pow_pos (by decide)))
  have h4 : ¬ n < 0 := by omega
  simp only [execOp, hE.ev hy, hE.ev hz]
  simp [eqGuard, binOp, Op.shift, h1, h3, h4]⟩
/-- A conversion that changes nothing. -/
theorem PS.convF {kd k1 k2 : IntKind} {n m : Int} [h1 : IntT P t k1] [h2 : IntT P t' k2] (hy : ev E y = some (.int kd n) := by rfl) (hm : maxK k2 = m := by first | exact maxK_u8 | exact maxK_i64 | exact maxK_i32 | exact maxK_u32 | exact maxK_u64 | exact maxK_u16 | fail) (hb : 0 ≤ n ∧ n ≤ m := by omega) : PS P x E L (.convert t t' y) ty (.int k2 n) := by
  have h := PS.convW (P := P) (x := x) (E := E) (L := L) (t := t) (t' := t') (ty := ty) hy
  rwa [wrap_in hm hb] at h
theorem PS.convU8 {kd k1 : IntKind} {n : Int} [h1 : IntT P t k1] [h2 : IntT P t' .u8] (hy : ev E y = some (.int kd n) := by rfl) : PS P x E L (.convert t t' y) ty (.int .u8 (n % 256)) := by
  have h := PS.convW (P := P) (x := x) (E := E) (L := L) (t := t) (t' := t') (ty := ty) hy
  have e : IntKind.u8.wrap n = n % 256 := by simp [IntKind.wrap, IntKind.bits, IntKind.signed]
  rwa [e] at h
end
end Go.SL

/- From contracts of the library's to contracts here. -/
set_option linter.unusedVariables false
set_option linter.unusedSimpArgs false
namespace Go.SL
open Go.RowKit
/-- A call that leaves all that was there. -/
theorem Spec.ofBelow {P : Program} {f : FuncId} {args : List Value} {Rs : List (World → Prop)} {u : Value} (h : ∀ w, (∀ R ∈ Rs, R w) → Calls P f args.toArray w fun e w' => e = .returned u ∧ Below w.heap.size w w') :
    Spec P f args Rs [] (fun _ : Unit => u) (fun _ => []) (fun _ => True) := by
  intro w0 O hR hS
  refine (h w0 fun R hm => (hR R hm).h w0 hS).mono ?_
  rintro e w' ⟨rfl, hb⟩
  exact ⟨(), trivial, rfl, ⟨hb.os, hb.tape, hb.output, hb.size, fun k hk _ => hb.block k hk⟩, fun _ => none, (fun _ _ h => by cases h), (fun _ _ h => by cases h), fun _ => rfl⟩
/-! ### results that lie in cells, among others -/
structure ResIn (P : Program) (x : Cx) (E : List (Nat × Value)) (L : List HP) (rs : List ResultVar) (vs : List Value) : Prop where
  h : ∀ a w, EnvOK x.n x.ds E a → SAT x.w0 x.O L w → ∀ acc : List Value, (rs.foldlM (fun (bs : Array Value) (r : ResultVar) => bs.push <$>
      (match r with | .tmp t => pure (a.tmps.getD t undef) | .cell c t => do loadVar t (← asAddr (a.tmps.getD c undef)) : Sem Value)) acc.toArray : Sem (Array Value)).run P w = .ok (acc ++ vs).toArray w
section
variable {P : Program} {x : Cx} {E : List (Nat × Value)} {L L1 L' : List HP} {rs : List ResultVar} {vs : List Value} {v : Value} {k : List Fr}
theorem ResIn.nil : ResIn P x E L [] [] := ⟨fun a w _ _ acc => by simp⟩
theorem ResIn.tmp {t : Nat} (h : ResIn P x E L rs vs) (hv : lookup E t = some v := by rfl) : ResIn P x E L (.tmp t :: rs) (v :: vs) := ⟨fun a w hE hS acc => by
  have := h.h a w hE hS (acc ++ [v])
  simp only [List.foldlM_cons, hE.get t v hv]
  simp only [List.append_assoc, List.singleton_append] at this
  simpa using this⟩
theorem ResIn.one {c rt : Nat} {b f : Nat} (h : ResIn P x E L rs vs) (hv : lookup E c = some (.pointer (some ⟨b, f, none⟩))) (hl : ∀ w, SAT x.w0 x.O L w → (loadVar rt ⟨b, f, none⟩).run P w = .ok v w) : ResIn P x E L (.cell c rt :: rs) (v :: vs) := ⟨fun a w hE hS acc => by
  have := h.h a w hE hS (acc ++ [v])
  have he := hE.get c _ hv
  rw [Array.getD_eq_getD_getElem?] at he
  have hl := hl w hS
  simp only [List.append_assoc, List.singleton_append] at this
  have ha : asAddr (.pointer (some ⟨b, f, none⟩)) = (pure ⟨b, f, none⟩ : Sem Addr) := rfl
  simp [List.foldlM_cons, he, ha, hl]
  simpa using this⟩
theorem load_var {P : Program} {w : World} {rt : TypeId} {a : Addr} {u : Value} (h : (execOp (fun _ => .pointer (some a)) ⟨none, .load rt (.tmp 0), 0, "", #[], none⟩).run P w = .ok (.value u) w) : (loadVar rt a).run P w = .ok u w := by
  simp only [execOp] at h
  simp [Instr.loadAt, Instr.sureAddr, Sem.run_bind] at h
  revert h
  cases (loadVar rt a).run P w <;> simp [Result.andThen]
theorem ResIn.cell {c rt : Nat} {b f sz bt : Nat} {zv : Value} {cs : Array Value} {T : TypeId} {fr : Nat × Nat} [hT : Ty P rt false sz bt zv] (h : ResIn P x E L rs vs) (hv : lookup E c = some (.pointer (some ⟨b, f, none⟩)) := by rfl)
    (hp : autoParam (Pick L (blk b (.cells cs T fr)) L') APK.h._autoParam) (hn : nth cs.toList f = some v := by rfl) : ResIn P x E L (.cell c rt :: rs) (v :: vs) := ResIn.one h hv fun w hS => by
  have hw := (hS.pick hp).read
  have hv : cs[f]? = some v := by rw [nth_eq] at hn; simpa using hn
  simp [loadVar, hT.isAgg, Go.load, Sem.run, World.cell?, hw, hv]
/-- Results, some of them in cells. -/
theorem resX_run {fn : Func} {a : Act} {w : World} (hf : fn.results = rs.toArray) (h : ResIn P x E L rs vs) (hE : EnvOK x.n x.ds E a) (hS : SAT x.w0 x.O L w) : (results fn a.tmps).run P w = .ok (tup vs) w := by
  have h := h.h a w hE hS []
  simp only [List.nil_append] at h
  simp only [results, hf]
  rw [Array.mapM_eq_foldlM]
  simp only [Sem.run_bind, List.foldlM_toArray']
  refine Eq.trans (b := Result.andThen (Result.ok vs.toArray w) _) (congrArg (fun r => Result.andThen r _) h) ?_
  simp only [Result.andThen]
  match vs with
  | [] => rfl
  | [v] => rfl
  | a :: b :: l =>
    rw [dif_neg (by simp)]
    rfl
theorem J.retX (h : ∀ w, SAT x.w0 x.O L w → x.R (.returned (tup vs)) w) (hf : x.fn.results = rs.toArray := by rfl) (hv : autoParam (ResIn P x E L rs vs) ARES.h._autoParam) (hq : x.Q0 = bodyPost P x.fn x.R := by rfl) (hds : x.ds = [] := by rfl) : J P x E L .ret k := ⟨fun _ w hE hS =>
  wpIn_ret (post_ret (hq ▸ ⟨by rw [hE.defers, hds]; rfl, tup vs, resX_run hf hv hE hS, h w hS⟩))⟩
theorem J.retXM {ds : List Nat} (h : ∀ w, SAT x.w0 x.O L1 w → x.R (.returned (tup vs)) w) (hds : x.ds = ds := by rfl) (hm : autoParam (MarksIn ds L L1) AMK.h._autoParam) (hf : x.fn.results = rs.toArray := by rfl) (hv : autoParam (ResIn P x E L1 rs vs) ARES.h._autoParam) (hq : x.Q0 = bpM P x.fn x.R := by rfl) : J P x E L .ret k := ⟨fun a w hE hS =>
  wpIn_ret (post_ret (by rw [hq]; exact leavesM (hds ▸ hE) hS hm fun w' hS' => ⟨resX_run hf hv hE hS', h w' hS'⟩))⟩
theorem Ent.pure {φ : Prop} {L2 : List HP} (h2 : Ent L L2) (h : φ) : Ent L (pureR φ :: L2) := Ent.pick (Pick.pure h) h2
theorem iEPure {φ : Prop} {L2 : List HP} (h : Ent L (pureR φ :: L2)) : Ent L (pureR φ :: L2) := h
theorem J.pureAt {c : Code} {φ : Prop} (h : φ → J P x E L' c k) (hp : autoParam (Pick L (pureR φ) L') APB.h._autoParam) : J P x E L c k := ⟨fun a w hE hS => by
  have h1 := (hS.pick hp).pure
  exact (h h1.1).h a w hE h1.2⟩
theorem JK.pureAt {φ : Prop} (h : φ → JK P x E L' k) (hp : autoParam (Pick L (pureR φ) L') APB.h._autoParam) : JK P x E L k := ⟨fun a w hE hS => by
  have h1 := (hS.pick hp).pure
  exact (h h1.1).h a w hE h1.2⟩
end
end Go.SL

/- What the rules ask of the types of this seat, and of its functions. -/
namespace Go.SL
open Go.Proofs
instance : Ty Tryz.prog 1 false 1 8 .nilFunc := ⟨⟨by kernel_rfl, by kernel_rfl⟩⟩
instance : Ty Tryz.prog 2 false 1 8 (.int .i64 0) := ⟨⟨by kernel_rfl, by kernel_rfl⟩⟩
instance : IntT Tryz.prog 2 .i64 := ⟨by kernel_rfl⟩
instance : Ty Tryz.prog 3 false 1 8 (.int .i64 0) := ⟨⟨by kernel_rfl, by kernel_rfl⟩⟩
instance : IntT Tryz.prog 3 .i64 := ⟨by kernel_rfl⟩
instance : Ty Tryz.prog 4 false 1 1 (.bool false) := ⟨⟨by kernel_rfl, by kernel_rfl⟩⟩
instance : BoolT Tryz.prog 4 := ⟨by kernel_rfl⟩
instance : Ty Tryz.prog 5 false 1 1 (.int .u8 0) := ⟨⟨by kernel_rfl, by kernel_rfl⟩⟩
instance : IntT Tryz.prog 5 .u8 := ⟨by kernel_rfl⟩
instance : Ty Tryz.prog 6 false 1 1 (.int .u8 0) := ⟨⟨by kernel_rfl, by kernel_rfl⟩⟩
instance : IntT Tryz.prog 6 .u8 := ⟨by kernel_rfl⟩
instance : Ty Tryz.prog 7 true 4 24 (.agg #[(.int .i64 0), (.int .i64 0), (.bool false), (.int .u8 0)]) := ⟨⟨by kernel_rfl, by kernel_rfl⟩⟩
instance : StT Tryz.prog 7 #[(0, 1), (1, 1), (2, 1), (3, 1)] := ⟨⟨_, Tryz.underlying7, fun _ => by kernel_rfl⟩⟩
instance : FldT Tryz.prog 7 0 0 := ⟨fun _ _ => by kernel_rfl⟩
instance : FldT Tryz.prog 7 1 1 := ⟨fun _ _ => by kernel_rfl⟩
instance : FldT Tryz.prog 7 2 2 := ⟨fun _ _ => by kernel_rfl⟩
instance : FldT Tryz.prog 7 3 3 := ⟨fun _ _ => by kernel_rfl⟩
instance : Ty Tryz.prog 8 true 4 24 (.agg #[(.int .i64 0), (.int .i64 0), (.bool false), (.int .u8 0)]) := ⟨⟨by kernel_rfl, by kernel_rfl⟩⟩
instance : StT Tryz.prog 8 #[(0, 1), (1, 1), (2, 1), (3, 1)] := ⟨⟨_, Tryz.underlying8, fun _ => by kernel_rfl⟩⟩
instance : FldT Tryz.prog 8 0 0 := ⟨fun _ _ => by kernel_rfl⟩
instance : FldT Tryz.prog 8 1 1 := ⟨fun _ _ => by kernel_rfl⟩
instance : FldT Tryz.prog 8 2 2 := ⟨fun _ _ => by kernel_rfl⟩
instance : FldT Tryz.prog 8 3 3 := ⟨fun _ _ => by kernel_rfl⟩
instance : Ty Tryz.prog 9 false 1 16 (.string ⟨#[]⟩) := ⟨⟨by kernel_rfl, by kernel_rfl⟩⟩
instance : StrT Tryz.prog 9 := ⟨by kernel_rfl⟩
instance : Ty Tryz.prog 10 false 1 16 (.string ⟨#[]⟩) := ⟨⟨by kernel_rfl, by kernel_rfl⟩⟩
instance : StrT Tryz.prog 10 := ⟨by kernel_rfl⟩
instance : Ty Tryz.prog 11 false 1 16 (.string ⟨#[]⟩) := ⟨⟨by kernel_rfl, by kernel_rfl⟩⟩
instance : StrT Tryz.prog 11 := ⟨by kernel_rfl⟩
instance : Ty Tryz.prog 12 false 1 8 (.int .u64 0) := ⟨⟨by kernel_rfl, by kernel_rfl⟩⟩
instance : IntT Tryz.prog 12 .u64 := ⟨by kernel_rfl⟩
instance : Ty Tryz.prog 13 true 2 24 (.agg #[(.string ⟨#[]⟩), (.int .u64 0)]) := ⟨⟨by kernel_rfl, by kernel_rfl⟩⟩
instance : StT Tryz.prog 13 #[(0, 1), (1, 1)] := ⟨⟨_, Tryz.underlying13, fun _ => by kernel_rfl⟩⟩
instance : FldT Tryz.prog 13 0 0 := ⟨fun _ _ => by kernel_rfl⟩
instance : FldT Tryz.prog 13 1 1 := ⟨fun _ _ => by kernel_rfl⟩
instance : Ty Tryz.prog 14 true 2 24 (.agg #[(.string ⟨#[]⟩), (.int .u64 0)]) := ⟨⟨by kernel_rfl, by kernel_rfl⟩⟩
instance : StT Tryz.prog 14 #[(0, 1), (1, 1)] := ⟨⟨_, Tryz.underlying14, fun _ => by kernel_rfl⟩⟩
instance : FldT Tryz.prog 14 0 0 := ⟨fun _ _ => by kernel_rfl⟩
instance : FldT Tryz.prog 14 1 1 := ⟨fun _ _ => by kernel_rfl⟩
instance : Ty Tryz.prog 15 false 1 8 (.pointer none) := ⟨⟨by kernel_rfl, by kernel_rfl⟩⟩
instance : NIfT Tryz.prog 15 := ⟨⟨.pointer 345, by kernel_rfl, fun _ h => by cases h⟩⟩
instance : Ty Tryz.prog 16 false 1 8 (.pointer none) := ⟨⟨by kernel_rfl, by kernel_rfl⟩⟩
instance : NIfT Tryz.prog 16 := ⟨⟨.pointer 348, by kernel_rfl, fun _ h => by cases h⟩⟩
instance : Ty Tryz.prog 17 false 1 8 (.pointer none) := ⟨⟨by kernel_rfl, by kernel_rfl⟩⟩
instance : NIfT Tryz.prog 17 := ⟨⟨.pointer 356, by kernel_rfl, fun _ h => by cases h⟩⟩
instance : Ty Tryz.prog 18 true 1 8 (.agg #[(.pointer none)]) := ⟨⟨by kernel_rfl, by kernel_rfl⟩⟩
instance : StT Tryz.prog 18 #[(0, 1)] := ⟨⟨_, Tryz.underlying18, fun _ => by kernel_rfl⟩⟩
instance : FldT Tryz.prog 18 0 0 := ⟨fun _ _ => by kernel_rfl⟩
instance : Ty Tryz.prog 19 true 1 8 (.agg #[(.pointer none)]) := ⟨⟨by kernel_rfl, by kernel_rfl⟩⟩
instance : StT Tryz.prog 19 #[(0, 1)] := ⟨⟨_, Tryz.underlying19, fun _ => by kernel_rfl⟩⟩
instance : FldT Tryz.prog 19 0 0 := ⟨fun _ _ => by kernel_rfl⟩
instance : Ty Tryz.prog 20 false 1 16 .nilIface := ⟨⟨by kernel_rfl, by kernel_rfl⟩⟩
instance : IfT Tryz.prog 20 := ⟨⟨_, Tryz.underlying20⟩⟩
instance : Ty Tryz.prog 21 false 1 4 (.int .i32 0) := ⟨⟨by kernel_rfl, by kernel_rfl⟩⟩
instance : IntT Tryz.prog 21 .i32 := ⟨by kernel_rfl⟩
instance : Ty Tryz.prog 22 false 1 24 (.slice none 0 0) := ⟨⟨by kernel_rfl, by kernel_rfl⟩⟩
instance : SlT Tryz.prog 22 5 := ⟨by kernel_rfl⟩
instance : Ty Tryz.prog 23 false 1 24 (.slice none 0 0) := ⟨⟨by kernel_rfl, by kernel_rfl⟩⟩
instance : SlT Tryz.prog 23 98 := ⟨by kernel_rfl⟩
instance : Ty Tryz.prog 24 true 6 72 (.agg #[(.string ⟨#[]⟩), (.int .i64 0), (.int .i64 0), (.int .i64 0), (.int .i64 0), (.slice none 0 0)]) := ⟨⟨by kernel_rfl, by kernel_rfl⟩⟩
instance : StT Tryz.prog 24 #[(0, 1), (1, 1), (2, 1), (3, 1), (4, 1), (5, 1)] := ⟨⟨_, Tryz.underlying24, fun _ => by kernel_rfl⟩⟩
instance : FldT Tryz.prog 24 0 0 := ⟨fun _ _ => by kernel_rfl⟩
instance : FldT Tryz.prog 24 1 1 := ⟨fun _ _ => by kernel_rfl⟩
instance : FldT Tryz.prog 24 2 2 := ⟨fun _ _ => by kernel_rfl⟩
instance : FldT Tryz.prog 24 3 3 := ⟨fun _ _ => by kernel_rfl⟩
instance : FldT Tryz.prog 24 4 4 := ⟨fun _ _ => by kernel_rfl⟩
instance : FldT Tryz.prog 24 5 5 := ⟨fun _ _ => by kernel_rfl⟩
instance : Ty Tryz.prog 25 true 6 72 (.agg #[(.string ⟨#[]⟩), (.int .i64 0), (.int .i64 0), (.int .i64 0), (.int .i64 0), (.slice none 0 0)]) := ⟨⟨by kernel_rfl, by kernel_rfl⟩⟩
instance : StT Tryz.prog 25 #[(0, 1), (1, 1), (2, 1), (3, 1), (4, 1), (5, 1)] := ⟨⟨_, Tryz.underlying25, fun _ => by kernel_rfl⟩⟩
instance : FldT Tryz.prog 25 0 0 := ⟨fun _ _ => by kernel_rfl⟩
instance : FldT Tryz.prog 25 1 1 := ⟨fun _ _ => by kernel_rfl⟩
instance : FldT Tryz.prog 25 2 2 := ⟨fun _ _ => by kernel_rfl⟩
instance : FldT Tryz.prog 25 3 3 := ⟨fun _ _ => by kernel_rfl⟩
instance : FldT Tryz.prog 25 4 4 := ⟨fun _ _ => by kernel_rfl⟩
instance : FldT Tryz.prog 25 5 5 := ⟨fun _ _ => by kernel_rfl⟩
instance : Ty Tryz.prog 27 false 1 8 .nilFunc := ⟨⟨by kernel_rfl, by kernel_rfl⟩⟩
instance : Ty Tryz.prog 29 false 1 8 .nilFunc := ⟨⟨by kernel_rfl, by kernel_rfl⟩⟩
instance : Ty Tryz.prog 30 false 1 8 .nilFunc := ⟨⟨by kernel_rfl, by kernel_rfl⟩⟩
instance : Ty Tryz.prog 31 false 1 24 (.slice none 0 0) := ⟨⟨by kernel_rfl, by kernel_rfl⟩⟩
instance : SlT Tryz.prog 31 3 := ⟨by kernel_rfl⟩
instance : Ty Tryz.prog 33 false 1 8 .nilFunc := ⟨⟨by kernel_rfl, by kernel_rfl⟩⟩
instance : Ty Tryz.prog 34 false 1 8 .nilFunc := ⟨⟨by kernel_rfl, by kernel_rfl⟩⟩
instance : Ty Tryz.prog 35 false 1 8 .nilFunc := ⟨⟨by kernel_rfl, by kernel_rfl⟩⟩
instance : Ty Tryz.prog 36 false 1 8 .nilFunc := ⟨⟨by kernel_rfl, by kernel_rfl⟩⟩
instance : Ty Tryz.prog 38 false 1 8 .nilFunc := ⟨⟨by kernel_rfl, by kernel_rfl⟩⟩
instance : Ty Tryz.prog 39 false 1 8 .nilFunc := ⟨⟨by kernel_rfl, by kernel_rfl⟩⟩
instance : Ty Tryz.prog 40 false 1 24 (.slice none 0 0) := ⟨⟨by kernel_rfl, by kernel_rfl⟩⟩
instance : SlT Tryz.prog 40 112 := ⟨by kernel_rfl⟩
instance : Ty Tryz.prog 42 false 1 8 .nilFunc := ⟨⟨by kernel_rfl, by kernel_rfl⟩⟩
instance : Ty Tryz.prog 43 false 1 8 .nilFunc := ⟨⟨by kernel_rfl, by kernel_rfl⟩⟩
instance : Ty Tryz.prog 44 false 1 8 .nilFunc := ⟨⟨by kernel_rfl, by kernel_rfl⟩⟩
instance : Ty Tryz.prog 45 false 1 8 .nilFunc := ⟨⟨by kernel_rfl, by kernel_rfl⟩⟩
instance : Ty Tryz.prog 46 false 1 8 (.pointer none) := ⟨⟨by kernel_rfl, by kernel_rfl⟩⟩
instance : NIfT Tryz.prog 46 := ⟨⟨.pointer 79, by kernel_rfl, fun _ h => by cases h⟩⟩
instance : Ty Tryz.prog 47 false 1 8 .nilFunc := ⟨⟨by kernel_rfl, by kernel_rfl⟩⟩
instance : Ty Tryz.prog 48 false 1 8 .nilFunc := ⟨⟨by kernel_rfl, by kernel_rfl⟩⟩
instance : Ty Tryz.prog 50 false 1 8 .nilFunc := ⟨⟨by kernel_rfl, by kernel_rfl⟩⟩
instance : Ty Tryz.prog 51 false 1 8 .nilFunc := ⟨⟨by kernel_rfl, by kernel_rfl⟩⟩
instance : Ty Tryz.prog 52 false 1 8 (.pointer none) := ⟨⟨by kernel_rfl, by kernel_rfl⟩⟩
instance : NIfT Tryz.prog 52 := ⟨⟨.pointer 68, by kernel_rfl, fun _ h => by cases h⟩⟩
instance : Ty Tryz.prog 53 false 1 16 .nilIface := ⟨⟨by kernel_rfl, by kernel_rfl⟩⟩
instance : IfT Tryz.prog 53 := ⟨⟨_, Tryz.underlying53⟩⟩
instance : Ty Tryz.prog 54 false 1 16 .nilIface := ⟨⟨by kernel_rfl, by kernel_rfl⟩⟩
instance : IfT Tryz.prog 54 := ⟨⟨_, Tryz.underlying54⟩⟩
instance : Ty Tryz.prog 56 false 1 8 .nilFunc := ⟨⟨by kernel_rfl, by kernel_rfl⟩⟩
instance : Ty Tryz.prog 57 false 1 8 .nilFunc := ⟨⟨by kernel_rfl, by kernel_rfl⟩⟩
instance : Ty Tryz.prog 58 false 1 8 .nilFunc := ⟨⟨by kernel_rfl, by kernel_rfl⟩⟩
instance : Ty Tryz.prog 59 false 1 8 .nilFunc := ⟨⟨by kernel_rfl, by kernel_rfl⟩⟩
instance : Ty Tryz.prog 60 false 1 8 .nilFunc := ⟨⟨by kernel_rfl, by kernel_rfl⟩⟩
instance : Ty Tryz.prog 61 false 1 8 .nilFunc := ⟨⟨by kernel_rfl, by kernel_rfl⟩⟩
instance : Ty Tryz.prog 62 false 1 8 .nilFunc := ⟨⟨by kernel_rfl, by kernel_rfl⟩⟩
instance : Ty Tryz.prog 63 false 1 8 .nilFunc := ⟨⟨by kernel_rfl, by kernel_rfl⟩⟩
instance : Ty Tryz.prog 64 false 1 8 .nilFunc := ⟨⟨by kernel_rfl, by kernel_rfl⟩⟩
instance : Ty Tryz.prog 65 false 1 8 .nilFunc := ⟨⟨by kernel_rfl, by kernel_rfl⟩⟩
instance : Ty Tryz.prog 66 false 1 8 .nilFunc := ⟨⟨by kernel_rfl, by kernel_rfl⟩⟩
instance : Ty Tryz.prog 67 true 8 104 (.agg #[(.string ⟨#[]⟩), (.int .i64 0), (.int .i64 0), (.int .i64 0), (.int .i64 0), (.slice none 0 0), (.slice none 0 0), (.int .i64 0)]) := ⟨⟨by kernel_rfl, by kernel_rfl⟩⟩
instance : StT Tryz.prog 67 #[(0, 6), (6, 1), (7, 1)] := ⟨⟨_, Tryz.underlying67, fun _ => by kernel_rfl⟩⟩
instance : FldT Tryz.prog 67 0 0 := ⟨fun _ _ => by kernel_rfl⟩
instance : FldT Tryz.prog 67 1 6 := ⟨fun _ _ => by kernel_rfl⟩
instance : FldT Tryz.prog 67 2 7 := ⟨fun _ _ => by kernel_rfl⟩
instance : Ty Tryz.prog 68 true 8 104 (.agg #[(.string ⟨#[]⟩), (.int .i64 0), (.int .i64 0), (.int .i64 0), (.int .i64 0), (.slice none 0 0), (.slice none 0 0), (.int .i64 0)]) := ⟨⟨by kernel_rfl, by kernel_rfl⟩⟩
instance : StT Tryz.prog 68 #[(0, 6), (6, 1), (7, 1)] := ⟨⟨_, Tryz.underlying68, fun _ => by kernel_rfl⟩⟩
instance : FldT Tryz.prog 68 0 0 := ⟨fun _ _ => by kernel_rfl⟩
instance : FldT Tryz.prog 68 1 6 := ⟨fun _ _ => by kernel_rfl⟩
instance : FldT Tryz.prog 68 2 7 := ⟨fun _ _ => by kernel_rfl⟩
instance : Ty Tryz.prog 69 false 1 8 .nilFunc := ⟨⟨by kernel_rfl, by kernel_rfl⟩⟩
instance : Ty Tryz.prog 70 false 1 8 .nilFunc := ⟨⟨by kernel_rfl, by kernel_rfl⟩⟩
instance : Ty Tryz.prog 71 false 1 8 .nilFunc := ⟨⟨by kernel_rfl, by kernel_rfl⟩⟩
instance : Ty Tryz.prog 72 false 1 8 .nilFunc := ⟨⟨by kernel_rfl, by kernel_rfl⟩⟩
instance : Ty Tryz.prog 73 false 1 8 .nilFunc := ⟨⟨by kernel_rfl, by kernel_rfl⟩⟩
instance : Ty Tryz.prog 74 false 1 8 .nilFunc := ⟨⟨by kernel_rfl, by kernel_rfl⟩⟩
instance : Ty Tryz.prog 75 false 1 8 .nilFunc := ⟨⟨by kernel_rfl, by kernel_rfl⟩⟩
instance : Ty Tryz.prog 76 false 1 8 .nilFunc := ⟨⟨by kernel_rfl, by kernel_rfl⟩⟩
instance : Ty Tryz.prog 77 false 1 8 .nilFunc := ⟨⟨by kernel_rfl, by kernel_rfl⟩⟩
instance : Ty Tryz.prog 78 true 2 32 (.agg #[(.slice none 0 0), (.int .i64 0)]) := ⟨⟨by kernel_rfl, by kernel_rfl⟩⟩
instance : StT Tryz.prog 78 #[(0, 1), (1, 1)] := ⟨⟨_, Tryz.underlying78, fun _ => by kernel_rfl⟩⟩
instance : FldT Tryz.prog 78 0 0 := ⟨fun _ _ => by kernel_rfl⟩
instance : FldT Tryz.prog 78 1 1 := ⟨fun _ _ => by kernel_rfl⟩
instance : Ty Tryz.prog 79 true 2 32 (.agg #[(.slice none 0 0), (.int .i64 0)]) := ⟨⟨by kernel_rfl, by kernel_rfl⟩⟩
instance : StT Tryz.prog 79 #[(0, 1), (1, 1)] := ⟨⟨_, Tryz.underlying79, fun _ => by kernel_rfl⟩⟩
instance : FldT Tryz.prog 79 0 0 := ⟨fun _ _ => by kernel_rfl⟩
instance : FldT Tryz.prog 79 1 1 := ⟨fun _ _ => by kernel_rfl⟩
instance : Ty Tryz.prog 80 false 1 8 .nilFunc := ⟨⟨by kernel_rfl, by kernel_rfl⟩⟩
instance : Ty Tryz.prog 81 false 1 8 .nilFunc := ⟨⟨by kernel_rfl, by kernel_rfl⟩⟩
instance : Ty Tryz.prog 82 false 1 8 .nilFunc := ⟨⟨by kernel_rfl, by kernel_rfl⟩⟩
instance : Ty Tryz.prog 83 false 1 8 (.pointer none) := ⟨⟨by kernel_rfl, by kernel_rfl⟩⟩
instance : NIfT Tryz.prog 83 := ⟨⟨.pointer 85, by kernel_rfl, fun _ h => by cases h⟩⟩
instance : Ty Tryz.prog 84 true 1 8 (.agg #[(.int .i64 0)]) := ⟨⟨by kernel_rfl, by kernel_rfl⟩⟩
instance : StT Tryz.prog 84 #[(0, 1)] := ⟨⟨_, Tryz.underlying84, fun _ => by kernel_rfl⟩⟩
instance : FldT Tryz.prog 84 0 0 := ⟨fun _ _ => by kernel_rfl⟩
instance : Ty Tryz.prog 85 true 1 8 (.agg #[(.int .i64 0)]) := ⟨⟨by kernel_rfl, by kernel_rfl⟩⟩
instance : StT Tryz.prog 85 #[(0, 1)] := ⟨⟨_, Tryz.underlying85, fun _ => by kernel_rfl⟩⟩
instance : FldT Tryz.prog 85 0 0 := ⟨fun _ _ => by kernel_rfl⟩
instance : Ty Tryz.prog 86 false 1 8 .nilFunc := ⟨⟨by kernel_rfl, by kernel_rfl⟩⟩
instance : Ty Tryz.prog 87 false 1 8 .nilFunc := ⟨⟨by kernel_rfl, by kernel_rfl⟩⟩
instance : Ty Tryz.prog 88 false 1 8 (.pointer none) := ⟨⟨by kernel_rfl, by kernel_rfl⟩⟩
instance : NIfT Tryz.prog 88 := ⟨⟨.pointer 135, by kernel_rfl, fun _ h => by cases h⟩⟩
instance : Ty Tryz.prog 89 false 1 8 .nilFunc := ⟨⟨by kernel_rfl, by kernel_rfl⟩⟩
instance : Ty Tryz.prog 90 false 1 8 .nilFunc := ⟨⟨by kernel_rfl, by kernel_rfl⟩⟩
instance : Ty Tryz.prog 91 false 1 8 .nilFunc := ⟨⟨by kernel_rfl, by kernel_rfl⟩⟩
instance : Ty Tryz.prog 92 false 1 8 .nilFunc := ⟨⟨by kernel_rfl, by kernel_rfl⟩⟩
instance : Ty Tryz.prog 93 false 1 8 .nilFunc := ⟨⟨by kernel_rfl, by kernel_rfl⟩⟩
instance : Ty Tryz.prog 94 false 1 24 (.slice none 0 0) := ⟨⟨by kernel_rfl, by kernel_rfl⟩⟩
instance : SlT Tryz.prog 94 149 := ⟨by kernel_rfl⟩
instance : Ty Tryz.prog 95 false 1 8 .nilFunc := ⟨⟨by kernel_rfl, by kernel_rfl⟩⟩
instance : Ty Tryz.prog 96 false 1 8 .nilFunc := ⟨⟨by kernel_rfl, by kernel_rfl⟩⟩
instance : Ty Tryz.prog 97 true 4 32 (.agg #[(.int .i64 0), (.int .i64 0), (.int .i64 0), (.int .i64 0)]) := ⟨⟨by kernel_rfl, by kernel_rfl⟩⟩
instance : EqTI Tryz.prog 97 4 := ⟨by kernel_rfl, by kernel_rfl, by kernel_rfl, by kernel_rfl, by kernel_rfl⟩
instance : StT Tryz.prog 97 #[(0, 1), (1, 1), (2, 1), (3, 1)] := ⟨⟨_, Tryz.underlying97, fun _ => by kernel_rfl⟩⟩
instance : FldT Tryz.prog 97 0 0 := ⟨fun _ _ => by kernel_rfl⟩
instance : FldT Tryz.prog 97 1 1 := ⟨fun _ _ => by kernel_rfl⟩
instance : FldT Tryz.prog 97 2 2 := ⟨fun _ _ => by kernel_rfl⟩
instance : FldT Tryz.prog 97 3 3 := ⟨fun _ _ => by kernel_rfl⟩
instance : Ty Tryz.prog 98 true 4 32 (.agg #[(.int .i64 0), (.int .i64 0), (.int .i64 0), (.int .i64 0)]) := ⟨⟨by kernel_rfl, by kernel_rfl⟩⟩
instance : EqTI Tryz.prog 98 4 := ⟨by kernel_rfl, by kernel_rfl, by kernel_rfl, by kernel_rfl, by kernel_rfl⟩
instance : StT Tryz.prog 98 #[(0, 1), (1, 1), (2, 1), (3, 1)] := ⟨⟨_, Tryz.underlying98, fun _ => by kernel_rfl⟩⟩
instance : FldT Tryz.prog 98 0 0 := ⟨fun _ _ => by kernel_rfl⟩
instance : FldT Tryz.prog 98 1 1 := ⟨fun _ _ => by kernel_rfl⟩
instance : FldT Tryz.prog 98 2 2 := ⟨fun _ _ => by kernel_rfl⟩
instance : FldT Tryz.prog 98 3 3 := ⟨fun _ _ => by kernel_rfl⟩
instance : Ty Tryz.prog 99 false 1 8 .nilFunc := ⟨⟨by kernel_rfl, by kernel_rfl⟩⟩
instance : Ty Tryz.prog 101 false 1 8 .nilFunc := ⟨⟨by kernel_rfl, by kernel_rfl⟩⟩
instance : Ty Tryz.prog 102 false 1 8 .nilFunc := ⟨⟨by kernel_rfl, by kernel_rfl⟩⟩
instance : Ty Tryz.prog 103 false 1 8 (.pointer none) := ⟨⟨by kernel_rfl, by kernel_rfl⟩⟩
instance : NIfT Tryz.prog 103 := ⟨⟨.pointer 83, by kernel_rfl, fun _ h => by cases h⟩⟩
instance : Ty Tryz.prog 104 false 1 8 (.pointer none) := ⟨⟨by kernel_rfl, by kernel_rfl⟩⟩
instance : NIfT Tryz.prog 104 := ⟨⟨.pointer 165, by kernel_rfl, fun _ h => by cases h⟩⟩
instance : Ty Tryz.prog 105 false 1 8 .nilFunc := ⟨⟨by kernel_rfl, by kernel_rfl⟩⟩
instance : Ty Tryz.prog 106 false 1 16 .nilIface := ⟨⟨by kernel_rfl, by kernel_rfl⟩⟩
instance : IfT Tryz.prog 106 := ⟨⟨_, Tryz.underlying106⟩⟩
instance : Ty Tryz.prog 107 false 1 16 .nilIface := ⟨⟨by kernel_rfl, by kernel_rfl⟩⟩
instance : IfT Tryz.prog 107 := ⟨⟨_, Tryz.underlying107⟩⟩
instance : Ty Tryz.prog 108 false 1 8 .nilFunc := ⟨⟨by kernel_rfl, by kernel_rfl⟩⟩
instance : Ty Tryz.prog 109 false 1 8 .nilFunc := ⟨⟨by kernel_rfl, by kernel_rfl⟩⟩
instance : Ty Tryz.prog 110 false 1 24 (.slice none 0 0) := ⟨⟨by kernel_rfl, by kernel_rfl⟩⟩
instance : SlT Tryz.prog 110 250 := ⟨by kernel_rfl⟩
instance : Ty Tryz.prog 111 true 4 48 (.agg #[(.int .i64 0), (.int .i64 0), (.int .i64 0), (.slice none 0 0)]) := ⟨⟨by kernel_rfl, by kernel_rfl⟩⟩
instance : StT Tryz.prog 111 #[(0, 1), (1, 1), (2, 1), (3, 1)] := ⟨⟨_, Tryz.underlying111, fun _ => by kernel_rfl⟩⟩
instance : FldT Tryz.prog 111 0 0 := ⟨fun _ _ => by kernel_rfl⟩
instance : FldT Tryz.prog 111 1 1 := ⟨fun _ _ => by kernel_rfl⟩
instance : FldT Tryz.prog 111 2 2 := ⟨fun _ _ => by kernel_rfl⟩
instance : FldT Tryz.prog 111 3 3 := ⟨fun _ _ => by kernel_rfl⟩
instance : Ty Tryz.prog 112 true 4 48 (.agg #[(.int .i64 0), (.int .i64 0), (.int .i64 0), (.slice none 0 0)]) := ⟨⟨by kernel_rfl, by kernel_rfl⟩⟩
instance : StT Tryz.prog 112 #[(0, 1), (1, 1), (2, 1), (3, 1)] := ⟨⟨_, Tryz.underlying112, fun _ => by kernel_rfl⟩⟩
instance : FldT Tryz.prog 112 0 0 := ⟨fun _ _ => by kernel_rfl⟩
instance : FldT Tryz.prog 112 1 1 := ⟨fun _ _ => by kernel_rfl⟩
instance : FldT Tryz.prog 112 2 2 := ⟨fun _ _ => by kernel_rfl⟩
instance : FldT Tryz.prog 112 3 3 := ⟨fun _ _ => by kernel_rfl⟩
instance : Ty Tryz.prog 113 false 1 8 .nilFunc := ⟨⟨by kernel_rfl, by kernel_rfl⟩⟩
instance : Ty Tryz.prog 114 false 1 8 .nilFunc := ⟨⟨by kernel_rfl, by kernel_rfl⟩⟩
instance : Ty Tryz.prog 115 false 1 24 (.slice none 0 0) := ⟨⟨by kernel_rfl, by kernel_rfl⟩⟩
instance : SlT Tryz.prog 115 4 := ⟨by kernel_rfl⟩
instance : Ty Tryz.prog 116 false 1 8 .nilFunc := ⟨⟨by kernel_rfl, by kernel_rfl⟩⟩
instance : Ty Tryz.prog 117 false 1 8 .nilFunc := ⟨⟨by kernel_rfl, by kernel_rfl⟩⟩
instance : Ty Tryz.prog 118 false 1 8 .nilFunc := ⟨⟨by kernel_rfl, by kernel_rfl⟩⟩
instance : Ty Tryz.prog 119 false 1 8 .nilFunc := ⟨⟨by kernel_rfl, by kernel_rfl⟩⟩
instance : Ty Tryz.prog 120 false 1 8 .nilFunc := ⟨⟨by kernel_rfl, by kernel_rfl⟩⟩
instance : Ty Tryz.prog 121 false 1 8 .nilFunc := ⟨⟨by kernel_rfl, by kernel_rfl⟩⟩
instance : Ty Tryz.prog 122 false 1 8 .nilFunc := ⟨⟨by kernel_rfl, by kernel_rfl⟩⟩
instance : Ty Tryz.prog 123 false 1 8 .nilFunc := ⟨⟨by kernel_rfl, by kernel_rfl⟩⟩
instance : Ty Tryz.prog 124 false 1 8 .nilFunc := ⟨⟨by kernel_rfl, by kernel_rfl⟩⟩
instance : Ty Tryz.prog 125 false 1 8 .nilFunc := ⟨⟨by kernel_rfl, by kernel_rfl⟩⟩
instance : Ty Tryz.prog 126 false 1 8 .nilFunc := ⟨⟨by kernel_rfl, by kernel_rfl⟩⟩
instance : Ty Tryz.prog 127 false 1 8 .nilFunc := ⟨⟨by kernel_rfl, by kernel_rfl⟩⟩
instance : Ty Tryz.prog 128 false 1 8 .nilFunc := ⟨⟨by kernel_rfl, by kernel_rfl⟩⟩
instance : Ty Tryz.prog 129 false 1 8 .nilFunc := ⟨⟨by kernel_rfl, by kernel_rfl⟩⟩
instance : Ty Tryz.prog 130 false 1 8 .nilFunc := ⟨⟨by kernel_rfl, by kernel_rfl⟩⟩
instance : Ty Tryz.prog 131 false 1 8 .nilFunc := ⟨⟨by kernel_rfl, by kernel_rfl⟩⟩
instance : Ty Tryz.prog 132 false 1 8 .nilFunc := ⟨⟨by kernel_rfl, by kernel_rfl⟩⟩
instance : Ty Tryz.prog 133 false 1 8 (.map none) := ⟨⟨by kernel_rfl, by kernel_rfl⟩⟩
instance : MapT Tryz.prog 133 3 3 := ⟨by kernel_rfl⟩
instance : Ty Tryz.prog 134 true 4 64 (.agg #[(.slice none 0 0), (.slice none 0 0), (.map none), (.map none)]) := ⟨⟨by kernel_rfl, by kernel_rfl⟩⟩
instance : StT Tryz.prog 134 #[(0, 1), (1, 1), (2, 1), (3, 1)] := ⟨⟨_, Tryz.underlying134, fun _ => by kernel_rfl⟩⟩
instance : FldT Tryz.prog 134 0 0 := ⟨fun _ _ => by kernel_rfl⟩
instance : FldT Tryz.prog 134 1 1 := ⟨fun _ _ => by kernel_rfl⟩
instance : FldT Tryz.prog 134 2 2 := ⟨fun _ _ => by kernel_rfl⟩
instance : FldT Tryz.prog 134 3 3 := ⟨fun _ _ => by kernel_rfl⟩
instance : Ty Tryz.prog 135 true 4 64 (.agg #[(.slice none 0 0), (.slice none 0 0), (.map none), (.map none)]) := ⟨⟨by kernel_rfl, by kernel_rfl⟩⟩
instance : StT Tryz.prog 135 #[(0, 1), (1, 1), (2, 1), (3, 1)] := ⟨⟨_, Tryz.underlying135, fun _ => by kernel_rfl⟩⟩
instance : FldT Tryz.prog 135 0 0 := ⟨fun _ _ => by kernel_rfl⟩
instance : FldT Tryz.prog 135 1 1 := ⟨fun _ _ => by kernel_rfl⟩
instance : FldT Tryz.prog 135 2 2 := ⟨fun _ _ => by kernel_rfl⟩
instance : FldT Tryz.prog 135 3 3 := ⟨fun _ _ => by kernel_rfl⟩
instance : Ty Tryz.prog 137 false 1 8 .nilFunc := ⟨⟨by kernel_rfl, by kernel_rfl⟩⟩
instance : Ty Tryz.prog 138 false 1 24 (.slice none 0 0) := ⟨⟨by kernel_rfl, by kernel_rfl⟩⟩
instance : SlT Tryz.prog 138 206 := ⟨by kernel_rfl⟩
instance : Ty Tryz.prog 139 false 1 24 (.slice none 0 0) := ⟨⟨by kernel_rfl, by kernel_rfl⟩⟩
instance : SlT Tryz.prog 139 206 := ⟨by kernel_rfl⟩
instance : Ty Tryz.prog 140 false 1 8 .nilFunc := ⟨⟨by kernel_rfl, by kernel_rfl⟩⟩
instance : Ty Tryz.prog 141 false 1 8 .nilFunc := ⟨⟨by kernel_rfl, by kernel_rfl⟩⟩
instance : Ty Tryz.prog 142 true 2 16 (.agg #[(.int .i64 0), (.int .i64 0)]) := ⟨⟨by kernel_rfl, by kernel_rfl⟩⟩
instance : EqT2 Tryz.prog 142 := EqT2.mk' (by kernel_rfl) Tryz.underlying142 (by kernel_rfl) rfl rfl rfl (by kernel_rfl) (by kernel_rfl) (fun _ _ _ => by kernel_rfl) (fun _ _ _ => by kernel_rfl)
instance : StT Tryz.prog 142 #[(0, 1), (1, 1)] := ⟨⟨_, Tryz.underlying142, fun _ => by kernel_rfl⟩⟩
instance : FldT Tryz.prog 142 0 0 := ⟨fun _ _ => by kernel_rfl⟩
instance : FldT Tryz.prog 142 1 1 := ⟨fun _ _ => by kernel_rfl⟩
instance : Ty Tryz.prog 143 true 2 16 (.agg #[(.int .i64 0), (.int .i64 0)]) := ⟨⟨by kernel_rfl, by kernel_rfl⟩⟩
instance : EqT2 Tryz.prog 143 := EqT2.mk' (by kernel_rfl) Tryz.underlying143 (by kernel_rfl) rfl rfl rfl (by kernel_rfl) (by kernel_rfl) (fun _ _ _ => by kernel_rfl) (fun _ _ _ => by kernel_rfl)
instance : StT Tryz.prog 143 #[(0, 1), (1, 1)] := ⟨⟨_, Tryz.underlying143, fun _ => by kernel_rfl⟩⟩
instance : FldT Tryz.prog 143 0 0 := ⟨fun _ _ => by kernel_rfl⟩
instance : FldT Tryz.prog 143 1 1 := ⟨fun _ _ => by kernel_rfl⟩
instance : Ty Tryz.prog 144 false 1 8 .nilFunc := ⟨⟨by kernel_rfl, by kernel_rfl⟩⟩
instance : Ty Tryz.prog 145 false 1 8 .nilFunc := ⟨⟨by kernel_rfl, by kernel_rfl⟩⟩
instance : Ty Tryz.prog 146 false 1 8 .nilFunc := ⟨⟨by kernel_rfl, by kernel_rfl⟩⟩
instance : Ty Tryz.prog 147 false 1 8 .nilFunc := ⟨⟨by kernel_rfl, by kernel_rfl⟩⟩
instance : Ty Tryz.prog 148 true 2 16 (.agg #[(.int .i64 0), (.int .i64 0)]) := ⟨⟨by kernel_rfl, by kernel_rfl⟩⟩
instance : EqT2 Tryz.prog 148 := EqT2.mk' (by kernel_rfl) Tryz.underlying148 (by kernel_rfl) rfl rfl rfl (by kernel_rfl) (by kernel_rfl) (fun _ _ _ => by kernel_rfl) (fun _ _ _ => by kernel_rfl)
instance : StT Tryz.prog 148 #[(0, 1), (1, 1)] := ⟨⟨_, Tryz.underlying148, fun _ => by kernel_rfl⟩⟩
instance : FldT Tryz.prog 148 0 0 := ⟨fun _ _ => by kernel_rfl⟩
instance : FldT Tryz.prog 148 1 1 := ⟨fun _ _ => by kernel_rfl⟩
instance : Ty Tryz.prog 149 true 2 16 (.agg #[(.int .i64 0), (.int .i64 0)]) := ⟨⟨by kernel_rfl, by kernel_rfl⟩⟩
instance : EqT2 Tryz.prog 149 := EqT2.mk' (by kernel_rfl) Tryz.underlying149 (by kernel_rfl) rfl rfl rfl (by kernel_rfl) (by kernel_rfl) (fun _ _ _ => by kernel_rfl) (fun _ _ _ => by kernel_rfl)
instance : StT Tryz.prog 149 #[(0, 1), (1, 1)] := ⟨⟨_, Tryz.underlying149, fun _ => by kernel_rfl⟩⟩
instance : FldT Tryz.prog 149 0 0 := ⟨fun _ _ => by kernel_rfl⟩
instance : FldT Tryz.prog 149 1 1 := ⟨fun _ _ => by kernel_rfl⟩
instance : Ty Tryz.prog 150 false 1 8 .nilFunc := ⟨⟨by kernel_rfl, by kernel_rfl⟩⟩
instance : Ty Tryz.prog 151 false 1 8 (.pointer none) := ⟨⟨by kernel_rfl, by kernel_rfl⟩⟩
instance : Ty Tryz.prog 152 false 1 8 (.int .u64 0) := ⟨⟨by kernel_rfl, by kernel_rfl⟩⟩
instance : IntT Tryz.prog 152 .u64 := ⟨by kernel_rfl⟩
instance : Ty Tryz.prog 153 true 3 24 (.agg #[(.pointer none), (.pointer none), (.int .u64 0)]) := ⟨⟨by kernel_rfl, by kernel_rfl⟩⟩
instance : StT Tryz.prog 153 #[(0, 1), (1, 1), (2, 1)] := ⟨⟨_, Tryz.underlying153, fun _ => by kernel_rfl⟩⟩
instance : FldT Tryz.prog 153 0 0 := ⟨fun _ _ => by kernel_rfl⟩
instance : FldT Tryz.prog 153 1 1 := ⟨fun _ _ => by kernel_rfl⟩
instance : FldT Tryz.prog 153 2 2 := ⟨fun _ _ => by kernel_rfl⟩
instance : Ty Tryz.prog 154 true 3 24 (.agg #[(.pointer none), (.pointer none), (.int .u64 0)]) := ⟨⟨by kernel_rfl, by kernel_rfl⟩⟩
instance : StT Tryz.prog 154 #[(0, 1), (1, 1), (2, 1)] := ⟨⟨_, Tryz.underlying154, fun _ => by kernel_rfl⟩⟩
instance : FldT Tryz.prog 154 0 0 := ⟨fun _ _ => by kernel_rfl⟩
instance : FldT Tryz.prog 154 1 1 := ⟨fun _ _ => by kernel_rfl⟩
instance : FldT Tryz.prog 154 2 2 := ⟨fun _ _ => by kernel_rfl⟩
instance : Ty Tryz.prog 155 false 1 8 .nilFunc := ⟨⟨by kernel_rfl, by kernel_rfl⟩⟩
instance : Ty Tryz.prog 156 false 1 16 .nilIface := ⟨⟨by kernel_rfl, by kernel_rfl⟩⟩
instance : IfT Tryz.prog 156 := ⟨⟨_, Tryz.underlying156⟩⟩
instance : Ty Tryz.prog 157 false 1 16 .nilIface := ⟨⟨by kernel_rfl, by kernel_rfl⟩⟩
instance : IfT Tryz.prog 157 := ⟨⟨_, Tryz.underlying157⟩⟩
instance : Ty Tryz.prog 158 false 1 8 .nilFunc := ⟨⟨by kernel_rfl, by kernel_rfl⟩⟩
instance : Ty Tryz.prog 159 false 1 1 (.int .u8 0) := ⟨⟨by kernel_rfl, by kernel_rfl⟩⟩
instance : IntT Tryz.prog 159 .u8 := ⟨by kernel_rfl⟩
instance : Ty Tryz.prog 160 false 1 8 .nilFunc := ⟨⟨by kernel_rfl, by kernel_rfl⟩⟩
instance : Ty Tryz.prog 161 false 1 8 .nilFunc := ⟨⟨by kernel_rfl, by kernel_rfl⟩⟩
instance : Ty Tryz.prog 162 false 1 8 .nilFunc := ⟨⟨by kernel_rfl, by kernel_rfl⟩⟩
instance : Ty Tryz.prog 163 false 1 8 .nilFunc := ⟨⟨by kernel_rfl, by kernel_rfl⟩⟩
instance : Ty Tryz.prog 164 true 4 80 (.agg #[(.slice none 0 0), (.slice none 0 0), (.slice none 0 0), (.int .i64 0)]) := ⟨⟨by kernel_rfl, by kernel_rfl⟩⟩
instance : StT Tryz.prog 164 #[(0, 1), (1, 1), (2, 1), (3, 1)] := ⟨⟨_, Tryz.underlying164, fun _ => by kernel_rfl⟩⟩
instance : FldT Tryz.prog 164 0 0 := ⟨fun _ _ => by kernel_rfl⟩
instance : FldT Tryz.prog 164 1 1 := ⟨fun _ _ => by kernel_rfl⟩
instance : FldT Tryz.prog 164 2 2 := ⟨fun _ _ => by kernel_rfl⟩
instance : FldT Tryz.prog 164 3 3 := ⟨fun _ _ => by kernel_rfl⟩
instance : Ty Tryz.prog 165 true 4 80 (.agg #[(.slice none 0 0), (.slice none 0 0), (.slice none 0 0), (.int .i64 0)]) := ⟨⟨by kernel_rfl, by kernel_rfl⟩⟩
instance : StT Tryz.prog 165 #[(0, 1), (1, 1), (2, 1), (3, 1)] := ⟨⟨_, Tryz.underlying165, fun _ => by kernel_rfl⟩⟩
instance : FldT Tryz.prog 165 0 0 := ⟨fun _ _ => by kernel_rfl⟩
instance : FldT Tryz.prog 165 1 1 := ⟨fun _ _ => by kernel_rfl⟩
instance : FldT Tryz.prog 165 2 2 := ⟨fun _ _ => by kernel_rfl⟩
instance : FldT Tryz.prog 165 3 3 := ⟨fun _ _ => by kernel_rfl⟩
instance : Ty Tryz.prog 166 true 1 8 (.agg #[(.pointer none)]) := ⟨⟨by kernel_rfl, by kernel_rfl⟩⟩
instance : StT Tryz.prog 166 #[(0, 1)] := ⟨⟨_, Tryz.underlying166, fun _ => by kernel_rfl⟩⟩
instance : FldT Tryz.prog 166 0 0 := ⟨fun _ _ => by kernel_rfl⟩
instance : Ty Tryz.prog 167 true 1 8 (.agg #[(.pointer none)]) := ⟨⟨by kernel_rfl, by kernel_rfl⟩⟩
instance : StT Tryz.prog 167 #[(0, 1)] := ⟨⟨_, Tryz.underlying167, fun _ => by kernel_rfl⟩⟩
instance : FldT Tryz.prog 167 0 0 := ⟨fun _ _ => by kernel_rfl⟩
instance : Ty Tryz.prog 168 false 1 8 (.map none) := ⟨⟨by kernel_rfl, by kernel_rfl⟩⟩
instance : MapT Tryz.prog 168 3 360 := ⟨by kernel_rfl⟩
instance : Ty Tryz.prog 169 true 2 16 (.agg #[(.pointer none), (.map none)]) := ⟨⟨by kernel_rfl, by kernel_rfl⟩⟩
instance : StT Tryz.prog 169 #[(0, 1), (1, 1)] := ⟨⟨_, Tryz.underlying169, fun _ => by kernel_rfl⟩⟩
instance : FldT Tryz.prog 169 0 0 := ⟨fun _ _ => by kernel_rfl⟩
instance : FldT Tryz.prog 169 1 1 := ⟨fun _ _ => by kernel_rfl⟩
instance : Ty Tryz.prog 170 true 2 16 (.agg #[(.pointer none), (.map none)]) := ⟨⟨by kernel_rfl, by kernel_rfl⟩⟩
instance : StT Tryz.prog 170 #[(0, 1), (1, 1)] := ⟨⟨_, Tryz.underlying170, fun _ => by kernel_rfl⟩⟩
instance : FldT Tryz.prog 170 0 0 := ⟨fun _ _ => by kernel_rfl⟩
instance : FldT Tryz.prog 170 1 1 := ⟨fun _ _ => by kernel_rfl⟩
instance : Ty Tryz.prog 171 false 1 8 .nilFunc := ⟨⟨by kernel_rfl, by kernel_rfl⟩⟩
instance : Ty Tryz.prog 172 false 1 8 .nilFunc := ⟨⟨by kernel_rfl, by kernel_rfl⟩⟩
instance : Ty Tryz.prog 173 false 1 8 .nilFunc := ⟨⟨by kernel_rfl, by kernel_rfl⟩⟩
instance : Ty Tryz.prog 174 false 1 8 .nilFunc := ⟨⟨by kernel_rfl, by kernel_rfl⟩⟩
instance : Ty Tryz.prog 175 false 1 8 (.int .i64 0) := ⟨⟨by kernel_rfl, by kernel_rfl⟩⟩
instance : IntT Tryz.prog 175 .i64 := ⟨by kernel_rfl⟩
instance : Ty Tryz.prog 176 false 1 8 .nilFunc := ⟨⟨by kernel_rfl, by kernel_rfl⟩⟩
instance : Ty Tryz.prog 177 false 1 8 .nilFunc := ⟨⟨by kernel_rfl, by kernel_rfl⟩⟩
instance : Ty Tryz.prog 178 false 1 8 (.pointer none) := ⟨⟨by kernel_rfl, by kernel_rfl⟩⟩
instance : NIfT Tryz.prog 178 := ⟨⟨.pointer 182, by kernel_rfl, fun _ h => by cases h⟩⟩
instance : Ty Tryz.prog 179 false 1 8 .nilFunc := ⟨⟨by kernel_rfl, by kernel_rfl⟩⟩
instance : Ty Tryz.prog 180 false 1 24 (.slice none 0 0) := ⟨⟨by kernel_rfl, by kernel_rfl⟩⟩
instance : SlT Tryz.prog 180 252 := ⟨by kernel_rfl⟩
instance : Ty Tryz.prog 181 true 7 120 (.agg #[(.slice none 0 0), (.slice none 0 0), (.slice none 0 0), (.slice none 0 0), (.int .i64 0), (.int .i64 0), (.int .i64 0)]) := ⟨⟨by kernel_rfl, by kernel_rfl⟩⟩
instance : StT Tryz.prog 181 #[(0, 1), (1, 1), (2, 1), (3, 1), (4, 1), (5, 1), (6, 1)] := ⟨⟨_, Tryz.underlying181, fun _ => by kernel_rfl⟩⟩
instance : FldT Tryz.prog 181 0 0 := ⟨fun _ _ => by kernel_rfl⟩
instance : FldT Tryz.prog 181 1 1 := ⟨fun _ _ => by kernel_rfl⟩
instance : FldT Tryz.prog 181 2 2 := ⟨fun _ _ => by kernel_rfl⟩
instance : FldT Tryz.prog 181 3 3 := ⟨fun _ _ => by kernel_rfl⟩
instance : FldT Tryz.prog 181 4 4 := ⟨fun _ _ => by kernel_rfl⟩
instance : FldT Tryz.prog 181 5 5 := ⟨fun _ _ => by kernel_rfl⟩
instance : FldT Tryz.prog 181 6 6 := ⟨fun _ _ => by kernel_rfl⟩
instance : Ty Tryz.prog 182 true 7 120 (.agg #[(.slice none 0 0), (.slice none 0 0), (.slice none 0 0), (.slice none 0 0), (.int .i64 0), (.int .i64 0), (.int .i64 0)]) := ⟨⟨by kernel_rfl, by kernel_rfl⟩⟩
instance : StT Tryz.prog 182 #[(0, 1), (1, 1), (2, 1), (3, 1), (4, 1), (5, 1), (6, 1)] := ⟨⟨_, Tryz.underlying182, fun _ => by kernel_rfl⟩⟩
instance : FldT Tryz.prog 182 0 0 := ⟨fun _ _ => by kernel_rfl⟩
instance : FldT Tryz.prog 182 1 1 := ⟨fun _ _ => by kernel_rfl⟩
instance : FldT Tryz.prog 182 2 2 := ⟨fun _ _ => by kernel_rfl⟩
instance : FldT Tryz.prog 182 3 3 := ⟨fun _ _ => by kernel_rfl⟩
instance : FldT Tryz.prog 182 4 4 := ⟨fun _ _ => by kernel_rfl⟩
instance : FldT Tryz.prog 182 5 5 := ⟨fun _ _ => by kernel_rfl⟩
instance : FldT Tryz.prog 182 6 6 := ⟨fun _ _ => by kernel_rfl⟩
instance : Ty Tryz.prog 183 false 1 24 (.slice none 0 0) := ⟨⟨by kernel_rfl, by kernel_rfl⟩⟩
instance : SlT Tryz.prog 183 31 := ⟨by kernel_rfl⟩
instance : Ty Tryz.prog 184 false 1 8 .nilFunc := ⟨⟨by kernel_rfl, by kernel_rfl⟩⟩
instance : Ty Tryz.prog 185 false 1 8 .nilFunc := ⟨⟨by kernel_rfl, by kernel_rfl⟩⟩
instance : Ty Tryz.prog 186 false 1 8 .nilFunc := ⟨⟨by kernel_rfl, by kernel_rfl⟩⟩
instance : Ty Tryz.prog 187 false 1 8 .nilFunc := ⟨⟨by kernel_rfl, by kernel_rfl⟩⟩
instance : Ty Tryz.prog 188 false 1 8 .nilFunc := ⟨⟨by kernel_rfl, by kernel_rfl⟩⟩
instance : Ty Tryz.prog 189 false 1 8 (.pointer none) := ⟨⟨by kernel_rfl, by kernel_rfl⟩⟩
instance : NIfT Tryz.prog 189 := ⟨⟨.pointer 259, by kernel_rfl, fun _ h => by cases h⟩⟩
instance : Ty Tryz.prog 190 false 1 8 .nilFunc := ⟨⟨by kernel_rfl, by kernel_rfl⟩⟩
instance : Ty Tryz.prog 191 false 1 8 .nilFunc := ⟨⟨by kernel_rfl, by kernel_rfl⟩⟩
instance : Ty Tryz.prog 192 false 1 8 .nilFunc := ⟨⟨by kernel_rfl, by kernel_rfl⟩⟩
instance : Ty Tryz.prog 193 false 1 8 .nilFunc := ⟨⟨by kernel_rfl, by kernel_rfl⟩⟩
instance : Ty Tryz.prog 194 false 1 8 .nilFunc := ⟨⟨by kernel_rfl, by kernel_rfl⟩⟩
instance : Ty Tryz.prog 195 false 1 8 .nilFunc := ⟨⟨by kernel_rfl, by kernel_rfl⟩⟩
instance : Ty Tryz.prog 196 false 1 8 .nilFunc := ⟨⟨by kernel_rfl, by kernel_rfl⟩⟩
instance : Ty Tryz.prog 197 false 1 8 .nilFunc := ⟨⟨by kernel_rfl, by kernel_rfl⟩⟩
instance : Ty Tryz.prog 198 false 1 8 .nilFunc := ⟨⟨by kernel_rfl, by kernel_rfl⟩⟩
instance : Ty Tryz.prog 199 false 1 8 .nilFunc := ⟨⟨by kernel_rfl, by kernel_rfl⟩⟩
instance : Ty Tryz.prog 200 false 1 8 .nilFunc := ⟨⟨by kernel_rfl, by kernel_rfl⟩⟩
instance : Ty Tryz.prog 201 false 1 24 (.slice none 0 0) := ⟨⟨by kernel_rfl, by kernel_rfl⟩⟩
instance : SlT Tryz.prog 201 268 := ⟨by kernel_rfl⟩
instance : Ty Tryz.prog 202 false 1 8 .nilFunc := ⟨⟨by kernel_rfl, by kernel_rfl⟩⟩
instance : Ty Tryz.prog 203 false 1 4 (.int .u32 0) := ⟨⟨by kernel_rfl, by kernel_rfl⟩⟩
instance : IntT Tryz.prog 203 .u32 := ⟨by kernel_rfl⟩
instance : Ty Tryz.prog 204 false 1 8 (.pointer none) := ⟨⟨by kernel_rfl, by kernel_rfl⟩⟩
instance : NIfT Tryz.prog 204 := ⟨⟨.pointer 139, by kernel_rfl, fun _ h => by cases h⟩⟩
instance : Ty Tryz.prog 205 true 3 24 (.agg #[(.int .i64 0), (.int .i64 0), (.int .i64 0)]) := ⟨⟨by kernel_rfl, by kernel_rfl⟩⟩
instance : StT Tryz.prog 205 #[(0, 2), (2, 1)] := ⟨⟨_, Tryz.underlying205, fun _ => by kernel_rfl⟩⟩
instance : FldT Tryz.prog 205 0 0 := ⟨fun _ _ => by kernel_rfl⟩
instance : FldT Tryz.prog 205 1 2 := ⟨fun _ _ => by kernel_rfl⟩
instance : Ty Tryz.prog 206 true 3 24 (.agg #[(.int .i64 0), (.int .i64 0), (.int .i64 0)]) := ⟨⟨by kernel_rfl, by kernel_rfl⟩⟩
instance : StT Tryz.prog 206 #[(0, 2), (2, 1)] := ⟨⟨_, Tryz.underlying206, fun _ => by kernel_rfl⟩⟩
instance : FldT Tryz.prog 206 0 0 := ⟨fun _ _ => by kernel_rfl⟩
instance : FldT Tryz.prog 206 1 2 := ⟨fun _ _ => by kernel_rfl⟩
instance : Ty Tryz.prog 207 false 1 8 .nilFunc := ⟨⟨by kernel_rfl, by kernel_rfl⟩⟩
instance : Ty Tryz.prog 208 false 1 8 .nilFunc := ⟨⟨by kernel_rfl, by kernel_rfl⟩⟩
instance : Ty Tryz.prog 209 false 1 8 .nilFunc := ⟨⟨by kernel_rfl, by kernel_rfl⟩⟩
instance : Ty Tryz.prog 210 false 1 8 .nilFunc := ⟨⟨by kernel_rfl, by kernel_rfl⟩⟩
instance : Ty Tryz.prog 211 true 256 256 (.agg #[(.int .u8 0), (.int .u8 0), (.int .u8 0), (.int .u8 0), (.int .u8 0), (.int .u8 0), (.int .u8 0), (.int .u8 0), (.int .u8 0), (.int .u8 0), (.int .u8 0), (.int .u8 0), (.int .u8 0), (.int .u8 0), (.int .u8 0), (.int .u8 0), (.int .u8 0), (.int .u8 0), (.int .u8 0), (.int .u8 0), (.int .u8 0), (.int .u8 0), (.int .u8 0), (.int .u8 0), (.int .u8 0), (.int .u8 0), (.int .u8 0), (.int .u8 0), (.int .u8 0), (.int .u8 0), (.int .u8 0), (.int .u8 0), (.int .u8 0), (.int .u8 0), (.int .u8 0), (.int .u8 0), (.int .u8 0), (.int .u8 0), (.int .u8 0), (.int .u8 0), (.int .u8 0), (.int .u8 0), (.int .u8 0), (.int .u8 0), (.int .u8 0), (.int .u8 0), (.int .u8 0), (.int .u8 0), (.int .u8 0), (.int .u8 0), (.int .u8 0), (.int .u8 0), (.int .u8 0), (.int .u8 0), (.int .u8 0), (.int .u8 0), (.int .u8 0), (.int .u8 0), (.int .u8 0), (.int .u8 0), (.int .u8 0), (.int .u8 0), (.int .u8 0), (.int .u8 0), (.int .u8 0), (.int .u8 0), (.int .u8 0), (.int .u8 0), (.int .u8 0), (.int .u8 0), (.int .u8 0), (.int .u8 0), (.int .u8 0), (.int .u8 0), (.int .u8 0), (.int .u8 0), (.int .u8 0), (.int .u8 0), (.int .u8 0), (.int .u8 0), (.int .u8 0), (.int .u8 0), (.int .u8 0), (.int .u8 0), (.int .u8 0), (.int .u8 0), (.int .u8 0), (.int .u8 0), (.int .u8 0), (.int .u8 0), (.int .u8 0), (.int .u8 0), (.int .u8 0), (.int .u8 0), (.int .u8 0), (.int .u8 0), (.int .u8 0), (.int .u8 0), (.int .u8 0), (.int .u8 0), (.int .u8 0), (.int .u8 0), (.int .u8 0), (.int .u8 0), (.int .u8 0), (.int .u8 0), (.int .u8 0), (.int .u8 0), (.int .u8 0), (.int .u8 0), (.int .u8 0), (.int .u8 0), (.int .u8 0), (.int .u8 0), (.int .u8 0), (.int .u8 0), (.int .u8 0), (.int .u8 0), (.int .u8 0), (.int .u8 0), (.int .u8 0), (.int .u8 0), (.int .u8 0), (.int .u8 0), (.int .u8 0), (.int .u8 0), (.int .u8 0), (.int .u8 0), (.int .u8 0), (.int .u8 0), (.int .u8 0), (.int .u8 0), (.int .u8 0), (.int .u8 0), (.int .u8 0), (.int .u8 0), (.int .u8 0), (.int .u8 0), (.int .u8 0), (.int .u8 0), (.int .u8 0), (.int .u8 0), (.int .u8 0), (.int .u8 0), (.int .u8 0), (.int .u8 0), (.int .u8 0), (.int .u8 0), (.int .u8 0), (.int .u8 0), (.int .u8 0), (.int .u8 0), (.int .u8 0), (.int .u8 0), (.int .u8 0), (.int .u8 0), (.int .u8 0), (.int .u8 0), (.int .u8 0), (.int .u8 0), (.int .u8 0), (.int .u8 0), (.int .u8 0), (.int .u8 0), (.int .u8 0), (.int .u8 0), (.int .u8 0), (.int .u8 0), (.int .u8 0), (.int .u8 0), (.int .u8 0), (.int .u8 0), (.int .u8 0), (.int .u8 0), (.int .u8 0), (.int .u8 0), (.int .u8 0), (.int .u8 0), (.int .u8 0), (.int .u8 0), (.int .u8 0), (.int .u8 0), (.int .u8 0), (.int .u8 0), (.int .u8 0), (.int .u8 0), (.int .u8 0), (.int .u8 0), (.int .u8 0), (.int .u8 0), (.int .u8 0), (.int .u8 0), (.int .u8 0), (.int .u8 0), (.int .u8 0), (.int .u8 0), (.int .u8 0), (.int .u8 0), (.int .u8 0), (.int .u8 0), (.int .u8 0), (.int .u8 0), (.int .u8 0), (.int .u8 0), (.int .u8 0), (.int .u8 0), (.int .u8 0), (.int .u8 0), (.int .u8 0), (.int .u8 0), (.int .u8 0), (.int .u8 0), (.int .u8 0), (.int .u8 0), (.int .u8 0), (.int .u8 0), (.int .u8 0), (.int .u8 0), (.int .u8 0), (.int .u8 0), (.int .u8 0), (.int .u8 0), (.int .u8 0), (.int .u8 0), (.int .u8 0), (.int .u8 0), (.int .u8 0), (.int .u8 0), (.int .u8 0), (.int .u8 0), (.int .u8 0), (.int .u8 0), (.int .u8 0), (.int .u8 0), (.int .u8 0), (.int .u8 0), (.int .u8 0), (.int .u8 0), (.int .u8 0), (.int .u8 0), (.int .u8 0), (.int .u8 0), (.int .u8 0), (.int .u8 0), (.int .u8 0), (.int .u8 0), (.int .u8 0), (.int .u8 0), (.int .u8 0), (.int .u8 0), (.int .u8 0), (.int .u8 0), (.int .u8 0), (.int .u8 0), (.int .u8 0), (.int .u8 0)]) := ⟨⟨by kernel_rfl, by kernel_rfl⟩⟩
instance : Ty Tryz.prog 212 false 1 8 (.int .u64 0) := ⟨⟨by kernel_rfl, by kernel_rfl⟩⟩
instance : IntT Tryz.prog 212 .u64 := ⟨by kernel_rfl⟩
instance : Ty Tryz.prog 213 true 2 2 (.agg #[(.int .u8 0), (.int .u8 0)]) := ⟨⟨by kernel_rfl, by kernel_rfl⟩⟩
instance : StT Tryz.prog 213 #[(0, 1), (1, 1)] := ⟨⟨_, Tryz.underlying213, fun _ => by kernel_rfl⟩⟩
instance : FldT Tryz.prog 213 0 0 := ⟨fun _ _ => by kernel_rfl⟩
instance : FldT Tryz.prog 213 1 1 := ⟨fun _ _ => by kernel_rfl⟩
instance : Ty Tryz.prog 214 true 2 2 (.agg #[(.int .u8 0), (.int .u8 0)]) := ⟨⟨by kernel_rfl, by kernel_rfl⟩⟩
instance : StT Tryz.prog 214 #[(0, 1), (1, 1)] := ⟨⟨_, Tryz.underlying214, fun _ => by kernel_rfl⟩⟩
instance : FldT Tryz.prog 214 0 0 := ⟨fun _ _ => by kernel_rfl⟩
instance : FldT Tryz.prog 214 1 1 := ⟨fun _ _ => by kernel_rfl⟩
instance : Ty Tryz.prog 215 true 32 32 (.agg #[(.int .u8 0), (.int .u8 0), (.int .u8 0), (.int .u8 0), (.int .u8 0), (.int .u8 0), (.int .u8 0), (.int .u8 0), (.int .u8 0), (.int .u8 0), (.int .u8 0), (.int .u8 0), (.int .u8 0), (.int .u8 0), (.int .u8 0), (.int .u8 0), (.int .u8 0), (.int .u8 0), (.int .u8 0), (.int .u8 0), (.int .u8 0), (.int .u8 0), (.int .u8 0), (.int .u8 0), (.int .u8 0), (.int .u8 0), (.int .u8 0), (.int .u8 0), (.int .u8 0), (.int .u8 0), (.int .u8 0), (.int .u8 0)]) := ⟨⟨by kernel_rfl, by kernel_rfl⟩⟩
instance : Ty Tryz.prog 216 true 1 8 (.agg #[(.pointer none)]) := ⟨⟨by kernel_rfl, by kernel_rfl⟩⟩
instance : StT Tryz.prog 216 #[(0, 1)] := ⟨⟨_, Tryz.underlying216, fun _ => by kernel_rfl⟩⟩
instance : FldT Tryz.prog 216 0 0 := ⟨fun _ _ => by kernel_rfl⟩
instance : Ty Tryz.prog 217 true 1 8 (.agg #[(.pointer none)]) := ⟨⟨by kernel_rfl, by kernel_rfl⟩⟩
instance : StT Tryz.prog 217 #[(0, 1)] := ⟨⟨_, Tryz.underlying217, fun _ => by kernel_rfl⟩⟩
instance : FldT Tryz.prog 217 0 0 := ⟨fun _ _ => by kernel_rfl⟩
instance : Ty Tryz.prog 218 false 1 8 (.pointer none) := ⟨⟨by kernel_rfl, by kernel_rfl⟩⟩
instance : NIfT Tryz.prog 218 := ⟨⟨.pointer 364, by kernel_rfl, fun _ h => by cases h⟩⟩
instance : Ty Tryz.prog 219 false 1 8 .nilFunc := ⟨⟨by kernel_rfl, by kernel_rfl⟩⟩
instance : Ty Tryz.prog 220 false 1 8 .nilFunc := ⟨⟨by kernel_rfl, by kernel_rfl⟩⟩
instance : Ty Tryz.prog 221 false 1 8 .nilFunc := ⟨⟨by kernel_rfl, by kernel_rfl⟩⟩
instance : Ty Tryz.prog 222 false 1 16 .nilIface := ⟨⟨by kernel_rfl, by kernel_rfl⟩⟩
instance : IfT Tryz.prog 222 := ⟨⟨_, Tryz.underlying222⟩⟩
instance : Ty Tryz.prog 224 false 1 8 .nilFunc := ⟨⟨by kernel_rfl, by kernel_rfl⟩⟩
instance : Ty Tryz.prog 225 false 1 16 .nilIface := ⟨⟨by kernel_rfl, by kernel_rfl⟩⟩
instance : IfT Tryz.prog 225 := ⟨⟨_, Tryz.underlying225⟩⟩
instance : Ty Tryz.prog 226 false 1 8 .nilFunc := ⟨⟨by kernel_rfl, by kernel_rfl⟩⟩
instance : Ty Tryz.prog 227 false 1 16 .nilIface := ⟨⟨by kernel_rfl, by kernel_rfl⟩⟩
instance : IfT Tryz.prog 227 := ⟨⟨_, Tryz.underlying227⟩⟩
instance : Ty Tryz.prog 228 false 1 24 (.slice none 0 0) := ⟨⟨by kernel_rfl, by kernel_rfl⟩⟩
instance : SlT Tryz.prog 228 54 := ⟨by kernel_rfl⟩
instance : Ty Tryz.prog 229 false 1 8 .nilFunc := ⟨⟨by kernel_rfl, by kernel_rfl⟩⟩
instance : Ty Tryz.prog 230 false 1 8 .nilFunc := ⟨⟨by kernel_rfl, by kernel_rfl⟩⟩
instance : Ty Tryz.prog 231 false 1 24 (.slice none 0 0) := ⟨⟨by kernel_rfl, by kernel_rfl⟩⟩
instance : SlT Tryz.prog 231 234 := ⟨by kernel_rfl⟩
instance : Ty Tryz.prog 232 false 1 8 .nilFunc := ⟨⟨by kernel_rfl, by kernel_rfl⟩⟩
instance : Ty Tryz.prog 233 false 1 8 .nilFunc := ⟨⟨by kernel_rfl, by kernel_rfl⟩⟩
instance : Ty Tryz.prog 234 false 1 8 .nilFunc := ⟨⟨by kernel_rfl, by kernel_rfl⟩⟩
instance : Ty Tryz.prog 235 true 3 24 (.agg #[(.int .i64 0), (.int .i64 0), (.int .i64 0)]) := ⟨⟨by kernel_rfl, by kernel_rfl⟩⟩
instance : EqTI Tryz.prog 235 3 := ⟨by kernel_rfl, by kernel_rfl, by kernel_rfl, by kernel_rfl, by kernel_rfl⟩
instance : StT Tryz.prog 235 #[(0, 1), (1, 1), (2, 1)] := ⟨⟨_, Tryz.underlying235, fun _ => by kernel_rfl⟩⟩
instance : FldT Tryz.prog 235 0 0 := ⟨fun _ _ => by kernel_rfl⟩
instance : FldT Tryz.prog 235 1 1 := ⟨fun _ _ => by kernel_rfl⟩
instance : FldT Tryz.prog 235 2 2 := ⟨fun _ _ => by kernel_rfl⟩
instance : Ty Tryz.prog 236 true 3 24 (.agg #[(.int .i64 0), (.int .i64 0), (.int .i64 0)]) := ⟨⟨by kernel_rfl, by kernel_rfl⟩⟩
instance : EqTI Tryz.prog 236 3 := ⟨by kernel_rfl, by kernel_rfl, by kernel_rfl, by kernel_rfl, by kernel_rfl⟩
instance : StT Tryz.prog 236 #[(0, 1), (1, 1), (2, 1)] := ⟨⟨_, Tryz.underlying236, fun _ => by kernel_rfl⟩⟩
instance : FldT Tryz.prog 236 0 0 := ⟨fun _ _ => by kernel_rfl⟩
instance : FldT Tryz.prog 236 1 1 := ⟨fun _ _ => by kernel_rfl⟩
instance : FldT Tryz.prog 236 2 2 := ⟨fun _ _ => by kernel_rfl⟩
instance : Ty Tryz.prog 237 false 1 8 (.pointer none) := ⟨⟨by kernel_rfl, by kernel_rfl⟩⟩
instance : NIfT Tryz.prog 237 := ⟨⟨.pointer 242, by kernel_rfl, fun _ h => by cases h⟩⟩
instance : Ty Tryz.prog 238 false 1 8 .nilFunc := ⟨⟨by kernel_rfl, by kernel_rfl⟩⟩
instance : Ty Tryz.prog 239 false 1 8 .nilFunc := ⟨⟨by kernel_rfl, by kernel_rfl⟩⟩
instance : Ty Tryz.prog 240 false 1 8 .nilFunc := ⟨⟨by kernel_rfl, by kernel_rfl⟩⟩
instance : Ty Tryz.prog 241 true 5 56 (.agg #[(.int .i64 0), (.int .i64 0), (.int .i64 0), (.slice none 0 0), (.int .i64 0)]) := ⟨⟨by kernel_rfl, by kernel_rfl⟩⟩
instance : StT Tryz.prog 241 #[(0, 4), (4, 1)] := ⟨⟨_, Tryz.underlying241, fun _ => by kernel_rfl⟩⟩
instance : FldT Tryz.prog 241 0 0 := ⟨fun _ _ => by kernel_rfl⟩
instance : FldT Tryz.prog 241 1 4 := ⟨fun _ _ => by kernel_rfl⟩
instance : Ty Tryz.prog 242 true 5 56 (.agg #[(.int .i64 0), (.int .i64 0), (.int .i64 0), (.slice none 0 0), (.int .i64 0)]) := ⟨⟨by kernel_rfl, by kernel_rfl⟩⟩
instance : StT Tryz.prog 242 #[(0, 4), (4, 1)] := ⟨⟨_, Tryz.underlying242, fun _ => by kernel_rfl⟩⟩
instance : FldT Tryz.prog 242 0 0 := ⟨fun _ _ => by kernel_rfl⟩
instance : FldT Tryz.prog 242 1 4 := ⟨fun _ _ => by kernel_rfl⟩
instance : Ty Tryz.prog 243 false 1 8 .nilFunc := ⟨⟨by kernel_rfl, by kernel_rfl⟩⟩
instance : Ty Tryz.prog 244 true 1 8 (.agg #[(.int .i64 0)]) := ⟨⟨by kernel_rfl, by kernel_rfl⟩⟩
instance : StT Tryz.prog 244 #[(0, 1)] := ⟨⟨_, Tryz.underlying244, fun _ => by kernel_rfl⟩⟩
instance : FldT Tryz.prog 244 0 0 := ⟨fun _ _ => by kernel_rfl⟩
instance : Ty Tryz.prog 245 true 1 8 (.agg #[(.int .i64 0)]) := ⟨⟨by kernel_rfl, by kernel_rfl⟩⟩
instance : StT Tryz.prog 245 #[(0, 1)] := ⟨⟨_, Tryz.underlying245, fun _ => by kernel_rfl⟩⟩
instance : FldT Tryz.prog 245 0 0 := ⟨fun _ _ => by kernel_rfl⟩
instance : Ty Tryz.prog 246 true 1 8 (.agg #[(.int .i64 0)]) := ⟨⟨by kernel_rfl, by kernel_rfl⟩⟩
instance : StT Tryz.prog 246 #[(0, 1)] := ⟨⟨_, Tryz.underlying246, fun _ => by kernel_rfl⟩⟩
instance : FldT Tryz.prog 246 0 0 := ⟨fun _ _ => by kernel_rfl⟩
instance : Ty Tryz.prog 247 false 1 8 .nilFunc := ⟨⟨by kernel_rfl, by kernel_rfl⟩⟩
instance : Ty Tryz.prog 248 false 1 8 .nilFunc := ⟨⟨by kernel_rfl, by kernel_rfl⟩⟩
instance : Ty Tryz.prog 249 true 5 40 (.agg #[(.int .i64 0), (.int .i64 0), (.int .i64 0), (.int .i64 0), (.int .i64 0)]) := ⟨⟨by kernel_rfl, by kernel_rfl⟩⟩
instance : EqTI Tryz.prog 249 5 := ⟨by kernel_rfl, by kernel_rfl, by kernel_rfl, by kernel_rfl, by kernel_rfl⟩
instance : StT Tryz.prog 249 #[(0, 1), (1, 1), (2, 1), (3, 1), (4, 1)] := ⟨⟨_, Tryz.underlying249, fun _ => by kernel_rfl⟩⟩
instance : FldT Tryz.prog 249 0 0 := ⟨fun _ _ => by kernel_rfl⟩
instance : FldT Tryz.prog 249 1 1 := ⟨fun _ _ => by kernel_rfl⟩
instance : FldT Tryz.prog 249 2 2 := ⟨fun _ _ => by kernel_rfl⟩
instance : FldT Tryz.prog 249 3 3 := ⟨fun _ _ => by kernel_rfl⟩
instance : FldT Tryz.prog 249 4 4 := ⟨fun _ _ => by kernel_rfl⟩
instance : Ty Tryz.prog 250 true 5 40 (.agg #[(.int .i64 0), (.int .i64 0), (.int .i64 0), (.int .i64 0), (.int .i64 0)]) := ⟨⟨by kernel_rfl, by kernel_rfl⟩⟩
instance : EqTI Tryz.prog 250 5 := ⟨by kernel_rfl, by kernel_rfl, by kernel_rfl, by kernel_rfl, by kernel_rfl⟩
instance : StT Tryz.prog 250 #[(0, 1), (1, 1), (2, 1), (3, 1), (4, 1)] := ⟨⟨_, Tryz.underlying250, fun _ => by kernel_rfl⟩⟩
instance : FldT Tryz.prog 250 0 0 := ⟨fun _ _ => by kernel_rfl⟩
instance : FldT Tryz.prog 250 1 1 := ⟨fun _ _ => by kernel_rfl⟩
instance : FldT Tryz.prog 250 2 2 := ⟨fun _ _ => by kernel_rfl⟩
instance : FldT Tryz.prog 250 3 3 := ⟨fun _ _ => by kernel_rfl⟩
instance : FldT Tryz.prog 250 4 4 := ⟨fun _ _ => by kernel_rfl⟩
instance : Ty Tryz.prog 251 true 3 24 (.agg #[(.int .i64 0), (.int .i64 0), (.bool false)]) := ⟨⟨by kernel_rfl, by kernel_rfl⟩⟩
instance : StT Tryz.prog 251 #[(0, 1), (1, 1), (2, 1)] := ⟨⟨_, Tryz.underlying251, fun _ => by kernel_rfl⟩⟩
instance : FldT Tryz.prog 251 0 0 := ⟨fun _ _ => by kernel_rfl⟩
instance : FldT Tryz.prog 251 1 1 := ⟨fun _ _ => by kernel_rfl⟩
instance : FldT Tryz.prog 251 2 2 := ⟨fun _ _ => by kernel_rfl⟩
instance : Ty Tryz.prog 252 true 3 24 (.agg #[(.int .i64 0), (.int .i64 0), (.bool false)]) := ⟨⟨by kernel_rfl, by kernel_rfl⟩⟩
instance : StT Tryz.prog 252 #[(0, 1), (1, 1), (2, 1)] := ⟨⟨_, Tryz.underlying252, fun _ => by kernel_rfl⟩⟩
instance : FldT Tryz.prog 252 0 0 := ⟨fun _ _ => by kernel_rfl⟩
instance : FldT Tryz.prog 252 1 1 := ⟨fun _ _ => by kernel_rfl⟩
instance : FldT Tryz.prog 252 2 2 := ⟨fun _ _ => by kernel_rfl⟩
instance : Ty Tryz.prog 253 false 1 8 .nilFunc := ⟨⟨by kernel_rfl, by kernel_rfl⟩⟩
instance : Ty Tryz.prog 254 false 1 8 .nilFunc := ⟨⟨by kernel_rfl, by kernel_rfl⟩⟩
instance : Ty Tryz.prog 255 false 1 8 .nilFunc := ⟨⟨by kernel_rfl, by kernel_rfl⟩⟩
instance : Ty Tryz.prog 257 false 1 8 .nilFunc := ⟨⟨by kernel_rfl, by kernel_rfl⟩⟩
instance : Ty Tryz.prog 258 true 4 80 (.agg #[(.slice none 0 0), (.slice none 0 0), (.slice none 0 0), (.int .i64 0)]) := ⟨⟨by kernel_rfl, by kernel_rfl⟩⟩
instance : StT Tryz.prog 258 #[(0, 1), (1, 1), (2, 1), (3, 1)] := ⟨⟨_, Tryz.underlying258, fun _ => by kernel_rfl⟩⟩
instance : FldT Tryz.prog 258 0 0 := ⟨fun _ _ => by kernel_rfl⟩
instance : FldT Tryz.prog 258 1 1 := ⟨fun _ _ => by kernel_rfl⟩
instance : FldT Tryz.prog 258 2 2 := ⟨fun _ _ => by kernel_rfl⟩
instance : FldT Tryz.prog 258 3 3 := ⟨fun _ _ => by kernel_rfl⟩
instance : Ty Tryz.prog 259 true 4 80 (.agg #[(.slice none 0 0), (.slice none 0 0), (.slice none 0 0), (.int .i64 0)]) := ⟨⟨by kernel_rfl, by kernel_rfl⟩⟩
instance : StT Tryz.prog 259 #[(0, 1), (1, 1), (2, 1), (3, 1)] := ⟨⟨_, Tryz.underlying259, fun _ => by kernel_rfl⟩⟩
instance : FldT Tryz.prog 259 0 0 := ⟨fun _ _ => by kernel_rfl⟩
instance : FldT Tryz.prog 259 1 1 := ⟨fun _ _ => by kernel_rfl⟩
instance : FldT Tryz.prog 259 2 2 := ⟨fun _ _ => by kernel_rfl⟩
instance : FldT Tryz.prog 259 3 3 := ⟨fun _ _ => by kernel_rfl⟩
instance : Ty Tryz.prog 260 false 1 24 (.slice none 0 0) := ⟨⟨by kernel_rfl, by kernel_rfl⟩⟩
instance : SlT Tryz.prog 260 262 := ⟨by kernel_rfl⟩
instance : Ty Tryz.prog 261 true 2 16 (.agg #[(.int .i64 0), (.int .i64 0)]) := ⟨⟨by kernel_rfl, by kernel_rfl⟩⟩
instance : EqT2 Tryz.prog 261 := EqT2.mk' (by kernel_rfl) Tryz.underlying261 (by kernel_rfl) rfl rfl rfl (by kernel_rfl) (by kernel_rfl) (fun _ _ _ => by kernel_rfl) (fun _ _ _ => by kernel_rfl)
instance : StT Tryz.prog 261 #[(0, 1), (1, 1)] := ⟨⟨_, Tryz.underlying261, fun _ => by kernel_rfl⟩⟩
instance : FldT Tryz.prog 261 0 0 := ⟨fun _ _ => by kernel_rfl⟩
instance : FldT Tryz.prog 261 1 1 := ⟨fun _ _ => by kernel_rfl⟩
instance : Ty Tryz.prog 262 true 2 16 (.agg #[(.int .i64 0), (.int .i64 0)]) := ⟨⟨by kernel_rfl, by kernel_rfl⟩⟩
instance : EqT2 Tryz.prog 262 := EqT2.mk' (by kernel_rfl) Tryz.underlying262 (by kernel_rfl) rfl rfl rfl (by kernel_rfl) (by kernel_rfl) (fun _ _ _ => by kernel_rfl) (fun _ _ _ => by kernel_rfl)
instance : StT Tryz.prog 262 #[(0, 1), (1, 1)] := ⟨⟨_, Tryz.underlying262, fun _ => by kernel_rfl⟩⟩
instance : FldT Tryz.prog 262 0 0 := ⟨fun _ _ => by kernel_rfl⟩
instance : FldT Tryz.prog 262 1 1 := ⟨fun _ _ => by kernel_rfl⟩
instance : Ty Tryz.prog 263 false 1 8 .nilFunc := ⟨⟨by kernel_rfl, by kernel_rfl⟩⟩
instance : Ty Tryz.prog 264 false 1 8 .nilFunc := ⟨⟨by kernel_rfl, by kernel_rfl⟩⟩
instance : Ty Tryz.prog 265 false 1 8 .nilFunc := ⟨⟨by kernel_rfl, by kernel_rfl⟩⟩
instance : Ty Tryz.prog 266 false 1 8 .nilFunc := ⟨⟨by kernel_rfl, by kernel_rfl⟩⟩
instance : Ty Tryz.prog 267 true 3 24 (.agg #[(.int .i64 0), (.int .i64 0), (.int .i64 0)]) := ⟨⟨by kernel_rfl, by kernel_rfl⟩⟩
instance : EqTI Tryz.prog 267 3 := ⟨by kernel_rfl, by kernel_rfl, by kernel_rfl, by kernel_rfl, by kernel_rfl⟩
instance : StT Tryz.prog 267 #[(0, 1), (1, 1), (2, 1)] := ⟨⟨_, Tryz.underlying267, fun _ => by kernel_rfl⟩⟩
instance : FldT Tryz.prog 267 0 0 := ⟨fun _ _ => by kernel_rfl⟩
instance : FldT Tryz.prog 267 1 1 := ⟨fun _ _ => by kernel_rfl⟩
instance : FldT Tryz.prog 267 2 2 := ⟨fun _ _ => by kernel_rfl⟩
instance : Ty Tryz.prog 268 true 3 24 (.agg #[(.int .i64 0), (.int .i64 0), (.int .i64 0)]) := ⟨⟨by kernel_rfl, by kernel_rfl⟩⟩
instance : EqTI Tryz.prog 268 3 := ⟨by kernel_rfl, by kernel_rfl, by kernel_rfl, by kernel_rfl, by kernel_rfl⟩
instance : StT Tryz.prog 268 #[(0, 1), (1, 1), (2, 1)] := ⟨⟨_, Tryz.underlying268, fun _ => by kernel_rfl⟩⟩
instance : FldT Tryz.prog 268 0 0 := ⟨fun _ _ => by kernel_rfl⟩
instance : FldT Tryz.prog 268 1 1 := ⟨fun _ _ => by kernel_rfl⟩
instance : FldT Tryz.prog 268 2 2 := ⟨fun _ _ => by kernel_rfl⟩
instance : Ty Tryz.prog 269 false 1 8 .nilFunc := ⟨⟨by kernel_rfl, by kernel_rfl⟩⟩
instance : Ty Tryz.prog 270 false 1 8 .nilFunc := ⟨⟨by kernel_rfl, by kernel_rfl⟩⟩
instance : Ty Tryz.prog 271 false 1 8 .nilFunc := ⟨⟨by kernel_rfl, by kernel_rfl⟩⟩
instance : Ty Tryz.prog 272 false 1 8 .nilFunc := ⟨⟨by kernel_rfl, by kernel_rfl⟩⟩
instance : Ty Tryz.prog 273 false 1 8 .nilFunc := ⟨⟨by kernel_rfl, by kernel_rfl⟩⟩
instance : Ty Tryz.prog 274 false 1 8 .nilFunc := ⟨⟨by kernel_rfl, by kernel_rfl⟩⟩
instance : Ty Tryz.prog 275 false 1 8 .nilFunc := ⟨⟨by kernel_rfl, by kernel_rfl⟩⟩
instance : Ty Tryz.prog 276 false 1 16 .nilIface := ⟨⟨by kernel_rfl, by kernel_rfl⟩⟩
instance : IfT Tryz.prog 276 := ⟨⟨_, Tryz.underlying276⟩⟩
instance : Ty Tryz.prog 277 false 1 8 .nilFunc := ⟨⟨by kernel_rfl, by kernel_rfl⟩⟩
instance : Ty Tryz.prog 278 false 1 8 .nilFunc := ⟨⟨by kernel_rfl, by kernel_rfl⟩⟩
instance : Ty Tryz.prog 279 false 1 8 .nilFunc := ⟨⟨by kernel_rfl, by kernel_rfl⟩⟩
instance : Ty Tryz.prog 280 false 1 8 .nilFunc := ⟨⟨by kernel_rfl, by kernel_rfl⟩⟩
instance : Ty Tryz.prog 281 false 1 8 .nilFunc := ⟨⟨by kernel_rfl, by kernel_rfl⟩⟩
instance : Ty Tryz.prog 282 false 1 8 .nilFunc := ⟨⟨by kernel_rfl, by kernel_rfl⟩⟩
instance : Ty Tryz.prog 283 false 1 8 .nilFunc := ⟨⟨by kernel_rfl, by kernel_rfl⟩⟩
instance : Ty Tryz.prog 285 false 1 8 .nilFunc := ⟨⟨by kernel_rfl, by kernel_rfl⟩⟩
instance : Ty Tryz.prog 286 false 1 24 (.slice none 0 0) := ⟨⟨by kernel_rfl, by kernel_rfl⟩⟩
instance : SlT Tryz.prog 286 289 := ⟨by kernel_rfl⟩
instance : Ty Tryz.prog 287 false 1 8 .nilFunc := ⟨⟨by kernel_rfl, by kernel_rfl⟩⟩
instance : Ty Tryz.prog 288 true 2 32 (.agg #[(.slice none 0 0), (.int .i64 0)]) := ⟨⟨by kernel_rfl, by kernel_rfl⟩⟩
instance : StT Tryz.prog 288 #[(0, 1), (1, 1)] := ⟨⟨_, Tryz.underlying288, fun _ => by kernel_rfl⟩⟩
instance : FldT Tryz.prog 288 0 0 := ⟨fun _ _ => by kernel_rfl⟩
instance : FldT Tryz.prog 288 1 1 := ⟨fun _ _ => by kernel_rfl⟩
instance : Ty Tryz.prog 289 true 2 32 (.agg #[(.slice none 0 0), (.int .i64 0)]) := ⟨⟨by kernel_rfl, by kernel_rfl⟩⟩
instance : StT Tryz.prog 289 #[(0, 1), (1, 1)] := ⟨⟨_, Tryz.underlying289, fun _ => by kernel_rfl⟩⟩
instance : FldT Tryz.prog 289 0 0 := ⟨fun _ _ => by kernel_rfl⟩
instance : FldT Tryz.prog 289 1 1 := ⟨fun _ _ => by kernel_rfl⟩
instance : Ty Tryz.prog 290 false 1 8 (.pointer none) := ⟨⟨by kernel_rfl, by kernel_rfl⟩⟩
instance : NIfT Tryz.prog 290 := ⟨⟨.pointer 292, by kernel_rfl, fun _ h => by cases h⟩⟩
instance : Ty Tryz.prog 291 true 7 120 (.agg #[(.slice none 0 0), (.int .i64 0), (.slice none 0 0), (.slice none 0 0), (.slice none 0 0), (.int .i64 0), (.int .i64 0)]) := ⟨⟨by kernel_rfl, by kernel_rfl⟩⟩
instance : StT Tryz.prog 291 #[(0, 2), (2, 1), (3, 1), (4, 1), (5, 1), (6, 1)] := ⟨⟨_, Tryz.underlying291, fun _ => by kernel_rfl⟩⟩
instance : FldT Tryz.prog 291 0 0 := ⟨fun _ _ => by kernel_rfl⟩
instance : FldT Tryz.prog 291 1 2 := ⟨fun _ _ => by kernel_rfl⟩
instance : FldT Tryz.prog 291 2 3 := ⟨fun _ _ => by kernel_rfl⟩
instance : FldT Tryz.prog 291 3 4 := ⟨fun _ _ => by kernel_rfl⟩
instance : FldT Tryz.prog 291 4 5 := ⟨fun _ _ => by kernel_rfl⟩
instance : FldT Tryz.prog 291 5 6 := ⟨fun _ _ => by kernel_rfl⟩
instance : Ty Tryz.prog 292 true 7 120 (.agg #[(.slice none 0 0), (.int .i64 0), (.slice none 0 0), (.slice none 0 0), (.slice none 0 0), (.int .i64 0), (.int .i64 0)]) := ⟨⟨by kernel_rfl, by kernel_rfl⟩⟩
instance : StT Tryz.prog 292 #[(0, 2), (2, 1), (3, 1), (4, 1), (5, 1), (6, 1)] := ⟨⟨_, Tryz.underlying292, fun _ => by kernel_rfl⟩⟩
instance : FldT Tryz.prog 292 0 0 := ⟨fun _ _ => by kernel_rfl⟩
instance : FldT Tryz.prog 292 1 2 := ⟨fun _ _ => by kernel_rfl⟩
instance : FldT Tryz.prog 292 2 3 := ⟨fun _ _ => by kernel_rfl⟩
instance : FldT Tryz.prog 292 3 4 := ⟨fun _ _ => by kernel_rfl⟩
instance : FldT Tryz.prog 292 4 5 := ⟨fun _ _ => by kernel_rfl⟩
instance : FldT Tryz.prog 292 5 6 := ⟨fun _ _ => by kernel_rfl⟩
instance : Ty Tryz.prog 293 false 1 8 .nilFunc := ⟨⟨by kernel_rfl, by kernel_rfl⟩⟩
instance : Ty Tryz.prog 294 false 1 8 .nilFunc := ⟨⟨by kernel_rfl, by kernel_rfl⟩⟩
instance : Ty Tryz.prog 295 false 1 8 (.pointer none) := ⟨⟨by kernel_rfl, by kernel_rfl⟩⟩
instance : NIfT Tryz.prog 295 := ⟨⟨.pointer 299, by kernel_rfl, fun _ h => by cases h⟩⟩
instance : Ty Tryz.prog 296 false 1 8 (.pointer none) := ⟨⟨by kernel_rfl, by kernel_rfl⟩⟩
instance : NIfT Tryz.prog 296 := ⟨⟨.pointer 308, by kernel_rfl, fun _ h => by cases h⟩⟩
instance : Ty Tryz.prog 297 false 1 8 .nilFunc := ⟨⟨by kernel_rfl, by kernel_rfl⟩⟩
instance : Ty Tryz.prog 298 true 3 24 (.agg #[(.pointer none), (.int .i64 0), (.int .i64 0)]) := ⟨⟨by kernel_rfl, by kernel_rfl⟩⟩
instance : StT Tryz.prog 298 #[(0, 1), (1, 1), (2, 1)] := ⟨⟨_, Tryz.underlying298, fun _ => by kernel_rfl⟩⟩
instance : FldT Tryz.prog 298 0 0 := ⟨fun _ _ => by kernel_rfl⟩
instance : FldT Tryz.prog 298 1 1 := ⟨fun _ _ => by kernel_rfl⟩
instance : FldT Tryz.prog 298 2 2 := ⟨fun _ _ => by kernel_rfl⟩
instance : Ty Tryz.prog 299 true 3 24 (.agg #[(.pointer none), (.int .i64 0), (.int .i64 0)]) := ⟨⟨by kernel_rfl, by kernel_rfl⟩⟩
instance : StT Tryz.prog 299 #[(0, 1), (1, 1), (2, 1)] := ⟨⟨_, Tryz.underlying299, fun _ => by kernel_rfl⟩⟩
instance : FldT Tryz.prog 299 0 0 := ⟨fun _ _ => by kernel_rfl⟩
instance : FldT Tryz.prog 299 1 1 := ⟨fun _ _ => by kernel_rfl⟩
instance : FldT Tryz.prog 299 2 2 := ⟨fun _ _ => by kernel_rfl⟩
instance : Ty Tryz.prog 300 false 1 8 (.pointer none) := ⟨⟨by kernel_rfl, by kernel_rfl⟩⟩
instance : NIfT Tryz.prog 300 := ⟨⟨.pointer 306, by kernel_rfl, fun _ h => by cases h⟩⟩
instance : Ty Tryz.prog 301 false 1 8 .nilFunc := ⟨⟨by kernel_rfl, by kernel_rfl⟩⟩
instance : Ty Tryz.prog 302 true 3 24 (.agg #[(.int .i64 0), (.int .i64 0), (.bool false)]) := ⟨⟨by kernel_rfl, by kernel_rfl⟩⟩
instance : StT Tryz.prog 302 #[(0, 1), (1, 1), (2, 1)] := ⟨⟨_, Tryz.underlying302, fun _ => by kernel_rfl⟩⟩
instance : FldT Tryz.prog 302 0 0 := ⟨fun _ _ => by kernel_rfl⟩
instance : FldT Tryz.prog 302 1 1 := ⟨fun _ _ => by kernel_rfl⟩
instance : FldT Tryz.prog 302 2 2 := ⟨fun _ _ => by kernel_rfl⟩
instance : Ty Tryz.prog 303 true 3 24 (.agg #[(.int .i64 0), (.int .i64 0), (.bool false)]) := ⟨⟨by kernel_rfl, by kernel_rfl⟩⟩
instance : StT Tryz.prog 303 #[(0, 1), (1, 1), (2, 1)] := ⟨⟨_, Tryz.underlying303, fun _ => by kernel_rfl⟩⟩
instance : FldT Tryz.prog 303 0 0 := ⟨fun _ _ => by kernel_rfl⟩
instance : FldT Tryz.prog 303 1 1 := ⟨fun _ _ => by kernel_rfl⟩
instance : FldT Tryz.prog 303 2 2 := ⟨fun _ _ => by kernel_rfl⟩
instance : Ty Tryz.prog 304 false 1 8 .nilFunc := ⟨⟨by kernel_rfl, by kernel_rfl⟩⟩
instance : Ty Tryz.prog 305 true 4 40 (.agg #[(.pointer none), (.pointer none), (.pointer none), .nilIface]) := ⟨⟨by kernel_rfl, by kernel_rfl⟩⟩
instance : StT Tryz.prog 305 #[(0, 1), (1, 1), (2, 1), (3, 1)] := ⟨⟨_, Tryz.underlying305, fun _ => by kernel_rfl⟩⟩
instance : FldT Tryz.prog 305 0 0 := ⟨fun _ _ => by kernel_rfl⟩
instance : FldT Tryz.prog 305 1 1 := ⟨fun _ _ => by kernel_rfl⟩
instance : FldT Tryz.prog 305 2 2 := ⟨fun _ _ => by kernel_rfl⟩
instance : FldT Tryz.prog 305 3 3 := ⟨fun _ _ => by kernel_rfl⟩
instance : Ty Tryz.prog 306 true 4 40 (.agg #[(.pointer none), (.pointer none), (.pointer none), .nilIface]) := ⟨⟨by kernel_rfl, by kernel_rfl⟩⟩
instance : StT Tryz.prog 306 #[(0, 1), (1, 1), (2, 1), (3, 1)] := ⟨⟨_, Tryz.underlying306, fun _ => by kernel_rfl⟩⟩
instance : FldT Tryz.prog 306 0 0 := ⟨fun _ _ => by kernel_rfl⟩
instance : FldT Tryz.prog 306 1 1 := ⟨fun _ _ => by kernel_rfl⟩
instance : FldT Tryz.prog 306 2 2 := ⟨fun _ _ => by kernel_rfl⟩
instance : FldT Tryz.prog 306 3 3 := ⟨fun _ _ => by kernel_rfl⟩
instance : Ty Tryz.prog 307 true 5 48 (.agg #[(.pointer none), (.pointer none), (.pointer none), .nilIface, (.int .i64 0)]) := ⟨⟨by kernel_rfl, by kernel_rfl⟩⟩
instance : StT Tryz.prog 307 #[(0, 4), (4, 1)] := ⟨⟨_, Tryz.underlying307, fun _ => by kernel_rfl⟩⟩
instance : FldT Tryz.prog 307 0 0 := ⟨fun _ _ => by kernel_rfl⟩
instance : FldT Tryz.prog 307 1 4 := ⟨fun _ _ => by kernel_rfl⟩
instance : Ty Tryz.prog 308 true 5 48 (.agg #[(.pointer none), (.pointer none), (.pointer none), .nilIface, (.int .i64 0)]) := ⟨⟨by kernel_rfl, by kernel_rfl⟩⟩
instance : StT Tryz.prog 308 #[(0, 4), (4, 1)] := ⟨⟨_, Tryz.underlying308, fun _ => by kernel_rfl⟩⟩
instance : FldT Tryz.prog 308 0 0 := ⟨fun _ _ => by kernel_rfl⟩
instance : FldT Tryz.prog 308 1 4 := ⟨fun _ _ => by kernel_rfl⟩
instance : Ty Tryz.prog 309 false 1 8 .nilFunc := ⟨⟨by kernel_rfl, by kernel_rfl⟩⟩
instance : Ty Tryz.prog 310 false 1 8 .nilFunc := ⟨⟨by kernel_rfl, by kernel_rfl⟩⟩
instance : Ty Tryz.prog 311 false 1 8 (.pointer none) := ⟨⟨by kernel_rfl, by kernel_rfl⟩⟩
instance : NIfT Tryz.prog 311 := ⟨⟨.pointer 313, by kernel_rfl, fun _ h => by cases h⟩⟩
instance : Ty Tryz.prog 312 true 2 32 (.agg #[(.slice none 0 0), (.int .i64 0)]) := ⟨⟨by kernel_rfl, by kernel_rfl⟩⟩
instance : StT Tryz.prog 312 #[(0, 1), (1, 1)] := ⟨⟨_, Tryz.underlying312, fun _ => by kernel_rfl⟩⟩
instance : FldT Tryz.prog 312 0 0 := ⟨fun _ _ => by kernel_rfl⟩
instance : FldT Tryz.prog 312 1 1 := ⟨fun _ _ => by kernel_rfl⟩
instance : Ty Tryz.prog 313 true 2 32 (.agg #[(.slice none 0 0), (.int .i64 0)]) := ⟨⟨by kernel_rfl, by kernel_rfl⟩⟩
instance : StT Tryz.prog 313 #[(0, 1), (1, 1)] := ⟨⟨_, Tryz.underlying313, fun _ => by kernel_rfl⟩⟩
instance : FldT Tryz.prog 313 0 0 := ⟨fun _ _ => by kernel_rfl⟩
instance : FldT Tryz.prog 313 1 1 := ⟨fun _ _ => by kernel_rfl⟩
instance : Ty Tryz.prog 314 true 7 56 (.agg #[.nilFunc, .nilFunc, .nilFunc, .nilFunc, .nilFunc, .nilFunc, .nilFunc]) := ⟨⟨by kernel_rfl, by kernel_rfl⟩⟩
instance : Ty Tryz.prog 315 false 1 8 .nilFunc := ⟨⟨by kernel_rfl, by kernel_rfl⟩⟩
instance : Ty Tryz.prog 316 false 1 8 .nilFunc := ⟨⟨by kernel_rfl, by kernel_rfl⟩⟩
instance : Ty Tryz.prog 317 false 1 8 .nilFunc := ⟨⟨by kernel_rfl, by kernel_rfl⟩⟩
instance : Ty Tryz.prog 318 false 1 8 .nilFunc := ⟨⟨by kernel_rfl, by kernel_rfl⟩⟩
instance : Ty Tryz.prog 319 false 1 8 .nilFunc := ⟨⟨by kernel_rfl, by kernel_rfl⟩⟩
instance : Ty Tryz.prog 320 false 1 8 .nilFunc := ⟨⟨by kernel_rfl, by kernel_rfl⟩⟩
instance : Ty Tryz.prog 321 false 1 8 .nilFunc := ⟨⟨by kernel_rfl, by kernel_rfl⟩⟩
instance : Ty Tryz.prog 322 false 1 8 .nilFunc := ⟨⟨by kernel_rfl, by kernel_rfl⟩⟩
instance : Ty Tryz.prog 323 false 1 8 .nilFunc := ⟨⟨by kernel_rfl, by kernel_rfl⟩⟩
instance : Ty Tryz.prog 324 false 1 8 .nilFunc := ⟨⟨by kernel_rfl, by kernel_rfl⟩⟩
instance : Ty Tryz.prog 325 false 1 8 .nilFunc := ⟨⟨by kernel_rfl, by kernel_rfl⟩⟩
instance : Ty Tryz.prog 326 false 1 8 (.int .i64 0) := ⟨⟨by kernel_rfl, by kernel_rfl⟩⟩
instance : IntT Tryz.prog 326 .i64 := ⟨by kernel_rfl⟩
instance : Ty Tryz.prog 328 false 1 8 .nilFunc := ⟨⟨by kernel_rfl, by kernel_rfl⟩⟩
instance : Ty Tryz.prog 329 false 1 8 .nilFunc := ⟨⟨by kernel_rfl, by kernel_rfl⟩⟩
instance : Ty Tryz.prog 330 false 1 8 .nilFunc := ⟨⟨by kernel_rfl, by kernel_rfl⟩⟩
instance : Ty Tryz.prog 331 false 1 8 .nilFunc := ⟨⟨by kernel_rfl, by kernel_rfl⟩⟩
instance : Ty Tryz.prog 332 false 1 8 .nilFunc := ⟨⟨by kernel_rfl, by kernel_rfl⟩⟩
instance : Ty Tryz.prog 333 false 1 8 .nilFunc := ⟨⟨by kernel_rfl, by kernel_rfl⟩⟩
instance : Ty Tryz.prog 334 false 1 8 (.int .u64 0) := ⟨⟨by kernel_rfl, by kernel_rfl⟩⟩
instance : IntT Tryz.prog 334 .u64 := ⟨by kernel_rfl⟩
instance : Ty Tryz.prog 335 false 1 8 .nilFunc := ⟨⟨by kernel_rfl, by kernel_rfl⟩⟩
instance : Ty Tryz.prog 336 false 1 8 (.int .u64 0) := ⟨⟨by kernel_rfl, by kernel_rfl⟩⟩
instance : IntT Tryz.prog 336 .u64 := ⟨by kernel_rfl⟩
instance : Ty Tryz.prog 337 false 1 8 .nilFunc := ⟨⟨by kernel_rfl, by kernel_rfl⟩⟩
instance : Ty Tryz.prog 338 false 1 8 .nilFunc := ⟨⟨by kernel_rfl, by kernel_rfl⟩⟩
instance : Ty Tryz.prog 339 false 1 8 .nilFunc := ⟨⟨by kernel_rfl, by kernel_rfl⟩⟩
instance : Ty Tryz.prog 340 false 1 8 (.pointer none) := ⟨⟨by kernel_rfl, by kernel_rfl⟩⟩
instance : NIfT Tryz.prog 340 := ⟨⟨.pointer 3, by kernel_rfl, fun _ h => by cases h⟩⟩
instance : Ty Tryz.prog 341 false 1 8 .nilFunc := ⟨⟨by kernel_rfl, by kernel_rfl⟩⟩
instance : Ty Tryz.prog 342 false 1 8 (.pointer none) := ⟨⟨by kernel_rfl, by kernel_rfl⟩⟩
instance : NIfT Tryz.prog 342 := ⟨⟨.pointer 336, by kernel_rfl, fun _ h => by cases h⟩⟩
instance : Ty Tryz.prog 343 false 1 8 .nilFunc := ⟨⟨by kernel_rfl, by kernel_rfl⟩⟩
instance : Ty Tryz.prog 344 true 4 40 (.agg #[(.pointer none), (.pointer none), (.pointer none), (.string ⟨#[]⟩)]) := ⟨⟨by kernel_rfl, by kernel_rfl⟩⟩
instance : StT Tryz.prog 344 #[(0, 1), (1, 1), (2, 1), (3, 1)] := ⟨⟨_, Tryz.underlying344, fun _ => by kernel_rfl⟩⟩
instance : FldT Tryz.prog 344 0 0 := ⟨fun _ _ => by kernel_rfl⟩
instance : FldT Tryz.prog 344 1 1 := ⟨fun _ _ => by kernel_rfl⟩
instance : FldT Tryz.prog 344 2 2 := ⟨fun _ _ => by kernel_rfl⟩
instance : FldT Tryz.prog 344 3 3 := ⟨fun _ _ => by kernel_rfl⟩
instance : Ty Tryz.prog 345 true 4 40 (.agg #[(.pointer none), (.pointer none), (.pointer none), (.string ⟨#[]⟩)]) := ⟨⟨by kernel_rfl, by kernel_rfl⟩⟩
instance : StT Tryz.prog 345 #[(0, 1), (1, 1), (2, 1), (3, 1)] := ⟨⟨_, Tryz.underlying345, fun _ => by kernel_rfl⟩⟩
instance : FldT Tryz.prog 345 0 0 := ⟨fun _ _ => by kernel_rfl⟩
instance : FldT Tryz.prog 345 1 1 := ⟨fun _ _ => by kernel_rfl⟩
instance : FldT Tryz.prog 345 2 2 := ⟨fun _ _ => by kernel_rfl⟩
instance : FldT Tryz.prog 345 3 3 := ⟨fun _ _ => by kernel_rfl⟩
instance : StT Tryz.prog 347 #[(0, 0)] := ⟨⟨_, Tryz.underlying347, fun _ => by kernel_rfl⟩⟩
instance : StT Tryz.prog 348 #[(0, 0)] := ⟨⟨_, Tryz.underlying348, fun _ => by kernel_rfl⟩⟩
instance : Ty Tryz.prog 349 false 1 8 .nilFunc := ⟨⟨by kernel_rfl, by kernel_rfl⟩⟩
instance : Ty Tryz.prog 350 false 1 1 (.int .u8 0) := ⟨⟨by kernel_rfl, by kernel_rfl⟩⟩
instance : IntT Tryz.prog 350 .u8 := ⟨by kernel_rfl⟩
instance : Ty Tryz.prog 351 false 1 8 .nilFunc := ⟨⟨by kernel_rfl, by kernel_rfl⟩⟩
instance : Ty Tryz.prog 352 false 1 8 (.pointer none) := ⟨⟨by kernel_rfl, by kernel_rfl⟩⟩
instance : NIfT Tryz.prog 352 := ⟨⟨.pointer 5, by kernel_rfl, fun _ h => by cases h⟩⟩
instance : Ty Tryz.prog 353 false 1 4 (.int .i32 0) := ⟨⟨by kernel_rfl, by kernel_rfl⟩⟩
instance : IntT Tryz.prog 353 .i32 := ⟨by kernel_rfl⟩
instance : Ty Tryz.prog 354 false 1 4 (.int .i32 0) := ⟨⟨by kernel_rfl, by kernel_rfl⟩⟩
instance : IntT Tryz.prog 354 .i32 := ⟨by kernel_rfl⟩
instance : Ty Tryz.prog 355 true 11 48 (.agg #[(.int .u64 0), (.int .u64 0), (.int .u32 0), (.int .u8 0), (.int .u8 0), (.int .u8 0), (.int .u8 0), .nilFunc, (.pointer none), (.int .i32 0), (.int .i32 0)]) := ⟨⟨by kernel_rfl, by kernel_rfl⟩⟩
instance : StT Tryz.prog 355 #[(0, 1), (1, 1), (2, 1), (3, 1), (4, 1), (5, 1), (6, 1), (7, 1), (8, 1), (9, 1), (10, 1)] := ⟨⟨_, Tryz.underlying355, fun _ => by kernel_rfl⟩⟩
instance : FldT Tryz.prog 355 0 0 := ⟨fun _ _ => by kernel_rfl⟩
instance : FldT Tryz.prog 355 1 1 := ⟨fun _ _ => by kernel_rfl⟩
instance : FldT Tryz.prog 355 2 2 := ⟨fun _ _ => by kernel_rfl⟩
instance : FldT Tryz.prog 355 3 3 := ⟨fun _ _ => by kernel_rfl⟩
instance : FldT Tryz.prog 355 4 4 := ⟨fun _ _ => by kernel_rfl⟩
instance : FldT Tryz.prog 355 5 5 := ⟨fun _ _ => by kernel_rfl⟩
instance : FldT Tryz.prog 355 6 6 := ⟨fun _ _ => by kernel_rfl⟩
instance : FldT Tryz.prog 355 7 7 := ⟨fun _ _ => by kernel_rfl⟩
instance : FldT Tryz.prog 355 8 8 := ⟨fun _ _ => by kernel_rfl⟩
instance : FldT Tryz.prog 355 9 9 := ⟨fun _ _ => by kernel_rfl⟩
instance : FldT Tryz.prog 355 10 10 := ⟨fun _ _ => by kernel_rfl⟩
instance : Ty Tryz.prog 356 true 11 48 (.agg #[(.int .u64 0), (.int .u64 0), (.int .u32 0), (.int .u8 0), (.int .u8 0), (.int .u8 0), (.int .u8 0), .nilFunc, (.pointer none), (.int .i32 0), (.int .i32 0)]) := ⟨⟨by kernel_rfl, by kernel_rfl⟩⟩
instance : StT Tryz.prog 356 #[(0, 1), (1, 1), (2, 1), (3, 1), (4, 1), (5, 1), (6, 1), (7, 1), (8, 1), (9, 1), (10, 1)] := ⟨⟨_, Tryz.underlying356, fun _ => by kernel_rfl⟩⟩
instance : FldT Tryz.prog 356 0 0 := ⟨fun _ _ => by kernel_rfl⟩
instance : FldT Tryz.prog 356 1 1 := ⟨fun _ _ => by kernel_rfl⟩
instance : FldT Tryz.prog 356 2 2 := ⟨fun _ _ => by kernel_rfl⟩
instance : FldT Tryz.prog 356 3 3 := ⟨fun _ _ => by kernel_rfl⟩
instance : FldT Tryz.prog 356 4 4 := ⟨fun _ _ => by kernel_rfl⟩
instance : FldT Tryz.prog 356 5 5 := ⟨fun _ _ => by kernel_rfl⟩
instance : FldT Tryz.prog 356 6 6 := ⟨fun _ _ => by kernel_rfl⟩
instance : FldT Tryz.prog 356 7 7 := ⟨fun _ _ => by kernel_rfl⟩
instance : FldT Tryz.prog 356 8 8 := ⟨fun _ _ => by kernel_rfl⟩
instance : FldT Tryz.prog 356 9 9 := ⟨fun _ _ => by kernel_rfl⟩
instance : FldT Tryz.prog 356 10 10 := ⟨fun _ _ => by kernel_rfl⟩
instance : Ty Tryz.prog 357 false 1 8 .nilFunc := ⟨⟨by kernel_rfl, by kernel_rfl⟩⟩
instance : Ty Tryz.prog 358 false 1 8 .nilFunc := ⟨⟨by kernel_rfl, by kernel_rfl⟩⟩
instance : Ty Tryz.prog 359 true 2 16 (.agg #[(.int .i64 0), (.int .i64 0)]) := ⟨⟨by kernel_rfl, by kernel_rfl⟩⟩
instance : EqT2 Tryz.prog 359 := EqT2.mk' (by kernel_rfl) Tryz.underlying359 (by kernel_rfl) rfl rfl rfl (by kernel_rfl) (by kernel_rfl) (fun _ _ _ => by kernel_rfl) (fun _ _ _ => by kernel_rfl)
instance : StT Tryz.prog 359 #[(0, 1), (1, 1)] := ⟨⟨_, Tryz.underlying359, fun _ => by kernel_rfl⟩⟩
instance : FldT Tryz.prog 359 0 0 := ⟨fun _ _ => by kernel_rfl⟩
instance : FldT Tryz.prog 359 1 1 := ⟨fun _ _ => by kernel_rfl⟩
instance : Ty Tryz.prog 360 true 2 16 (.agg #[(.int .i64 0), (.int .i64 0)]) := ⟨⟨by kernel_rfl, by kernel_rfl⟩⟩
instance : EqT2 Tryz.prog 360 := EqT2.mk' (by kernel_rfl) Tryz.underlying360 (by kernel_rfl) rfl rfl rfl (by kernel_rfl) (by kernel_rfl) (fun _ _ _ => by kernel_rfl) (fun _ _ _ => by kernel_rfl)
instance : StT Tryz.prog 360 #[(0, 1), (1, 1)] := ⟨⟨_, Tryz.underlying360, fun _ => by kernel_rfl⟩⟩
instance : FldT Tryz.prog 360 0 0 := ⟨fun _ _ => by kernel_rfl⟩
instance : FldT Tryz.prog 360 1 1 := ⟨fun _ _ => by kernel_rfl⟩
instance : Ty Tryz.prog 361 false 1 8 .nilFunc := ⟨⟨by kernel_rfl, by kernel_rfl⟩⟩
instance : Ty Tryz.prog 363 true 2 24 (.agg #[(.string ⟨#[]⟩), (.int .u8 0)]) := ⟨⟨by kernel_rfl, by kernel_rfl⟩⟩
instance : StT Tryz.prog 363 #[(0, 1), (1, 1)] := ⟨⟨_, Tryz.underlying363, fun _ => by kernel_rfl⟩⟩
instance : FldT Tryz.prog 363 0 0 := ⟨fun _ _ => by kernel_rfl⟩
instance : FldT Tryz.prog 363 1 1 := ⟨fun _ _ => by kernel_rfl⟩
instance : Ty Tryz.prog 364 true 2 24 (.agg #[(.string ⟨#[]⟩), (.int .u8 0)]) := ⟨⟨by kernel_rfl, by kernel_rfl⟩⟩
instance : StT Tryz.prog 364 #[(0, 1), (1, 1)] := ⟨⟨_, Tryz.underlying364, fun _ => by kernel_rfl⟩⟩
instance : FldT Tryz.prog 364 0 0 := ⟨fun _ _ => by kernel_rfl⟩
instance : FldT Tryz.prog 364 1 1 := ⟨fun _ _ => by kernel_rfl⟩
instance : Ty Tryz.prog 365 false 1 8 (.pointer none) := ⟨⟨by kernel_rfl, by kernel_rfl⟩⟩
instance : NIfT Tryz.prog 365 := ⟨⟨.pointer 369, by kernel_rfl, fun _ h => by cases h⟩⟩
instance : Ty Tryz.prog 366 false 1 8 .nilFunc := ⟨⟨by kernel_rfl, by kernel_rfl⟩⟩
instance : Ty Tryz.prog 367 false 1 2 (.int .u16 0) := ⟨⟨by kernel_rfl, by kernel_rfl⟩⟩
instance : IntT Tryz.prog 367 .u16 := ⟨by kernel_rfl⟩
instance : Ty Tryz.prog 368 true 5 16 (.agg #[(.int .i32 0), (.int .u16 0), (.int .u16 0), (.int .u32 0), (.int .u32 0)]) := ⟨⟨by kernel_rfl, by kernel_rfl⟩⟩
instance : StT Tryz.prog 368 #[(0, 1), (1, 1), (2, 1), (3, 1), (4, 1)] := ⟨⟨_, Tryz.underlying368, fun _ => by kernel_rfl⟩⟩
instance : FldT Tryz.prog 368 0 0 := ⟨fun _ _ => by kernel_rfl⟩
instance : FldT Tryz.prog 368 1 1 := ⟨fun _ _ => by kernel_rfl⟩
instance : FldT Tryz.prog 368 2 2 := ⟨fun _ _ => by kernel_rfl⟩
instance : FldT Tryz.prog 368 3 3 := ⟨fun _ _ => by kernel_rfl⟩
instance : FldT Tryz.prog 368 4 4 := ⟨fun _ _ => by kernel_rfl⟩
instance : Ty Tryz.prog 369 true 5 16 (.agg #[(.int .i32 0), (.int .u16 0), (.int .u16 0), (.int .u32 0), (.int .u32 0)]) := ⟨⟨by kernel_rfl, by kernel_rfl⟩⟩
instance : StT Tryz.prog 369 #[(0, 1), (1, 1), (2, 1), (3, 1), (4, 1)] := ⟨⟨_, Tryz.underlying369, fun _ => by kernel_rfl⟩⟩
instance : FldT Tryz.prog 369 0 0 := ⟨fun _ _ => by kernel_rfl⟩
instance : FldT Tryz.prog 369 1 1 := ⟨fun _ _ => by kernel_rfl⟩
instance : FldT Tryz.prog 369 2 2 := ⟨fun _ _ => by kernel_rfl⟩
instance : FldT Tryz.prog 369 3 3 := ⟨fun _ _ => by kernel_rfl⟩
instance : FldT Tryz.prog 369 4 4 := ⟨fun _ _ => by kernel_rfl⟩
instance : Ty Tryz.prog 370 false 1 24 (.slice none 0 0) := ⟨⟨by kernel_rfl, by kernel_rfl⟩⟩
instance : SlT Tryz.prog 370 373 := ⟨by kernel_rfl⟩
instance : Ty Tryz.prog 371 false 1 4 (.int .i32 0) := ⟨⟨by kernel_rfl, by kernel_rfl⟩⟩
instance : IntT Tryz.prog 371 .i32 := ⟨by kernel_rfl⟩
instance : Ty Tryz.prog 372 true 4 16 (.agg #[(.int .i32 0), (.int .i32 0), (.int .i32 0), (.int .i32 0)]) := ⟨⟨by kernel_rfl, by kernel_rfl⟩⟩
instance : StT Tryz.prog 372 #[(0, 1), (1, 1), (2, 1), (3, 1)] := ⟨⟨_, Tryz.underlying372, fun _ => by kernel_rfl⟩⟩
instance : FldT Tryz.prog 372 0 0 := ⟨fun _ _ => by kernel_rfl⟩
instance : FldT Tryz.prog 372 1 1 := ⟨fun _ _ => by kernel_rfl⟩
instance : FldT Tryz.prog 372 2 2 := ⟨fun _ _ => by kernel_rfl⟩
instance : FldT Tryz.prog 372 3 3 := ⟨fun _ _ => by kernel_rfl⟩
instance : Ty Tryz.prog 373 true 4 16 (.agg #[(.int .i32 0), (.int .i32 0), (.int .i32 0), (.int .i32 0)]) := ⟨⟨by kernel_rfl, by kernel_rfl⟩⟩
instance : StT Tryz.prog 373 #[(0, 1), (1, 1), (2, 1), (3, 1)] := ⟨⟨_, Tryz.underlying373, fun _ => by kernel_rfl⟩⟩
instance : FldT Tryz.prog 373 0 0 := ⟨fun _ _ => by kernel_rfl⟩
instance : FldT Tryz.prog 373 1 1 := ⟨fun _ _ => by kernel_rfl⟩
instance : FldT Tryz.prog 373 2 2 := ⟨fun _ _ => by kernel_rfl⟩
instance : FldT Tryz.prog 373 3 3 := ⟨fun _ _ => by kernel_rfl⟩
instance : Ty Tryz.prog 374 false 1 8 (.pointer none) := ⟨⟨by kernel_rfl, by kernel_rfl⟩⟩
instance : NIfT Tryz.prog 374 := ⟨⟨.pointer 54, by kernel_rfl, fun _ h => by cases h⟩⟩
instance : Wide Tryz.prog := ⟨by kernel_rfl⟩
instance : FnB Tryz.prog 3 := FnB.mk' Tryz.func3 (by kernel_rfl)
instance : FnB Tryz.prog 4 := FnB.mk' Tryz.func4 (by kernel_rfl)
instance : FnB Tryz.prog 5 := FnB.mk' Tryz.func5 (by kernel_rfl)
instance : FnB Tryz.prog 6 := FnB.mk' Tryz.func6 (by kernel_rfl)
instance : FnB Tryz.prog 7 := FnB.mk' Tryz.func7 (by kernel_rfl)
instance : FnB Tryz.prog 8 := FnB.mk' Tryz.func8 (by kernel_rfl)
instance : FnB Tryz.prog 9 := FnB.mk' Tryz.func9 (by kernel_rfl)
instance : FnB Tryz.prog 10 := FnB.mk' Tryz.func10 (by kernel_rfl)
instance : FnB Tryz.prog 11 := FnB.mk' Tryz.func11 (by kernel_rfl)
instance : FnB Tryz.prog 12 := FnB.mk' Tryz.func12 (by kernel_rfl)
instance : FnB Tryz.prog 13 := FnB.mk' Tryz.func13 (by kernel_rfl)
instance : FnB Tryz.prog 14 := FnB.mk' Tryz.func14 (by kernel_rfl)
instance : FnB Tryz.prog 15 := FnB.mk' Tryz.func15 (by kernel_rfl)
instance : FnB Tryz.prog 16 := FnB.mk' Tryz.func16 (by kernel_rfl)
instance : FnB Tryz.prog 17 := FnB.mk' Tryz.func17 (by kernel_rfl)
instance : FnB Tryz.prog 18 := FnB.mk' Tryz.func18 (by kernel_rfl)
instance : FnB Tryz.prog 19 := FnB.mk' Tryz.func19 (by kernel_rfl)
instance : FnB Tryz.prog 20 := FnB.mk' Tryz.func20 (by kernel_rfl)
instance : FnB Tryz.prog 21 := FnB.mk' Tryz.func21 (by kernel_rfl)
instance : FnB Tryz.prog 22 := FnB.mk' Tryz.func22 (by kernel_rfl)
instance : FnB Tryz.prog 23 := FnB.mk' Tryz.func23 (by kernel_rfl)
instance : FnB Tryz.prog 24 := FnB.mk' Tryz.func24 (by kernel_rfl)
instance : FnB Tryz.prog 25 := FnB.mk' Tryz.func25 (by kernel_rfl)
instance : FnB Tryz.prog 26 := FnB.mk' Tryz.func26 (by kernel_rfl)
instance : FnB Tryz.prog 27 := FnB.mk' Tryz.func27 (by kernel_rfl)
instance : FnB Tryz.prog 28 := FnB.mk' Tryz.func28 (by kernel_rfl)
instance : FnB Tryz.prog 29 := FnB.mk' Tryz.func29 (by kernel_rfl)
instance : FnB Tryz.prog 30 := FnB.mk' Tryz.func30 (by kernel_rfl)
instance : FnB Tryz.prog 31 := FnB.mk' Tryz.func31 (by kernel_rfl)
instance : FnB Tryz.prog 32 := FnB.mk' Tryz.func32 (by kernel_rfl)
instance : FnB Tryz.prog 33 := FnB.mk' Tryz.func33 (by kernel_rfl)
instance : FnB Tryz.prog 34 := FnB.mk' Tryz.func34 (by kernel_rfl)
instance : FnB Tryz.prog 35 := FnB.mk' Tryz.func35 (by kernel_rfl)
instance : FnB Tryz.prog 36 := FnB.mk' Tryz.func36 (by kernel_rfl)
instance : FnB Tryz.prog 37 := FnB.mk' Tryz.func37 (by kernel_rfl)
instance : FnB Tryz.prog 38 := FnB.mk' Tryz.func38 (by kernel_rfl)
instance : FnB Tryz.prog 39 := FnB.mk' Tryz.func39 (by kernel_rfl)
instance : FnB Tryz.prog 40 := FnB.mk' Tryz.func40 (by kernel_rfl)
instance : FnB Tryz.prog 41 := FnB.mk' Tryz.func41 (by kernel_rfl)
instance : FnB Tryz.prog 42 := FnB.mk' Tryz.func42 (by kernel_rfl)
instance : FnB Tryz.prog 43 := FnB.mk' Tryz.func43 (by kernel_rfl)
instance : FnB Tryz.prog 44 := FnB.mk' Tryz.func44 (by kernel_rfl)
instance : FnB Tryz.prog 45 := FnB.mk' Tryz.func45 (by kernel_rfl)
instance : FnB Tryz.prog 46 := FnB.mk' Tryz.func46 (by kernel_rfl)
instance : FnB Tryz.prog 47 := FnB.mk' Tryz.func47 (by kernel_rfl)
instance : FnB Tryz.prog 48 := FnB.mk' Tryz.func48 (by kernel_rfl)
instance : FnB Tryz.prog 49 := FnB.mk' Tryz.func49 (by kernel_rfl)
instance : FnB Tryz.prog 50 := FnB.mk' Tryz.func50 (by kernel_rfl)
instance : FnB Tryz.prog 51 := FnB.mk' Tryz.func51 (by kernel_rfl)
instance : FnB Tryz.prog 52 := FnB.mk' Tryz.func52 (by kernel_rfl)
instance : FnB Tryz.prog 53 := FnB.mk' Tryz.func53 (by kernel_rfl)
instance : FnB Tryz.prog 54 := FnB.mk' Tryz.func54 (by kernel_rfl)
instance : FnB Tryz.prog 55 := FnB.mk' Tryz.func55 (by kernel_rfl)
instance : FnB Tryz.prog 56 := FnB.mk' Tryz.func56 (by kernel_rfl)
instance : FnB Tryz.prog 57 := FnB.mk' Tryz.func57 (by kernel_rfl)
instance : FnB Tryz.prog 58 := FnB.mk' Tryz.func58 (by kernel_rfl)
instance : FnB Tryz.prog 59 := FnB.mk' Tryz.func59 (by kernel_rfl)
instance : FnB Tryz.prog 60 := FnB.mk' Tryz.func60 (by kernel_rfl)
instance : FnB Tryz.prog 61 := FnB.mk' Tryz.func61 (by kernel_rfl)
instance : FnB Tryz.prog 62 := FnB.mk' Tryz.func62 (by kernel_rfl)
instance : FnB Tryz.prog 63 := FnB.mk' Tryz.func63 (by kernel_rfl)
instance : FnB Tryz.prog 64 := FnB.mk' Tryz.func64 (by kernel_rfl)
instance : FnB Tryz.prog 65 := FnB.mk' Tryz.func65 (by kernel_rfl)
instance : FnB Tryz.prog 66 := FnB.mk' Tryz.func66 (by kernel_rfl)
instance : FnB Tryz.prog 67 := FnB.mk' Tryz.func67 (by kernel_rfl)
instance : FnB Tryz.prog 68 := FnB.mk' Tryz.func68 (by kernel_rfl)
instance : FnB Tryz.prog 69 := FnB.mk' Tryz.func69 (by kernel_rfl)
instance : FnB Tryz.prog 70 := FnB.mk' Tryz.func70 (by kernel_rfl)
instance : FnB Tryz.prog 71 := FnB.mk' Tryz.func71 (by kernel_rfl)
instance : FnB Tryz.prog 72 := FnB.mk' Tryz.func72 (by kernel_rfl)
instance : FnB Tryz.prog 73 := FnB.mk' Tryz.func73 (by kernel_rfl)
instance : FnB Tryz.prog 74 := FnB.mk' Tryz.func74 (by kernel_rfl)
instance : FnB Tryz.prog 75 := FnB.mk' Tryz.func75 (by kernel_rfl)
instance : FnB Tryz.prog 76 := FnB.mk' Tryz.func76 (by kernel_rfl)
instance : FnB Tryz.prog 77 := FnB.mk' Tryz.func77 (by kernel_rfl)
instance : FnB Tryz.prog 78 := FnB.mk' Tryz.func78 (by kernel_rfl)
instance : FnB Tryz.prog 79 := FnB.mk' Tryz.func79 (by kernel_rfl)
instance : FnB Tryz.prog 80 := FnB.mk' Tryz.func80 (by kernel_rfl)
instance : FnB Tryz.prog 81 := FnB.mk' Tryz.func81 (by kernel_rfl)
instance : FnB Tryz.prog 82 := FnB.mk' Tryz.func82 (by kernel_rfl)
instance : FnB Tryz.prog 83 := FnB.mk' Tryz.func83 (by kernel_rfl)
instance : FnB Tryz.prog 84 := FnB.mk' Tryz.func84 (by kernel_rfl)
instance : FnB Tryz.prog 85 := FnB.mk' Tryz.func85 (by kernel_rfl)
instance : FnB Tryz.prog 86 := FnB.mk' Tryz.func86 (by kernel_rfl)
instance : FnB Tryz.prog 87 := FnB.mk' Tryz.func87 (by kernel_rfl)
instance : FnB Tryz.prog 88 := FnB.mk' Tryz.func88 (by kernel_rfl)
instance : FnB Tryz.prog 89 := FnB.mk' Tryz.func89 (by kernel_rfl)
instance : FnB Tryz.prog 90 := FnB.mk' Tryz.func90 (by kernel_rfl)
instance : FnB Tryz.prog 91 := FnB.mk' Tryz.func91 (by kernel_rfl)
instance : FnB Tryz.prog 92 := FnB.mk' Tryz.func92 (by kernel_rfl)
instance : FnB Tryz.prog 93 := FnB.mk' Tryz.func93 (by kernel_rfl)
instance : FnB Tryz.prog 94 := FnB.mk' Tryz.func94 (by kernel_rfl)
instance : FnB Tryz.prog 95 := FnB.mk' Tryz.func95 (by kernel_rfl)
instance : FnB Tryz.prog 96 := FnB.mk' Tryz.func96 (by kernel_rfl)
instance : FnB Tryz.prog 97 := FnB.mk' Tryz.func97 (by kernel_rfl)
instance : FnB Tryz.prog 98 := FnB.mk' Tryz.func98 (by kernel_rfl)
instance : FnB Tryz.prog 99 := FnB.mk' Tryz.func99 (by kernel_rfl)
instance : FnB Tryz.prog 100 := FnB.mk' Tryz.func100 (by kernel_rfl)
instance : FnB Tryz.prog 101 := FnB.mk' Tryz.func101 (by kernel_rfl)
instance : FnB Tryz.prog 102 := FnB.mk' Tryz.func102 (by kernel_rfl)
instance : FnB Tryz.prog 106 := FnB.mk' Tryz.func106 (by kernel_rfl)
instance : FnB Tryz.prog 107 := FnB.mk' Tryz.func107 (by kernel_rfl)
instance : FnB Tryz.prog 108 := FnB.mk' Tryz.func108 (by kernel_rfl)
instance : FnB Tryz.prog 109 := FnB.mk' Tryz.func109 (by kernel_rfl)
instance : FnB Tryz.prog 110 := FnB.mk' Tryz.func110 (by kernel_rfl)
instance : FnB Tryz.prog 111 := FnB.mk' Tryz.func111 (by kernel_rfl)
instance : FnB Tryz.prog 112 := FnB.mk' Tryz.func112 (by kernel_rfl)
instance : FnB Tryz.prog 113 := FnB.mk' Tryz.func113 (by kernel_rfl)
instance : FnB Tryz.prog 114 := FnB.mk' Tryz.func114 (by kernel_rfl)
instance : FnB Tryz.prog 115 := FnB.mk' Tryz.func115 (by kernel_rfl)
instance : FnB Tryz.prog 116 := FnB.mk' Tryz.func116 (by kernel_rfl)
instance : FnB Tryz.prog 117 := FnB.mk' Tryz.func117 (by kernel_rfl)
instance : FnB Tryz.prog 118 := FnB.mk' Tryz.func118 (by kernel_rfl)
instance : FnB Tryz.prog 119 := FnB.mk' Tryz.func119 (by kernel_rfl)
instance : FnB Tryz.prog 120 := FnB.mk' Tryz.func120 (by kernel_rfl)
instance : FnB Tryz.prog 121 := FnB.mk' Tryz.func121 (by kernel_rfl)
instance : FnB Tryz.prog 122 := FnB.mk' Tryz.func122 (by kernel_rfl)
instance : FnB Tryz.prog 123 := FnB.mk' Tryz.func123 (by kernel_rfl)
instance : FnB Tryz.prog 124 := FnB.mk' Tryz.func124 (by kernel_rfl)
instance : FnB Tryz.prog 125 := FnB.mk' Tryz.func125 (by kernel_rfl)
instance : FnB Tryz.prog 126 := FnB.mk' Tryz.func126 (by kernel_rfl)
instance : FnB Tryz.prog 127 := FnB.mk' Tryz.func127 (by kernel_rfl)
instance : FnB Tryz.prog 128 := FnB.mk' Tryz.func128 (by kernel_rfl)
instance : FnB Tryz.prog 129 := FnB.mk' Tryz.func129 (by kernel_rfl)
instance : FnB Tryz.prog 130 := FnB.mk' Tryz.func130 (by kernel_rfl)
instance : FnB Tryz.prog 131 := FnB.mk' Tryz.func131 (by kernel_rfl)
instance : FnB Tryz.prog 132 := FnB.mk' Tryz.func132 (by kernel_rfl)
instance : FnB Tryz.prog 133 := FnB.mk' Tryz.func133 (by kernel_rfl)
instance : FnB Tryz.prog 134 := FnB.mk' Tryz.func134 (by kernel_rfl)
instance : FnB Tryz.prog 135 := FnB.mk' Tryz.func135 (by kernel_rfl)
instance : FnB Tryz.prog 136 := FnB.mk' Tryz.func136 (by kernel_rfl)
instance : FnB Tryz.prog 137 := FnB.mk' Tryz.func137 (by kernel_rfl)
instance : FnB Tryz.prog 138 := FnB.mk' Tryz.func138 (by kernel_rfl)
instance : FnB Tryz.prog 139 := FnB.mk' Tryz.func139 (by kernel_rfl)
instance : FnB Tryz.prog 140 := FnB.mk' Tryz.func140 (by kernel_rfl)
instance : FnB Tryz.prog 141 := FnB.mk' Tryz.func141 (by kernel_rfl)
instance : FnB Tryz.prog 142 := FnB.mk' Tryz.func142 (by kernel_rfl)
instance : FnB Tryz.prog 144 := FnB.mk' Tryz.func144 (by kernel_rfl)
instance : FnB Tryz.prog 145 := FnB.mk' Tryz.func145 (by kernel_rfl)
instance : FnB Tryz.prog 146 := FnB.mk' Tryz.func146 (by kernel_rfl)
instance : FnB Tryz.prog 147 := FnB.mk' Tryz.func147 (by kernel_rfl)
instance : FnB Tryz.prog 148 := FnB.mk' Tryz.func148 (by kernel_rfl)
instance : FnB Tryz.prog 149 := FnB.mk' Tryz.func149 (by kernel_rfl)
instance : FnB Tryz.prog 150 := FnB.mk' Tryz.func150 (by kernel_rfl)
instance : FnB Tryz.prog 154 := FnB.mk' Tryz.func154 (by kernel_rfl)
instance : FnB Tryz.prog 155 := FnB.mk' Tryz.func155 (by kernel_rfl)
instance : FnB Tryz.prog 156 := FnB.mk' Tryz.func156 (by kernel_rfl)
instance : FnB Tryz.prog 157 := FnB.mk' Tryz.func157 (by kernel_rfl)
instance : FnB Tryz.prog 158 := FnB.mk' Tryz.func158 (by kernel_rfl)
instance : FnB Tryz.prog 159 := FnB.mk' Tryz.func159 (by kernel_rfl)
instance : FnB Tryz.prog 160 := FnB.mk' Tryz.func160 (by kernel_rfl)
instance : FnB Tryz.prog 161 := FnB.mk' Tryz.func161 (by kernel_rfl)
instance : FnB Tryz.prog 162 := FnB.mk' Tryz.func162 (by kernel_rfl)
instance : FnB Tryz.prog 163 := FnB.mk' Tryz.func163 (by kernel_rfl)
instance : FnB Tryz.prog 164 := FnB.mk' Tryz.func164 (by kernel_rfl)
instance : FnB Tryz.prog 165 := FnB.mk' Tryz.func165 (by kernel_rfl)
instance : FnB Tryz.prog 166 := FnB.mk' Tryz.func166 (by kernel_rfl)
instance : FnB Tryz.prog 167 := FnB.mk' Tryz.func167 (by kernel_rfl)
instance : FnB Tryz.prog 168 := FnB.mk' Tryz.func168 (by kernel_rfl)
instance : FnB Tryz.prog 169 := FnB.mk' Tryz.func169 (by kernel_rfl)
instance : FnB Tryz.prog 170 := FnB.mk' Tryz.func170 (by kernel_rfl)
instance : FnB Tryz.prog 171 := FnB.mk' Tryz.func171 (by kernel_rfl)
instance : FnB Tryz.prog 172 := FnB.mk' Tryz.func172 (by kernel_rfl)
instance : FnB Tryz.prog 173 := FnB.mk' Tryz.func173 (by kernel_rfl)
instance : FnB Tryz.prog 174 := FnB.mk' Tryz.func174 (by kernel_rfl)
instance : FnB Tryz.prog 175 := FnB.mk' Tryz.func175 (by kernel_rfl)
instance : FnB Tryz.prog 176 := FnB.mk' Tryz.func176 (by kernel_rfl)
instance : FnB Tryz.prog 177 := FnB.mk' Tryz.func177 (by kernel_rfl)
instance : FnB Tryz.prog 178 := FnB.mk' Tryz.func178 (by kernel_rfl)
instance : FnB Tryz.prog 179 := FnB.mk' Tryz.func179 (by kernel_rfl)
instance : FnB Tryz.prog 180 := FnB.mk' Tryz.func180 (by kernel_rfl)
instance : FnB Tryz.prog 181 := FnB.mk' Tryz.func181 (by kernel_rfl)
instance : FnB Tryz.prog 182 := FnB.mk' Tryz.func182 (by kernel_rfl)
instance : FnB Tryz.prog 183 := FnB.mk' Tryz.func183 (by kernel_rfl)
instance : FnB Tryz.prog 184 := FnB.mk' Tryz.func184 (by kernel_rfl)
instance : FnB Tryz.prog 185 := FnB.mk' Tryz.func185 (by kernel_rfl)
instance : FnB Tryz.prog 186 := FnB.mk' Tryz.func186 (by kernel_rfl)
instance : FnB Tryz.prog 187 := FnB.mk' Tryz.func187 (by kernel_rfl)
instance : FnB Tryz.prog 188 := FnB.mk' Tryz.func188 (by kernel_rfl)
instance : FnB Tryz.prog 189 := FnB.mk' Tryz.func189 (by kernel_rfl)
instance : FnB Tryz.prog 190 := FnB.mk' Tryz.func190 (by kernel_rfl)
instance : FnB Tryz.prog 191 := FnB.mk' Tryz.func191 (by kernel_rfl)
instance : FnB Tryz.prog 192 := FnB.mk' Tryz.func192 (by kernel_rfl)
instance : FnB Tryz.prog 193 := FnB.mk' Tryz.func193 (by kernel_rfl)
instance : FnB Tryz.prog 194 := FnB.mk' Tryz.func194 (by kernel_rfl)
instance : FnB Tryz.prog 195 := FnB.mk' Tryz.func195 (by kernel_rfl)
instance : FnB Tryz.prog 196 := FnB.mk' Tryz.func196 (by kernel_rfl)
instance : FnB Tryz.prog 197 := FnB.mk' Tryz.func197 (by kernel_rfl)
instance : FnB Tryz.prog 198 := FnB.mk' Tryz.func198 (by kernel_rfl)
instance : FnB Tryz.prog 199 := FnB.mk' Tryz.func199 (by kernel_rfl)
instance : FnB Tryz.prog 200 := FnB.mk' Tryz.func200 (by kernel_rfl)
instance : FnB Tryz.prog 201 := FnB.mk' Tryz.func201 (by kernel_rfl)
instance : FnB Tryz.prog 202 := FnB.mk' Tryz.func202 (by kernel_rfl)
instance : FnB Tryz.prog 203 := FnB.mk' Tryz.func203 (by kernel_rfl)
instance : FnB Tryz.prog 204 := FnB.mk' Tryz.func204 (by kernel_rfl)
instance : FnB Tryz.prog 205 := FnB.mk' Tryz.func205 (by kernel_rfl)
instance : FnB Tryz.prog 206 := FnB.mk' Tryz.func206 (by kernel_rfl)
instance : FnB Tryz.prog 207 := FnB.mk' Tryz.func207 (by kernel_rfl)
instance : FnB Tryz.prog 208 := FnB.mk' Tryz.func208 (by kernel_rfl)
instance : FnB Tryz.prog 209 := FnB.mk' Tryz.func209 (by kernel_rfl)
instance : FnB Tryz.prog 210 := FnB.mk' Tryz.func210 (by kernel_rfl)
instance : FnB Tryz.prog 211 := FnB.mk' Tryz.func211 (by kernel_rfl)
instance : FnB Tryz.prog 212 := FnB.mk' Tryz.func212 (by kernel_rfl)
instance : FnB Tryz.prog 213 := FnB.mk' Tryz.func213 (by kernel_rfl)
instance : FnB Tryz.prog 214 := FnB.mk' Tryz.func214 (by kernel_rfl)
instance : FnB Tryz.prog 215 := FnB.mk' Tryz.func215 (by kernel_rfl)
instance : FnB Tryz.prog 216 := FnB.mk' Tryz.func216 (by kernel_rfl)
instance : FnB Tryz.prog 217 := FnB.mk' Tryz.func217 (by kernel_rfl)
instance : FnB Tryz.prog 218 := FnB.mk' Tryz.func218 (by kernel_rfl)
instance : FnB Tryz.prog 219 := FnB.mk' Tryz.func219 (by kernel_rfl)
instance : FnB Tryz.prog 220 := FnB.mk' Tryz.func220 (by kernel_rfl)
instance : FnB Tryz.prog 221 := FnB.mk' Tryz.func221 (by kernel_rfl)
instance : FnB Tryz.prog 222 := FnB.mk' Tryz.func222 (by kernel_rfl)
instance : FnB Tryz.prog 223 := FnB.mk' Tryz.func223 (by kernel_rfl)
instance : FnB Tryz.prog 224 := FnB.mk' Tryz.func224 (by kernel_rfl)
instance : FnB Tryz.prog 225 := FnB.mk' Tryz.func225 (by kernel_rfl)
instance : FnB Tryz.prog 226 := FnB.mk' Tryz.func226 (by kernel_rfl)
instance : FnB Tryz.prog 227 := FnB.mk' Tryz.func227 (by kernel_rfl)
instance : FnB Tryz.prog 228 := FnB.mk' Tryz.func228 (by kernel_rfl)
instance : FnB Tryz.prog 229 := FnB.mk' Tryz.func229 (by kernel_rfl)
instance : FnB Tryz.prog 230 := FnB.mk' Tryz.func230 (by kernel_rfl)
instance : FnB Tryz.prog 231 := FnB.mk' Tryz.func231 (by kernel_rfl)
instance : FnB Tryz.prog 232 := FnB.mk' Tryz.func232 (by kernel_rfl)
instance : FnB Tryz.prog 233 := FnB.mk' Tryz.func233 (by kernel_rfl)
instance : FnB Tryz.prog 234 := FnB.mk' Tryz.func234 (by kernel_rfl)
instance : FnB Tryz.prog 235 := FnB.mk' Tryz.func235 (by kernel_rfl)
instance : FnB Tryz.prog 236 := FnB.mk' Tryz.func236 (by kernel_rfl)
instance : FnB Tryz.prog 237 := FnB.mk' Tryz.func237 (by kernel_rfl)
instance : FnB Tryz.prog 238 := FnB.mk' Tryz.func238 (by kernel_rfl)
instance : FnB Tryz.prog 239 := FnB.mk' Tryz.func239 (by kernel_rfl)
instance : FnB Tryz.prog 240 := FnB.mk' Tryz.func240 (by kernel_rfl)
instance : FnB Tryz.prog 241 := FnB.mk' Tryz.func241 (by kernel_rfl)
instance : FnB Tryz.prog 242 := FnB.mk' Tryz.func242 (by kernel_rfl)
instance : FnB Tryz.prog 243 := FnB.mk' Tryz.func243 (by kernel_rfl)
instance : FnB Tryz.prog 244 := FnB.mk' Tryz.func244 (by kernel_rfl)
instance : FnB Tryz.prog 245 := FnB.mk' Tryz.func245 (by kernel_rfl)
instance : FnB Tryz.prog 246 := FnB.mk' Tryz.func246 (by kernel_rfl)
instance : FnB Tryz.prog 247 := FnB.mk' Tryz.func247 (by kernel_rfl)
instance : FnB Tryz.prog 248 := FnB.mk' Tryz.func248 (by kernel_rfl)
instance : FnB Tryz.prog 249 := FnB.mk' Tryz.func249 (by kernel_rfl)
instance : FnB Tryz.prog 250 := FnB.mk' Tryz.func250 (by kernel_rfl)
instance : FnB Tryz.prog 251 := FnB.mk' Tryz.func251 (by kernel_rfl)
instance : FnB Tryz.prog 252 := FnB.mk' Tryz.func252 (by kernel_rfl)
instance : FnB Tryz.prog 253 := FnB.mk' Tryz.func253 (by kernel_rfl)
instance : FnB Tryz.prog 254 := FnB.mk' Tryz.func254 (by kernel_rfl)
instance : FnB Tryz.prog 255 := FnB.mk' Tryz.func255 (by kernel_rfl)
instance : FnB Tryz.prog 256 := FnB.mk' Tryz.func256 (by kernel_rfl)
instance : FnB Tryz.prog 257 := FnB.mk' Tryz.func257 (by kernel_rfl)
instance : FnB Tryz.prog 258 := FnB.mk' Tryz.func258 (by kernel_rfl)
instance : FnB Tryz.prog 259 := FnB.mk' Tryz.func259 (by kernel_rfl)
instance : FnB Tryz.prog 260 := FnB.mk' Tryz.func260 (by kernel_rfl)
instance : FnB Tryz.prog 261 := FnB.mk' Tryz.func261 (by kernel_rfl)
instance : FnB Tryz.prog 262 := FnB.mk' Tryz.func262 (by kernel_rfl)
instance : FnB Tryz.prog 263 := FnB.mk' Tryz.func263 (by kernel_rfl)
instance : FnB Tryz.prog 264 := FnB.mk' Tryz.func264 (by kernel_rfl)
instance : FnB Tryz.prog 265 := FnB.mk' Tryz.func265 (by kernel_rfl)
instance : FnB Tryz.prog 266 := FnB.mk' Tryz.func266 (by kernel_rfl)
instance : FnB Tryz.prog 267 := FnB.mk' Tryz.func267 (by kernel_rfl)
instance : FnB Tryz.prog 268 := FnB.mk' Tryz.func268 (by kernel_rfl)
instance : FnB Tryz.prog 269 := FnB.mk' Tryz.func269 (by kernel_rfl)
instance : FnB Tryz.prog 270 := FnB.mk' Tryz.func270 (by kernel_rfl)
instance : FnB Tryz.prog 271 := FnB.mk' Tryz.func271 (by kernel_rfl)
instance : FnB Tryz.prog 272 := FnB.mk' Tryz.func272 (by kernel_rfl)
instance : FnB Tryz.prog 273 := FnB.mk' Tryz.func273 (by kernel_rfl)
instance : FnB Tryz.prog 274 := FnB.mk' Tryz.func274 (by kernel_rfl)
instance : FnB Tryz.prog 275 := FnB.mk' Tryz.func275 (by kernel_rfl)
instance : FnB Tryz.prog 276 := FnB.mk' Tryz.func276 (by kernel_rfl)
instance : FnB Tryz.prog 277 := FnB.mk' Tryz.func277 (by kernel_rfl)
instance : FnB Tryz.prog 278 := FnB.mk' Tryz.func278 (by kernel_rfl)
instance : FnB Tryz.prog 279 := FnB.mk' Tryz.func279 (by kernel_rfl)
instance : FnB Tryz.prog 280 := FnB.mk' Tryz.func280 (by kernel_rfl)
instance : FnB Tryz.prog 281 := FnB.mk' Tryz.func281 (by kernel_rfl)
instance : FnB Tryz.prog 282 := FnB.mk' Tryz.func282 (by kernel_rfl)
instance : FnB Tryz.prog 283 := FnB.mk' Tryz.func283 (by kernel_rfl)
instance : FnB Tryz.prog 284 := FnB.mk' Tryz.func284 (by kernel_rfl)
instance : FnB Tryz.prog 285 := FnB.mk' Tryz.func285 (by kernel_rfl)
instance : FnB Tryz.prog 286 := FnB.mk' Tryz.func286 (by kernel_rfl)
instance : FnB Tryz.prog 287 := FnB.mk' Tryz.func287 (by kernel_rfl)
instance : FnB Tryz.prog 288 := FnB.mk' Tryz.func288 (by kernel_rfl)
instance : FnB Tryz.prog 289 := FnB.mk' Tryz.func289 (by kernel_rfl)
instance : FnB Tryz.prog 290 := FnB.mk' Tryz.func290 (by kernel_rfl)
instance : FnB Tryz.prog 291 := FnB.mk' Tryz.func291 (by kernel_rfl)
instance : FnB Tryz.prog 292 := FnB.mk' Tryz.func292 (by kernel_rfl)
instance : FnB Tryz.prog 293 := FnB.mk' Tryz.func293 (by kernel_rfl)
instance : FnB Tryz.prog 294 := FnB.mk' Tryz.func294 (by kernel_rfl)
instance : FnB Tryz.prog 295 := FnB.mk' Tryz.func295 (by kernel_rfl)
instance : FnB Tryz.prog 296 := FnB.mk' Tryz.func296 (by kernel_rfl)
instance : FnB Tryz.prog 297 := FnB.mk' Tryz.func297 (by kernel_rfl)
instance : FnB Tryz.prog 298 := FnB.mk' Tryz.func298 (by kernel_rfl)
instance : FnB Tryz.prog 299 := FnB.mk' Tryz.func299 (by kernel_rfl)
instance : FnB Tryz.prog 300 := FnB.mk' Tryz.func300 (by kernel_rfl)
instance : FnB Tryz.prog 301 := FnB.mk' Tryz.func301 (by kernel_rfl)
instance : FnB Tryz.prog 302 := FnB.mk' Tryz.func302 (by kernel_rfl)
instance : FnB Tryz.prog 303 := FnB.mk' Tryz.func303 (by kernel_rfl)
instance : FnB Tryz.prog 304 := FnB.mk' Tryz.func304 (by kernel_rfl)
instance : FnB Tryz.prog 305 := FnB.mk' Tryz.func305 (by kernel_rfl)
instance : FnB Tryz.prog 306 := FnB.mk' Tryz.func306 (by kernel_rfl)
instance : FnB Tryz.prog 307 := FnB.mk' Tryz.func307 (by kernel_rfl)
instance : FnB Tryz.prog 308 := FnB.mk' Tryz.func308 (by kernel_rfl)
instance : FnB Tryz.prog 309 := FnB.mk' Tryz.func309 (by kernel_rfl)
instance : FnB Tryz.prog 310 := FnB.mk' Tryz.func310 (by kernel_rfl)
instance : FnB Tryz.prog 311 := FnB.mk' Tryz.func311 (by kernel_rfl)
instance : FnB Tryz.prog 312 := FnB.mk' Tryz.func312 (by kernel_rfl)
instance : FnB Tryz.prog 313 := FnB.mk' Tryz.func313 (by kernel_rfl)
instance : FnB Tryz.prog 314 := FnB.mk' Tryz.func314 (by kernel_rfl)
instance : FnB Tryz.prog 315 := FnB.mk' Tryz.func315 (by kernel_rfl)
instance : FnB Tryz.prog 316 := FnB.mk' Tryz.func316 (by kernel_rfl)
instance : FnB Tryz.prog 317 := FnB.mk' Tryz.func317 (by kernel_rfl)
instance : FnB Tryz.prog 318 := FnB.mk' Tryz.func318 (by kernel_rfl)
instance : FnB Tryz.prog 319 := FnB.mk' Tryz.func319 (by kernel_rfl)
instance : FnB Tryz.prog 320 := FnB.mk' Tryz.func320 (by kernel_rfl)
instance : FnB Tryz.prog 321 := FnB.mk' Tryz.func321 (by kernel_rfl)
instance : FnB Tryz.prog 322 := FnB.mk' Tryz.func322 (by kernel_rfl)
instance : FnB Tryz.prog 342 := FnB.mk' Tryz.func342 (by kernel_rfl)
instance : FnB Tryz.prog 346 := FnB.mk' Tryz.func346 (by kernel_rfl)
instance : FnB Tryz.prog 347 := FnB.mk' Tryz.func347 (by kernel_rfl)
instance : FnB Tryz.prog 348 := FnB.mk' Tryz.func348 (by kernel_rfl)
instance : FnB Tryz.prog 349 := FnB.mk' Tryz.func349 (by kernel_rfl)
instance : FnB Tryz.prog 350 := FnB.mk' Tryz.func350 (by kernel_rfl)
instance : FnB Tryz.prog 351 := FnB.mk' Tryz.func351 (by kernel_rfl)
instance : FnB Tryz.prog 352 := FnB.mk' Tryz.func352 (by kernel_rfl)
instance : FnB Tryz.prog 353 := FnB.mk' Tryz.func353 (by kernel_rfl)
end Go.SL

/- The library's contracts that this claim leans on, laid at this dump by the kit's own tools (lay-shelf, lay-plain). -/
set_option linter.unusedVariables false
namespace Go.Proofs
open Go.Shelf
def Tryz.lays197_ren : Go.Shelf.Ren := ⟨fun | 197 => 63 | 260 => 102 | n => n, fun | 9 => 9 | 21 => 21 | 3 => 3 | 4 => 4 | 5 => 5 | 105 => 100 | 119 => 211 | 0 => 0 | 46 => 212 | 139 => 215 | 138 => 214 | n => n, fun | 3 => 1 | 4 => 2 | n => n⟩
theorem Tryz.lays197 : Go.Proofs.Lays.n197 Tryz.prog Tryz.lays197_ren := {
  mixed := by kernel_rfl
  f197 := Tryz.func63.trans (congrArg some (by kernel_rfl))
  f260 := Tryz.func102.trans (congrArg some (by kernel_rfl))
  t0 := Tryz.underlying0
  a0 := Tryz.isAgg0
  z0 := Tryz.sizeOf0
  v0 := Tryz.zeroValue0
  t3 := Tryz.underlying3
  a3 := Tryz.isAgg3
  z3 := Tryz.sizeOf3
  v3 := Tryz.zeroValue3
  t4 := Tryz.underlying4
  a4 := Tryz.isAgg4
  z4 := Tryz.sizeOf4
  v4 := Tryz.zeroValue4
  t5 := Tryz.underlying5
  a5 := Tryz.isAgg5
  z5 := Tryz.sizeOf5
  v5 := Tryz.zeroValue5
  t9 := Tryz.underlying9
  a9 := Tryz.isAgg9
  z9 := Tryz.sizeOf9
  v9 := Tryz.zeroValue9
  t21 := Tryz.underlying21
  a21 := Tryz.isAgg21
  z21 := Tryz.sizeOf21
  v21 := Tryz.zeroValue21
  t46 := Tryz.underlying212
  a46 := Tryz.isAgg212
  z46 := Tryz.sizeOf212
  v46 := Tryz.zeroValue212
  t105 := Tryz.underlying100
  a105 := Tryz.isAgg100
  z105 := Tryz.sizeOf100
  v105 := Tryz.zeroValue100
  t119 := Tryz.underlying211
  a119 := Tryz.isAgg211
  z119 := Tryz.sizeOf211
  t138 := Tryz.underlying214
  a138 := Tryz.isAgg214
  z138 := Tryz.sizeOf214
  v138 := Tryz.zeroValue214
  t139 := Tryz.underlying215
  a139 := Tryz.isAgg215
  z139 := Tryz.sizeOf215
  v139 := Tryz.zeroValue215
  g3 := by kernel_rfl
  g4 := by kernel_rfl }
open Go.RowKit Go.Lib in
/-- **unicode/utf8.DecodeRuneInString AT EVERY STRING.** (LAID: no walk: one application.) -/
theorem Tryz.utf8_DecodeRuneInString (s : ByteArray) (w : World) (hT : Lib.Utf8Tabs 1 2 w) :
    Calls Tryz.prog 63 #[.string s] w fun e w' => e = .returned (.tuple #[.int .i32 (Lib.decodeGo s).1, .int .i64 (Lib.decodeGo s).2]) ∧ Below w.heap.size w w' := Any.utf8_DecodeRuneInString Tryz.lays197 s w hT
def Tryz.laysNm223_ren : Go.Shelf.Ren := ⟨fun | 23 => 54 | n => n, fun | 22 => 31 | 3 => 3 | 4 => 4 | 0 => 0 | n => n, fun | n => n⟩
theorem Tryz.laysNm223 : Go.Proofs.Lays2.n23 Tryz.prog Tryz.laysNm223_ren := {
  mixed := by kernel_rfl
  f23 := Tryz.func54.trans (congrArg some (by kernel_rfl))
  t0 := Tryz.underlying0
  a0 := Tryz.isAgg0
  z0 := Tryz.sizeOf0
  v0 := Tryz.zeroValue0
  t3 := Tryz.underlying3
  a3 := Tryz.isAgg3
  z3 := Tryz.sizeOf3
  v3 := Tryz.zeroValue3
  t4 := Tryz.underlying4
  a4 := Tryz.isAgg4
  z4 := Tryz.sizeOf4
  v4 := Tryz.zeroValue4
  t22 := Tryz.underlying31
  a22 := Tryz.isAgg31
  z22 := Tryz.sizeOf31
  v22 := Tryz.zeroValue31
  i3 := by kernel_rfl }
open Go.RowKit Go.Lib Go.Sort in
/-- slices.Delete at []int: "Delete modifies s in place by removing the elements s[i:j], and returns the modified slice. Delete panics if j > len(s) or s[i:j] is not a valid slice of s. Delete is O(len(s)-i), so if many items must be deleted, it is better to make a single call deleting them all together than to delete one at a time. Delete zeroes the elements s[len(s)-(j-i):len(s)]. If the result is empty, it has the same nilness as s.": FOR i ≤ j ≤ len(s) IT RETURNS THE SLICE CUT TO len(s) - (j - i) ELEMENTS; ITS CELLS HOLD what stood ahead of i, what stood from j on, then j - i zero values; all else is as it was, but for the count of draws. IN THE WORDS OF slices.Sort's CONTRACT ('Holds', 'putRow'). It asks 'zs.length ≤ cap ≤ 2^63 - 1' (every slice's). (Outside i ≤ j ≤ len(s) it panics: no contract here.) (LAID: no walk: one application.) -/
theorem Tryz.slices_Delete_int (blk off cap i j : Nat) (zs : List Int) (w : World) (hH : Holds (Value.int .i64) w blk off zs.toArray) (hcap : zs.length ≤ cap) (hm : cap ≤ 9223372036854775807) (hij : i ≤ j) (hj : j ≤ zs.length) :
    Calls Tryz.prog 54 #[.slice (some ⟨blk, off, none⟩) zs.length cap, .int .i64 i, .int .i64 j] w fun e w' => e = .returned (.slice (some ⟨blk, off, none⟩) (zs.length - (j - i)) cap) ∧ ∃ q, w' = putRow (Value.int .i64) (Sort.ahead w q) blk off (zs.take i ++ zs.drop j ++ List.replicate (j - i) 0).toArray := Any.slices_Delete_int Tryz.laysNm223 blk off cap i j zs w hH hcap hm hij hj
def Tryz.laysNm221_ren : Go.Shelf.Ren := ⟨fun | 21 => 84 | 27 => 143 | 28 => 144 | 35 => 205 | 39 => 247 | n => n, fun | 22 => 31 | 3 => 3 | 4 => 4 | 0 => 0 | n => n, fun | n => n⟩
theorem Tryz.laysNm221 : Go.Proofs.Lays2.n21 Tryz.prog Tryz.laysNm221_ren := {
  mixed := by kernel_rfl
  f21 := Tryz.func84.trans (congrArg some (by kernel_rfl))
  f27 := Tryz.func143.trans (congrArg some (by kernel_rfl))
  f28 := Tryz.func144.trans (congrArg some (by kernel_rfl))
  f35 := Tryz.func205.trans (congrArg some (by kernel_rfl))
  f39 := Tryz.func247.trans (congrArg some (by kernel_rfl))
  t0 := Tryz.underlying0
  a0 := Tryz.isAgg0
  z0 := Tryz.sizeOf0
  v0 := Tryz.zeroValue0
  t3 := Tryz.underlying3
  a3 := Tryz.isAgg3
  z3 := Tryz.sizeOf3
  v3 := Tryz.zeroValue3
  t4 := Tryz.underlying4
  a4 := Tryz.isAgg4
  z4 := Tryz.sizeOf4
  v4 := Tryz.zeroValue4
  t22 := Tryz.underlying31
  a22 := Tryz.isAgg31
  z22 := Tryz.sizeOf31
  v22 := Tryz.zeroValue31
  i3 := by kernel_rfl }
end Go.Proofs

/- utf8.DecodeRuneInString; impl.letters and its iterator. -/
set_option linter.unusedVariables false
set_option linter.unusedSimpArgs false
namespace Go.SL
open Go.RowKit Go.Proofs
/-- The tables of unicode/utf8 lie as its text lays them. -/
def tabs (w : World) : Prop := Lib.Utf8Tabs 1 2 w
def dec (l : List UInt8) : Nat × Nat := Lib.decodeGo ⟨l.toArray⟩
theorem decode_c (l : List UInt8) : Spec Tryz.prog 63 [sv l] [tabs] [] (fun _ : Unit => .tuple #[.int .i32 ((dec l).1 : Nat), .int .i64 ((dec l).2 : Nat)]) (fun _ => []) (fun _ => True) :=
  Spec.ofBelow fun w hR => Tryz.utf8_DecodeRuneInString ⟨l.toArray⟩ w (hR _ List.mem_cons_self)
def b0 (l : List UInt8) (i : Nat) : Nat := (l.getD i 0).toNat
theorem get_b0 (l : List UInt8) (i : Nat) : ((⟨l.toArray⟩ : ByteArray).get! i).toNat = b0 l i := by
  simp [ByteArray.get!, b0, List.getD_eq_getElem?_getD]
  cases h : l[i]? <;> simp [h]
  rfl
theorem dec_eq {l : List UInt8} (h : 0 < l.length) : dec l = Lib.decodeN l.length (b0 l 0) (b0 l 1) (b0 l 2) (b0 l 3) := by
  unfold dec Lib.decodeGo
  rw [if_neg (by rw [sv_size]; omega), Lib.decode_at, sv_size]
  simp only [get_b0, Nat.sub_zero, Nat.zero_add]
theorem decodeN_pos (n b0 b1 b2 b3 : Nat) : 1 ≤ (Lib.decodeN n b0 b1 b2 b3).2 ∧ (Lib.decodeN n b0 b1 b2 b3).2 ≤ 4 := by
  unfold Lib.decodeN
  repeat' split
  all_goals simp
theorem decodeN_le (n b0 b1 b2 b3 : Nat) (hn : 0 < n) : (Lib.decodeN n b0 b1 b2 b3).2 ≤ n := by
  unfold Lib.decodeN
  repeat' split
  all_goals (simp only; omega)
theorem decodeN_rune (n b0 b1 b2 b3 : Nat) (h0 : b0 < 256) : (Lib.decodeN n b0 b1 b2 b3).1 ≤ 1114111 := by
  unfold Lib.decodeN
  repeat' split
  all_goals (simp only; omega)
theorem b0_lt (l : List UInt8) (i : Nat) : b0 l i < 256 := UInt8.toNat_lt _
theorem dec_bd {l : List UInt8} (h : 0 < l.length) : (1 ≤ (dec l).2 ∧ (dec l).2 ≤ 4 ∧ (dec l).2 ≤ l.length) ∧ (dec l).1 ≤ 1114111 := by
  rw [dec_eq h]
  exact ⟨⟨(decodeN_pos _ _ _ _ _).1, (decodeN_pos _ _ _ _ _).2, decodeN_le _ _ _ _ _ h⟩, decodeN_rune _ _ _ _ _ (b0_lt l 0)⟩
/-- Whether what was decoded is a letter. -/
def good (l : List UInt8) : Bool := !decide (((dec l).1 : Int) = 65533) || decide ((1 : Int) < ((dec l).2 : Int))
/-- What impl.letters hands out, at most so many. -/
def letsN : Nat → List UInt8 → List (Nat × Bool)
  | 0, _ => []
  | f + 1, l => match decide (0 < l.length) with
    | false => []
    | true => match good l with
      | true => ((dec l).1, true) :: letsN f (l.drop (dec l).2)
      | false => [((dec l).1, false)]
def lets (l : List UInt8) : List (Nat × Bool) := letsN l.length l
theorem letsN_more : ∀ (f g : Nat) (l : List UInt8), l.length ≤ f → l.length ≤ g → letsN f l = letsN g l
  | 0, 0, _, _, _ => rfl
  | 0, g + 1, l, h, _ => by
    have : l = [] := List.eq_nil_of_length_eq_zero (by omega)
    subst this
    rfl
  | f + 1, 0, l, _, h => by
    have : l = [] := List.eq_nil_of_length_eq_zero (by omega)
    subst this
    rfl
  | f + 1, g + 1, l, h, h' => by
    simp only [letsN]
    cases hl : decide (0 < l.length) with
    | false => rfl
    | true =>
      rw [decide_eq_true_eq] at hl
      simp only
      cases good l with
      | false => rfl
      | true =>
        have hd := (dec_bd hl).1
        rw [letsN_more f g (l.drop (dec l).2) (by simp; omega) (by simp; omega)]
theorem lets_nil : lets [] = [] := rfl
theorem lets_ok {l : List UInt8} (h : 0 < l.length) (hg : good l = true) : lets l = ((dec l).1, true) :: lets (l.drop (dec l).2) := by
  have hd := (dec_bd h).1
  obtain ⟨n, hn⟩ : ∃ n, l.length = n + 1 := ⟨l.length - 1, by omega⟩
  unfold lets
  rw [hn]
  simp only [letsN, decide_eq_true h, hg]
  rw [letsN_more n _ (l.drop (dec l).2) (by simp; omega) (Nat.le_refl _)]
theorem lets_bad {l : List UInt8} (h : 0 < l.length) (hg : good l = false) : lets l = [((dec l).1, false)] := by
  obtain ⟨n, hn⟩ : ∃ n, l.length = n + 1 := ⟨l.length - 1, by omega⟩
  unfold lets
  rw [hn]
  simp only [letsN, decide_eq_true h, hg]
def vLet (q : Nat × Bool) : List Value := [.int .i64 (q.1 : Nat), .bool q.2]
set_option maxRecDepth 100000 in
set_option maxHeartbeats 4000000 in
theorem lettersIt (b : Nat) (l : List UInt8) : IterSpec Tryz.prog 62 [.pointer (some ⟨b, 0, none⟩)] [tabs] [blk b (.cells #[sv l] 9 (0, 0))] ((lets l).map vLet) := by
  refine IterSpec.mk' Tryz.func62 rfl Tryz.ntmps62 rfl ?_
  intro w0 O y Iy Ix hR hY
  have hr : ∀ k, Rd w0 O [Iy k] tabs := fun k => (hR k).h _ List.mem_cons_self
  clear hR
  have hr0 := hr 0
  repeat' (first | ((with_reducible apply iOJ); first | ((with_reducible apply iOp); refine OJ.p ?_) | with_reducible apply OJ.nil | ((with_reducible apply iOg); first | refine OJ.guardY ?_ | refine OJ.guardN ?_ | refine OJ.guardNd ?_ | refine OJ.guardU ?_ | refine OJ.guardS (fun _ => ?_) (fun _ => ?_) | fail) | ((with_reducible apply iOstore); first | (refine OJ.as AS.store ?_; rintro _ _ rfl) | (refine OJ.as AS.storeA ?_; rintro _ _ rfl) | (refine OJ.as AS.storeAV ?_; rintro _ _ rfl) | (refine OJ.as AS.storeE ?_; rintro _ _ rfl) | (refine OJ.as AS.storeEA ?_; rintro _ _ rfl) | fail) | ((with_reducible apply iOcall); first | (refine OJ.as AS.append1 ?_; rintro _ _ rfl) | (refine OJ.as AS.append ?_; rintro _ _ rfl) | fail) | ((with_reducible apply iObox); first | (refine OJ.as AS.box1 ?_; rintro _ _ ⟨_, rfl, rfl⟩) | (refine OJ.as AS.boxA ?_; rintro _ _ ⟨_, rfl, rfl⟩) | fail) | ((with_reducible apply iOalloc); first | (refine OJ.as AS.alloc ?_; rintro _ _ ⟨_, rfl, rfl⟩) | fail) | ((with_reducible apply iObuildSlice); first | (refine OJ.as AS.buildSlice ?_; rintro _ _ ⟨_, rfl, rfl⟩) | fail) | ((with_reducible apply iOmakeSlice); first | (refine OJ.as AS.makeSlice ?_; rintro _ _ rfl) | fail) | ((with_reducible apply iOmakeMap); first | (refine OJ.as AS.makeMap ?_; rintro _ _ ⟨_, rfl, rfl⟩) | fail) | ((with_reducible apply iOmapEntry); first | (refine OJ.as AS.mapEntry ?_; rintro _ _ ⟨_, _, rfl, rfl⟩) | fail) | ((with_reducible apply iOentryStore); first | (refine OJ.as AS.entryStore ?_; rintro _ _ rfl) | fail) | refine OJ.unboxP fun _ => ?_ | fail) | ((with_reducible apply iJ); first | refine J.seq ?_ | refine J.region ?_ | refine J.block ?_ | refine J.skip ?_ | refine J.exit ?_ | refine J.condT ?_ | refine J.condF ?_ | refine J.cond (fun _ => ?_) (fun _ => ?_) | fail) | ((with_reducible apply iJK); first | refine JK.code ?_ | refine JK.blk ?_ | refine JK.loop ?_ | refine JK.begin ?_ | refine JK.more ?_ | fail) | ((with_reducible apply iEnt); first | exact Ent.nil | ((with_reducible apply iERow); refine Ent.row ?_ ?_) | ((with_reducible apply iEBox); first | refine Ent.box ?_ ?_ | refine Ent.box2 ?_ ?_) | ((with_reducible apply iEBlk); refine Ent.blk ?_ ?_) | ((with_reducible apply iEPure); refine Ent.pure ?_ ?_) | ((with_reducible apply iERdR); first | refine Ent.rdR ?_ | refine Ent.any ?_ | fail) | refine Ent.any ?_ | with_reducible exact Ent.refl | fail) | ((with_reducible apply iEq); with_reducible rfl) | fail)
  clear hr0
  refine J.loopW (fun (m : List UInt8) (n : Nat) _ => ∃ done : List (Nat × Bool), done.length = n ∧ lets l = done ++ lets m) (fun m => m.length)
    (fun m n _ => [(0, yv y), (1, .pointer (some ⟨b, 0, none⟩))]) (fun m n _ => [Iy n, blk b (.cells #[sv m] 9 (0, 0))]) l 0 undef ⟨[], rfl, rfl⟩ ?_
  rintro m n u ⟨done, hn, hm⟩ ih
  have hr1 := hr n
  have hx : ∀ q : Bool, 0 < m.length → q = good m → ((lets l).map vLet)[n]? = some (vLet ((dec m).1, q)) := fun q h1 hq => by
    rw [hq, hm, ← hn]
    cases hg : good m with
    | true => rw [lets_ok h1 hg]; simp
    | false => rw [lets_bad h1 hg]; simp
  have hd := @dec_bd m
  have hlen : ((lets l).map vLet).length = n + (lets m).length := by rw [hm]; simp [hn]
  repeat' (first | ((with_reducible apply iOJ); first | ((with_reducible apply iOp); refine OJ.p ?_) | with_reducible apply OJ.nil | ((with_reducible apply iOg); first | refine OJ.guardY ?_ | refine OJ.guardN ?_ | refine OJ.guardNd ?_ | refine OJ.guardU ?_ | refine OJ.guardS (fun _ => ?_) (fun _ => ?_) | fail) | ((with_reducible apply iOstore); first | (refine OJ.as AS.store ?_; rintro _ _ rfl) | (refine OJ.as AS.storeA ?_; rintro _ _ rfl) | (refine OJ.as AS.storeAV ?_; rintro _ _ rfl) | (refine OJ.as AS.storeE ?_; rintro _ _ rfl) | (refine OJ.as AS.storeEA ?_; rintro _ _ rfl) | fail) | ((with_reducible apply iOcall); first | (refine OJ.as AS.append1 ?_; rintro _ _ rfl) | (refine OJ.as AS.append ?_; rintro _ _ rfl) | (refine OJ.as (AS.call0 (decode_c m)) ?_; rotate_right; rintro _ _ ⟨y, hy, rfl, rfl⟩) | (refine OJ.as (AS.yield (hY _ _ (hx _ (by omega) ?_))) ?_; rotate_right; rintro _ _ (⟨rfl, rfl⟩ | ⟨rfl, rfl⟩)) | fail) | ((with_reducible apply iObox); first | (refine OJ.as AS.box1 ?_; rintro _ _ ⟨_, rfl, rfl⟩) | (refine OJ.as AS.boxA ?_; rintro _ _ ⟨_, rfl, rfl⟩) | fail) | ((with_reducible apply iOalloc); first | (refine OJ.as AS.alloc ?_; rintro _ _ ⟨_, rfl, rfl⟩) | fail) | ((with_reducible apply iObuildSlice); first | (refine OJ.as AS.buildSlice ?_; rintro _ _ ⟨_, rfl, rfl⟩) | fail) | ((with_reducible apply iOmakeSlice); first | (refine OJ.as AS.makeSlice ?_; rintro _ _ rfl) | fail) | ((with_reducible apply iOmakeMap); first | (refine OJ.as AS.makeMap ?_; rintro _ _ ⟨_, rfl, rfl⟩) | fail) | ((with_reducible apply iOmapEntry); first | (refine OJ.as AS.mapEntry ?_; rintro _ _ ⟨_, _, rfl, rfl⟩) | fail) | ((with_reducible apply iOentryStore); first | (refine OJ.as AS.entryStore ?_; rintro _ _ rfl) | fail) | refine OJ.unboxP fun _ => ?_ | fail) | ((with_reducible apply iJ); first | refine J.seq ?_ | refine J.region ?_ | refine J.block ?_ | refine J.skip ?_ | refine J.exit ?_ | refine J.condT ?_ | refine J.condF ?_ | refine J.cond (fun _ => ?_) (fun _ => ?_) | refine J.ret (iendsX n (Ent.any Ent.nil)) | refine J.ret (iends ?_) | fail) | ((with_reducible apply iJK); first | refine JK.code ?_ | refine JK.blk ?_ | refine JK.loop ?_ | refine JK.begin ?_ | refine JK.more ?_ | refine JK.fin (iends ?_) | fail) | ((with_reducible apply iJL); first | refine JL.use (ih (m.drop (dec m).2) (n + 1) undef ⟨done ++ [((dec m).1, true)], ?_, ?_⟩ ?_) | fail) | ((with_reducible apply iEnt); first | exact Ent.nil | ((with_reducible apply iERow); refine Ent.row ?_ ?_) | ((with_reducible apply iEBox); first | refine Ent.box ?_ ?_ | refine Ent.box2 ?_ ?_) | ((with_reducible apply iEBlk); refine Ent.blk ?_ ?_) | ((with_reducible apply iEPure); refine Ent.pure ?_ ?_) | ((with_reducible apply iERdR); first | refine Ent.rdR ?_ | refine Ent.any ?_ | fail) | refine Ent.any ?_ | with_reducible exact Ent.refl | fail) | ((with_reducible apply iEq); with_reducible rfl) | fail)
  all_goals try clear ih hY hr hr1
  all_goals first
    | (show (_ : Bool) = _; simp [good, *]; done)
    | (show (_ : Bool) = decide _; simp [good, *]; done)
    | (show Decidable.decide _ = _; simp [good, *]; done)
    | (have h0 := (hd (by omega)).1; simp; omega)
    | (simp [hn]; done)
    | (have hg : good m = true := (by simp [good, *]); rw [hm, lets_ok (by omega) hg]; simp; done)
    | (by_cases h0 : 0 < m.length
       · have hg : good m = false := by
           simp only [good]
           rw [decide_eq_true (by first | assumption | omega), decide_eq_false (by first | assumption | omega)]
           rfl
         have e : ((lets l).map vLet).length = n + 1 := by rw [hlen, lets_bad h0 hg]; rfl
         rw [e]
         exact Ent.any Ent.nil
       · exfalso; omega)
    | (have e : ((lets l).map vLet).length = n := by rw [hlen, List.eq_nil_of_length_eq_zero (l := m) (by omega)]; rfl
       rw [e]
       exact Ent.any Ent.nil)
end Go.SL

/- impl.letters, impl.Utf8Get. -/
set_option linter.unusedVariables false
set_option linter.unusedSimpArgs false
namespace Go.SL
open Go.RowKit Go.Proofs
instance : EncN 3 eInt := ⟨trivial⟩
set_option maxRecDepth 100000 in
set_option maxHeartbeats 4000000 in
theorem letters_c (l : List UInt8) : Spec Tryz.prog 31 [sv l] [] [] (fun b : Nat => .func (.func 62) #[] #[.pointer (some ⟨b, 0, none⟩)]) (fun b => [blk b (.cells #[sv l] 9 (0, 0))]) (fun _ => True) := by
  refine Spec.mk Tryz.func31 rfl Tryz.ntmps31 rfl ?_
  intro w0 O hR hS0; clear hR hS0
  repeat' (first | ((with_reducible apply iOJ); first | ((with_reducible apply iOp); refine OJ.p ?_) | with_reducible apply OJ.nil | ((with_reducible apply iOg); first | refine OJ.guardY ?_ | refine OJ.guardN ?_ | refine OJ.guardNd ?_ | refine OJ.guardU ?_ | refine OJ.guardS (fun _ => ?_) (fun _ => ?_) | fail) | ((with_reducible apply iOstore); first | (refine OJ.as AS.store ?_; rintro _ _ rfl) | (refine OJ.as AS.storeA ?_; rintro _ _ rfl) | (refine OJ.as AS.storeAV ?_; rintro _ _ rfl) | (refine OJ.as AS.storeE ?_; rintro _ _ rfl) | (refine OJ.as AS.storeEA ?_; rintro _ _ rfl) | fail) | ((with_reducible apply iOcall); first | (refine OJ.as AS.append1 ?_; rintro _ _ rfl) | (refine OJ.as AS.append ?_; rintro _ _ rfl) | fail) | ((with_reducible apply iObox); first | (refine OJ.as AS.box1 ?_; rintro _ _ ⟨_, rfl, rfl⟩) | (refine OJ.as AS.boxA ?_; rintro _ _ ⟨_, rfl, rfl⟩) | fail) | ((with_reducible apply iOalloc); first | (refine OJ.as AS.alloc ?_; rintro _ _ ⟨_, rfl, rfl⟩) | fail) | ((with_reducible apply iObuildSlice); first | (refine OJ.as AS.buildSlice ?_; rintro _ _ ⟨_, rfl, rfl⟩) | fail) | ((with_reducible apply iOmakeSlice); first | (refine OJ.as AS.makeSlice ?_; rintro _ _ rfl) | fail) | ((with_reducible apply iOmakeMap); first | (refine OJ.as AS.makeMap ?_; rintro _ _ ⟨_, rfl, rfl⟩) | fail) | ((with_reducible apply iOmapEntry); first | (refine OJ.as AS.mapEntry ?_; rintro _ _ ⟨_, _, rfl, rfl⟩) | fail) | ((with_reducible apply iOentryStore); first | (refine OJ.as AS.entryStore ?_; rintro _ _ rfl) | fail) | refine OJ.unboxP fun _ => ?_ | fail) | ((with_reducible apply iJ); first | refine J.seq ?_ | refine J.region ?_ | refine J.block ?_ | refine J.skip ?_ | refine J.exit ?_ | refine J.condT ?_ | refine J.condF ?_ | refine J.cond (fun _ => ?_) (fun _ => ?_) | refine J.ret (ends _ trivial rfl ?_) | fail) | ((with_reducible apply iJK); first | refine JK.code ?_ | refine JK.blk ?_ | refine JK.loop ?_ | refine JK.begin ?_ | refine JK.more ?_ | fail) | ((with_reducible apply iEnt); first | exact Ent.nil | ((with_reducible apply iERow); refine Ent.row ?_ ?_) | ((with_reducible apply iEBox); first | refine Ent.box ?_ ?_ | refine Ent.box2 ?_ ?_) | ((with_reducible apply iEBlk); refine Ent.blk ?_ ?_) | ((with_reducible apply iEPure); refine Ent.pure ?_ ?_) | ((with_reducible apply iERdR); first | refine Ent.rdR ?_ | refine Ent.any ?_ | fail) | refine Ent.any ?_ | with_reducible exact Ent.refl | fail) | ((with_reducible apply iEq); with_reducible rfl) | fail)
def getI : List Int → List (Nat × Bool) → Option (List Int)
  | acc, [] => some acc
  | acc, q :: r => match (!q.2) || decide ((acc.length : Int) = 80) with
    | true => none
    | false => getI (acc ++ [(q.1 : Int)]) r
def accK (xs : List (Nat × Bool)) (k : Nat) : List Int := (xs.take k).map fun q => (q.1 : Int)
def iGet (l : List UInt8) : Option (List Int) := getI [] (lets l)
theorem letsN_len : ∀ (f : Nat) (l : List UInt8), (letsN f l).length ≤ f
  | 0, _ => Nat.le_refl _
  | f + 1, l => by
    simp only [letsN]
    split
    · simp
    · split
      · have := letsN_len f (l.drop (dec l).2); simp; omega
      · simp
set_option maxRecDepth 100000 in
set_option maxHeartbeats 4000000 in
theorem iGet_c (l : List UInt8) (hl : l.length ≤ 10000000) : Spec Tryz.prog 9 [sv l] [tabs] [] (fun u : Value => .tuple #[u, .bool (iGet l).isSome]) (fun u => [row eInt 3 u ((iGet l).getD [])]) (fun _ => True) := by
  refine Spec.mkM Tryz.func9 rfl Tryz.ntmps9 rfl ?_
  intro w0 O hR hS0
  have hr := hR _ List.mem_cons_self; clear hR hS0
  have hn : (lets l).length ≤ 10000000 := Nat.le_trans (letsN_len _ _) hl
  obtain ⟨g, hg⟩ : ∃ g, iGet l = g := ⟨_, rfl⟩
  rw [hg]
  repeat' (first | ((with_reducible apply iOJ); first | ((with_reducible apply iOp); refine OJ.p ?_) | with_reducible apply OJ.nil | ((with_reducible apply iOg); first | refine OJ.guardY ?_ | refine OJ.guardN ?_ | refine OJ.guardNd ?_ | refine OJ.guardU ?_ | refine OJ.guardS (fun _ => ?_) (fun _ => ?_) | fail) | ((with_reducible apply iOstore); first | (refine OJ.as AS.store ?_; rintro _ _ rfl) | (refine OJ.as AS.storeA ?_; rintro _ _ rfl) | (refine OJ.as AS.storeAV ?_; rintro _ _ rfl) | (refine OJ.as AS.storeE ?_; rintro _ _ rfl) | (refine OJ.as AS.storeEA ?_; rintro _ _ rfl) | fail) | ((with_reducible apply iOcall); first | (refine OJ.as AS.append1 ?_; rintro _ _ rfl) | (refine OJ.as AS.append ?_; rintro _ _ rfl) | (refine OJ.as (AS.call1 (letters_c l)) ?_; rotate_right; rintro _ _ ⟨y, hy, rfl, rfl⟩) | fail) | ((with_reducible apply iObox); first | (refine OJ.as AS.box1 ?_; rintro _ _ ⟨_, rfl, rfl⟩) | (refine OJ.as AS.boxA ?_; rintro _ _ ⟨_, rfl, rfl⟩) | fail) | ((with_reducible apply iOalloc); first | (refine OJ.as AS.alloc ?_; rintro _ _ ⟨_, rfl, rfl⟩) | fail) | ((with_reducible apply iObuildSlice); first | (refine OJ.as AS.buildSlice ?_; rintro _ _ ⟨_, rfl, rfl⟩) | fail) | ((with_reducible apply iOmakeSlice); first | (refine OJ.as AS.makeSlice ?_; rintro _ _ rfl) | fail) | ((with_reducible apply iOmakeMap); first | (refine OJ.as AS.makeMap ?_; rintro _ _ ⟨_, rfl, rfl⟩) | fail) | ((with_reducible apply iOmapEntry); first | (refine OJ.as AS.mapEntry ?_; rintro _ _ ⟨_, _, rfl, rfl⟩) | fail) | ((with_reducible apply iOentryStore); first | (refine OJ.as AS.entryStore ?_; rintro _ _ rfl) | fail) | refine OJ.unboxP fun _ => ?_ | fail) | ((with_reducible apply iJ); first | refine J.seq ?_ | refine J.region ?_ | refine J.block ?_ | refine J.skip ?_ | refine J.exit ?_ | refine J.condT ?_ | refine J.condF ?_ | refine J.cond (fun _ => ?_) (fun _ => ?_) | fail) | ((with_reducible apply iJK); first | refine JK.code ?_ | refine JK.blk ?_ | refine JK.loop ?_ | refine JK.begin ?_ | refine JK.more ?_ | fail) | ((with_reducible apply iEnt); first | exact Ent.nil | ((with_reducible apply iERow); refine Ent.row ?_ ?_) | ((with_reducible apply iEBox); first | refine Ent.box ?_ ?_ | refine Ent.box2 ?_ ?_) | ((with_reducible apply iEBlk); refine Ent.blk ?_ ?_) | ((with_reducible apply iEPure); refine Ent.pure ?_ ?_) | ((with_reducible apply iERdR); first | refine Ent.rdR ?_ | refine Ent.any ?_ | fail) | refine Ent.any ?_ | with_reducible exact Ent.refl | fail) | ((with_reducible apply iEq); with_reducible rfl) | fail)
  rename_i b2 b3 b4
  refine J.range (fun k => [boxR b4 31 eInt 3 (accK (lets l) k), blk b3 (.cells #[.bool false] 4 (0, 0)), blk b2 (.cells #[.slice none 0 0] 31 (0, 0)), pureR (g = getI (accK (lets l) k) ((lets l).drop k))])
    (fun _ c => [blk b3 (.cells #[.bool false] 4 (0, 0)), blk b2 (.cells #[.slice none 0 0] 31 (0, 0)), pureR (c = .ret ∧ g = none)]) (lettersIt y l) (fun k => ⟨fun R h => by rw [List.mem_singleton.1 h]; exact Rd.base hr⟩)
    (fun a ha => by obtain ⟨s, _, rfl⟩ := List.mem_map.1 ha; rfl) ?_ ?_ ?_ (hL := by refine Ent.blkS ?_; refine Ent.box2 ?_ ?_; refine Ent.blkS ?_; refine Ent.blkS ?_; exact Ent.pure Ent.nil hg.symm; rfl)
  · intro l' rc fr k a ha
    obtain ⟨s, hs, rfl⟩ : ∃ s, (lets l)[k]? = some s ∧ a = vLet s := by
      rw [List.getElem?_map] at ha
      obtain ⟨s, h1, h2⟩ := Option.map_eq_some_iff.1 ha
      exact ⟨s, h1, h2.symm⟩
    have hk := (List.getElem?_eq_some_iff.1 hs).1
    refine J.pureAt fun hm => ?_
    have hal : (accK (lets l) k).length ≤ 10000000 := by simp only [accK, List.length_map, List.length_take]; omega
    have hdr : (lets l).drop k = s :: (lets l).drop (k + 1) := by rw [List.drop_eq_getElem_cons hk, (List.getElem?_eq_some_iff.1 hs).2]
    have hac : accK (lets l) (k + 1) = accK (lets l) k ++ [(s.1 : Int)] := by simp only [accK, List.take_add_one, hs, List.map_append]; rfl
    rw [hdr] at hm
    repeat' (first | ((with_reducible apply iOJ); first | ((with_reducible apply iOp); refine OJ.p ?_) | with_reducible apply OJ.nil | ((with_reducible apply iOg); first | refine OJ.guardY ?_ | refine OJ.guardN ?_ | refine OJ.guardNd ?_ | refine OJ.guardU ?_ | refine OJ.guardS (fun _ => ?_) (fun _ => ?_) | fail) | ((with_reducible apply iOstore); first | (refine OJ.as AS.store ?_; rintro _ _ rfl) | (refine OJ.as AS.storeA ?_; rintro _ _ rfl) | (refine OJ.as AS.storeAV ?_; rintro _ _ rfl) | (refine OJ.as AS.storeE ?_; rintro _ _ rfl) | (refine OJ.as AS.storeEA ?_; rintro _ _ rfl) | fail) | ((with_reducible apply iOcall); first | (refine OJ.as AS.append1 ?_; rintro _ _ rfl) | (refine OJ.as AS.append ?_; rintro _ _ rfl) | fail) | ((with_reducible apply iObox); first | (refine OJ.as AS.box1 ?_; rintro _ _ ⟨_, rfl, rfl⟩) | (refine OJ.as AS.boxA ?_; rintro _ _ ⟨_, rfl, rfl⟩) | fail) | ((with_reducible apply iOalloc); first | (refine OJ.as AS.alloc ?_; rintro _ _ ⟨_, rfl, rfl⟩) | fail) | ((with_reducible apply iObuildSlice); first | (refine OJ.as AS.buildSlice ?_; rintro _ _ ⟨_, rfl, rfl⟩) | fail) | ((with_reducible apply iOmakeSlice); first | (refine OJ.as AS.makeSlice ?_; rintro _ _ rfl) | fail) | ((with_reducible apply iOmakeMap); first | (refine OJ.as AS.makeMap ?_; rintro _ _ ⟨_, rfl, rfl⟩) | fail) | ((with_reducible apply iOmapEntry); first | (refine OJ.as AS.mapEntry ?_; rintro _ _ ⟨_, _, rfl, rfl⟩) | fail) | ((with_reducible apply iOentryStore); first | (refine OJ.as AS.entryStore ?_; rintro _ _ rfl) | fail) | refine OJ.unboxP fun _ => ?_ | fail) | ((with_reducible apply iJ); first | refine J.seq ?_ | refine J.region ?_ | refine J.block ?_ | refine J.skip ?_ | refine J.exit ?_ | refine J.condT ?_ | refine J.condF ?_ | refine J.cond (fun _ => ?_) (fun _ => ?_) | refine J.retR ?_ | fail) | ((with_reducible apply iJK); first | refine JK.code ?_ | refine JK.blk ?_ | refine JK.loop ?_ | refine JK.begin ?_ | refine JK.more ?_ | fail) | ((with_reducible apply iEnt); first | exact Ent.nil | ((with_reducible apply iERow); refine Ent.row ?_ ?_) | ((with_reducible apply iEBox); first | refine Ent.box ?_ ?_ | refine Ent.box2 ?_ ?_) | ((with_reducible apply iEBlk); refine Ent.blk ?_ ?_) | ((with_reducible apply iEPure); refine Ent.pure ?_ ?_) | ((with_reducible apply iERdR); first | refine Ent.rdR ?_ | refine Ent.any ?_ | fail) | refine Ent.any ?_ | with_reducible exact Ent.refl | fail) | ((with_reducible apply iEq); with_reducible rfl) | fail)
    all_goals first
      | (refine ⟨rfl, ?_⟩; rw [hm]; simp [getI, *]; done)
      | exact hac.symm
      | (rw [hm, hac]; simp [getI, *]; done)
  · intro D
    refine JK.pureAt fun hm => ?_
    obtain rfl : g = some (accK (lets l) ((lets l).map vLet).length) := by rw [hm, List.length_map, List.drop_length]; rfl
    repeat' (first | ((with_reducible apply iOJ); first | ((with_reducible apply iOp); refine OJ.p ?_) | with_reducible apply OJ.nil | ((with_reducible apply iOg); first | refine OJ.guardY ?_ | refine OJ.guardN ?_ | refine OJ.guardNd ?_ | refine OJ.guardU ?_ | refine OJ.guardS (fun _ => ?_) (fun _ => ?_) | fail) | ((with_reducible apply iOstore); first | (refine OJ.as AS.store ?_; rintro _ _ rfl) | (refine OJ.as AS.storeA ?_; rintro _ _ rfl) | (refine OJ.as AS.storeAV ?_; rintro _ _ rfl) | (refine OJ.as AS.storeE ?_; rintro _ _ rfl) | (refine OJ.as AS.storeEA ?_; rintro _ _ rfl) | fail) | ((with_reducible apply iOcall); first | (refine OJ.as AS.append1 ?_; rintro _ _ rfl) | (refine OJ.as AS.append ?_; rintro _ _ rfl) | fail) | ((with_reducible apply iObox); first | (refine OJ.as AS.box1 ?_; rintro _ _ ⟨_, rfl, rfl⟩) | (refine OJ.as AS.boxA ?_; rintro _ _ ⟨_, rfl, rfl⟩) | fail) | ((with_reducible apply iOalloc); first | (refine OJ.as AS.alloc ?_; rintro _ _ ⟨_, rfl, rfl⟩) | fail) | ((with_reducible apply iObuildSlice); first | (refine OJ.as AS.buildSlice ?_; rintro _ _ ⟨_, rfl, rfl⟩) | fail) | ((with_reducible apply iOmakeSlice); first | (refine OJ.as AS.makeSlice ?_; rintro _ _ rfl) | fail) | ((with_reducible apply iOmakeMap); first | (refine OJ.as AS.makeMap ?_; rintro _ _ ⟨_, rfl, rfl⟩) | fail) | ((with_reducible apply iOmapEntry); first | (refine OJ.as AS.mapEntry ?_; rintro _ _ ⟨_, _, rfl, rfl⟩) | fail) | ((with_reducible apply iOentryStore); first | (refine OJ.as AS.entryStore ?_; rintro _ _ rfl) | fail) | refine OJ.unboxP fun _ => ?_ | fail) | ((with_reducible apply iJ); first | refine J.seq ?_ | refine J.region ?_ | refine J.block ?_ | refine J.skip ?_ | refine J.exit ?_ | refine J.condT ?_ | refine J.condF ?_ | refine J.cond (fun _ => ?_) (fun _ => ?_) | refine J.retXM (ends _ trivial rfl ?_) | fail) | ((with_reducible apply iJK); first | refine JK.code ?_ | refine JK.blk ?_ | refine JK.loop ?_ | refine JK.begin ?_ | refine JK.more ?_ | fail) | ((with_reducible apply iEnt); first | exact Ent.nil | ((with_reducible apply iERow); refine Ent.row ?_ ?_) | ((with_reducible apply iEBox); first | refine Ent.box ?_ ?_ | refine Ent.box2 ?_ ?_) | ((with_reducible apply iEBlk); refine Ent.blk ?_ ?_) | ((with_reducible apply iEPure); refine Ent.pure ?_ ?_) | ((with_reducible apply iERdR); first | refine Ent.rdR ?_ | refine Ent.any ?_ | fail) | refine Ent.any ?_ | with_reducible exact Ent.refl | fail) | ((with_reducible apply iEq); with_reducible rfl) | fail)
    rfl
  · intro D j c
    refine J.pureAt fun hm => ?_
    obtain ⟨rfl, rfl⟩ := hm
    repeat' (first | ((with_reducible apply iOJ); first | ((with_reducible apply iOp); refine OJ.p ?_) | with_reducible apply OJ.nil | ((with_reducible apply iOg); first | refine OJ.guardY ?_ | refine OJ.guardN ?_ | refine OJ.guardNd ?_ | refine OJ.guardU ?_ | refine OJ.guardS (fun _ => ?_) (fun _ => ?_) | fail) | ((with_reducible apply iOstore); first | (refine OJ.as AS.store ?_; rintro _ _ rfl) | (refine OJ.as AS.storeA ?_; rintro _ _ rfl) | (refine OJ.as AS.storeAV ?_; rintro _ _ rfl) | (refine OJ.as AS.storeE ?_; rintro _ _ rfl) | (refine OJ.as AS.storeEA ?_; rintro _ _ rfl) | fail) | ((with_reducible apply iOcall); first | (refine OJ.as AS.append1 ?_; rintro _ _ rfl) | (refine OJ.as AS.append ?_; rintro _ _ rfl) | fail) | ((with_reducible apply iObox); first | (refine OJ.as AS.box1 ?_; rintro _ _ ⟨_, rfl, rfl⟩) | (refine OJ.as AS.boxA ?_; rintro _ _ ⟨_, rfl, rfl⟩) | fail) | ((with_reducible apply iOalloc); first | (refine OJ.as AS.alloc ?_; rintro _ _ ⟨_, rfl, rfl⟩) | fail) | ((with_reducible apply iObuildSlice); first | (refine OJ.as AS.buildSlice ?_; rintro _ _ ⟨_, rfl, rfl⟩) | fail) | ((with_reducible apply iOmakeSlice); first | (refine OJ.as AS.makeSlice ?_; rintro _ _ rfl) | fail) | ((with_reducible apply iOmakeMap); first | (refine OJ.as AS.makeMap ?_; rintro _ _ ⟨_, rfl, rfl⟩) | fail) | ((with_reducible apply iOmapEntry); first | (refine OJ.as AS.mapEntry ?_; rintro _ _ ⟨_, _, rfl, rfl⟩) | fail) | ((with_reducible apply iOentryStore); first | (refine OJ.as AS.entryStore ?_; rintro _ _ rfl) | fail) | refine OJ.unboxP fun _ => ?_ | fail) | ((with_reducible apply iJ); first | refine J.seq ?_ | refine J.region ?_ | refine J.block ?_ | refine J.skip ?_ | refine J.exit ?_ | refine J.condT ?_ | refine J.condF ?_ | refine J.cond (fun _ => ?_) (fun _ => ?_) | refine J.retXM (ends _ trivial rfl ?_) | fail) | ((with_reducible apply iJK); first | refine JK.code ?_ | refine JK.blk ?_ | refine JK.loop ?_ | refine JK.begin ?_ | refine JK.more ?_ | fail) | ((with_reducible apply iEnt); first | exact Ent.nil | ((with_reducible apply iERow); refine Ent.row ?_ ?_) | ((with_reducible apply iEBox); first | refine Ent.box ?_ ?_ | refine Ent.box2 ?_ ?_) | ((with_reducible apply iEBlk); refine Ent.blk ?_ ?_) | ((with_reducible apply iEPure); refine Ent.pure ?_ ?_) | ((with_reducible apply iERdR); first | refine Ent.rdR ?_ | refine Ent.any ?_ | fail) | refine Ent.any ?_ | with_reducible exact Ent.refl | fail) | ((with_reducible apply iEq); with_reducible rfl) | fail)
    rfl
end Go.SL

/- Rows of small numbers (bytes as numbers); bytes to texts. -/
set_option linter.unusedVariables false
set_option linter.unusedSimpArgs false
namespace Go.SL
open Go.RowKit
def eU8 : Enc Int where
  sz := 1
  f x := [.int .u8 x]
  d := 0
  dec
    | [.int .u8 x] => some x
    | _ => none
  pos := by decide
  len _ := rfl
  one x u hu := by rw [List.mem_singleton.1 hu]; rfl
  inv cs x h := by
    split at h
    · injection h with h; rw [h]
    · cases h
/-- Numbers as a text. -/
def txt (xs : List Int) : List UInt8 := xs.map fun n => UInt8.ofNat n.toNat
theorem push_all : ∀ (xs : List Int) (s : ByteArray), xs.foldl (fun r n => r.push (UInt8.ofNat n.toNat)) s = ⟨s.data ++ (txt xs).toArray⟩
  | [], s => by simp [txt]
  | x :: xs, s => by
    rw [List.foldl_cons, push_all xs]
    simp [txt, ByteArray.push]
theorem flat_u8 : ∀ (xs : List Int), xs.flatMap eU8.f = xs.map (Value.int .u8)
  | [] => rfl
  | x :: xs => by rw [List.flatMap_cons, flat_u8 xs]; rfl
theorem txt_len (xs : List Int) : (txt xs).length = xs.length := List.length_map ..
theorem txt_app (xs ys : List Int) : txt (xs ++ ys) = txt xs ++ txt ys := List.map_append ..
section
variable {P : Program} {x : Cx} {E : List (Nat × Value)} {L L' : List HP} {ty t t' e : TypeId} {y z c : Operand} {v u : Value}
theorem PS.text {xs : List Int} [hSl : SlT P t e] [hI : IntT P e .u8] [hD : StrT P t'] (hv : ev E y = some v := by rfl) (hr : autoParam (Rd x.w0 x.O L (rd eU8 v xs)) ARD.h._autoParam) : PS P x E L (.convert t t' y) ty (sv (txt xs)) := ⟨fun a w _ _ _ _ hE hS => by
  obtain ⟨A, cp, rfl, hc, _, hA⟩ := hr.h w hS
  have e1 : (convert t t' (.slice A xs.length cp)).run P w = .ok (sv (txt xs)) w := by
    rw [run_convert_bytes_string w t t' e A _ _ hSl.h hI.h hD.h]
    by_cases h0 : 0 < xs.length
    · obtain ⟨ad, rfl, hc⟩ := hA h0
      have hl := run_loadCells_list (P := P) w ad (xs.map (Value.int .u8)) (fun j u hu => hc j u (by rw [flat_u8]; exact hu))
      rw [List.length_map] at hl
      rw [run_bytesToString w ad _ cp xs hl, push_all]
      simp [sv]
    · have : xs = [] := List.length_eq_zero_iff.1 (by omega)
      subst this
      cases A with
      | none => rfl
      | some ad =>
        exact (run_bytesToString w ad 0 cp [] (run_loadCells_list (P := P) w ad [] (fun j u hu => by cases hu))).trans (by rw [push_all]; rfl)
  simp only [execOp, hE.ev hv]
  simp only [Sem.run_bind, e1, Result.andThen]
  rfl⟩
theorem Pick.u8Row {b n : Nat} {cs : Array Value} {xs : List Int} (hd : decs eU8 n cs.toList = some xs := by rfl) (hn : Nat.ble n 16777216 = true := by rfl) : Pick (blk b (.cells cs e (0, 0)) :: L) (SL.row eU8 e (.slice (some ⟨b, 0, none⟩) n n) xs) L := ⟨fun g hg => by
  obtain ⟨h1, h2, d, rfl, hb, hL⟩ := hg
  obtain ⟨hl, hf⟩ := decs_eq _ _ _ hd
  exact ⟨h1, h2, d, rfl, row_blk hf.symm hl (by have := Nat.le_of_ble_eq_true hn; simp [maxLen]; omega) rfl hb, hL⟩⟩
theorem Pick.u8Nil : Pick L (SL.row eU8 e (.slice none 0 0) []) L := ⟨fun g hg => ⟨fun _ => none, g, fun _ => .inl rfl, rfl, ⟨by simp, .inl ⟨rfl, rfl, rfl⟩⟩, hg⟩⟩
/-- Values of one cell each. -/
structure AllOne (x : Cx) (L : List HP) (vs : List Value) : Prop where
  h : ∀ w, SAT x.w0 x.O L w → ∀ u ∈ vs, u.oneCell' = true
theorem AllOne.nil : AllOne x L [] := ⟨fun _ _ _ h => by cases h⟩
theorem AllOne.cons {us : List Value} (h : One x L u) (ht : AllOne x L us) : AllOne x L (u :: us) := ⟨fun w hw a ha => by
  cases ha with
  | head => exact h.h w hw
  | tail _ h' => exact ht.h w hw a h'⟩
theorem AS.storeAV {b f sz bt : Nat} {zv : Value} {cs : Array Value} {T : TypeId} {vs r : List Value} [hT : Ty P t true sz bt zv] (hy : ev E y = some (.pointer (some ⟨b, f, none⟩)) := by rfl) (hz : ev E z = some (.agg vs.toArray) := by rfl)
    (hp : autoParam (Pick L (blk b (.cells cs T (0, 0))) L') APK.h._autoParam) (hu : updO cs.toList f vs = some r := by rfl) (hs : Nat.beq vs.length sz = true := by rfl) (h1 : autoParam (AllOne x L vs) AAOS.h._autoParam) : AS P x E L (.store t y z) ty (fun _ L1 => L1 = blk b (.cells r.toArray T (0, 0)) :: L') := by
  refine ⟨fun a w dst pos aft g next Q hE hS hn => ?_⟩
  have hS' := hS.pick hp
  have hr0 := storeRun (P := P) hS'.read hu (h1.h w hS)
  have hsz := Nat.eq_of_beq_eq_true hs
  have hr : (execOp a.eval ⟨dst, .store t y z, ty, pos, aft, g⟩).run P w = .ok .skip (w.setRow b r.toArray) := by
    simp [execOp, hE.ev hy, hE.ev hz, Instr.storeAt, Instr.sureAddr, storeVar, Value.cells, hT.sizeOf, hsz, hr0]
  refine .inl ?_
  unfold Oper.wp
  rw [hr]
  exact hn undef _ _ rfl hS'.setRow
theorem ResIn.cellA {E : List (Nat × Value)} {rs : List ResultVar} {vs : List Value} {us : List Value} {cl rt : Nat} {b f sz bt : Nat} {zv : Value} {cs : Array Value} {T : TypeId} [hT : Ty P rt true sz bt zv] (h : ResIn P x E L rs vs) (hv : lookup E cl = some (.pointer (some ⟨b, f, none⟩)) := by rfl)
    (hp : autoParam (Pick L (blk b (.cells cs T (0, 0))) L') APK.h._autoParam) (hs : slc cs.toList f sz = us := by rfl) (hl : Nat.ble (f + sz) cs.toList.length = true := by rfl) : ResIn P x E L (.cell cl rt :: rs) (.agg us.toArray :: vs) := ResIn.one h hv fun w hS => by
  have hv := (slc_eq cs.toList f sz).symm.trans hs
  have hw := (hS.pick hp).read
  have hlen := Nat.le_of_ble_eq_true hl
  have hvl : us.length = sz := by rw [← hv]; simp; simp at hlen; omega
  have hr := run_loadCells_list (P := P) w ⟨b, f, none⟩ us (fun j u hu => by
    rw [at_off, ← hv, List.getElem?_take] at *
    split at hu
    · rw [List.getElem?_drop] at hu
      simp [World.cell?, hw]
      simpa using hu
    · cases hu)
  rw [hvl] at hr
  simp [loadVar, hT.isAgg, hT.sizeOf, hr]
end
end Go.SL

/- Maps of ints; slices that can only be read; interface values; slices compared with nil. -/
set_option linter.unusedVariables false
set_option linter.unusedSimpArgs false
namespace Go.SL
open Go.RowKit Go.MapKept

/-! ### what can be read, as a resource -/
def rdR {α : Type} (k : Enc α) (v : Value) (xs : List α) : HP := fun h => ∀ w, Emb h w → rd k v xs w
theorem emb_join {h1 h2 : PH} {w : World} (h : Emb (PH.join h1 h2) w) : Emb h1 w := fun k o e => h k o (by unfold PH.join; rw [e])
theorem row_rdR {α : Type} {k : Enc α} {e : TypeId} {v : Value} {xs : List α} {h : PH} (hr : row k e v xs h) : rdR k v xs h := fun w he => by
  refine SAT.rd (w0 := w) (O := fun _ => True) (L := []) (e := e) ⟨KeptW.refl _ _, h, he, fun _ _ _ => .inl trivial, h, fun _ => none, fun _ => .inr rfl, ?_, hr, fun _ => rfl⟩
  funext j
  unfold PH.join
  cases h j <;> rfl
theorem Rd.rdR {w0 : World} {O : Nat → Prop} {L L' : List HP} {α : Type} {k : Enc α} {v : Value} {xs : List α} (hp : Pick L (SL.rdR k v xs) L') : Rd w0 O L (SL.rd k v xs) := ⟨fun w hw => by
  obtain ⟨g, he, _, h1, h2, _, rfl, hr, _⟩ := (hw.pick hp).2
  exact hr w (emb_join he)⟩
theorem Pick.rowRdR {α : Type} {k : Enc α} {e : TypeId} {v : Value} {xs : List α} {L L' : List HP} (hp : Pick L (row k e v xs) L') : Pick L (rdR k v xs) L' := ⟨fun g hg => by
  obtain ⟨h1, h2, d, rfl, a, b⟩ := hp.h g hg
  exact ⟨h1, h2, d, rfl, row_rdR a, b⟩⟩
theorem Ent.rdR {α : Type} {k : Enc α} {e : TypeId} {v : Value} {xs : List α} {L L1 L2 : List HP} (h : Ent L1 L2) (hp : autoParam (Pick L (SL.row k e v xs) L1) APK.h._autoParam) : Ent L (SL.rdR k v xs :: L2) := Ent.pick (Pick.rowRdR hp) h

/-! ### maps of ints -/
/-- What the entries say. -/
structure Says (es : Array MapEntry) (f : Int → Option Int) (but : Int → Prop) : Prop where
  all : ∀ x ∈ es.toList, ∃ k v, x.key = .int .i64 k ∧ x.val = .int .i64 v
  at_ : ∀ k, ¬ but k → ∀ v, f k = some v ↔ ∃ x ∈ es.toList, x.key = .int .i64 k ∧ x.val = .int .i64 v
def mapF (b : Nat) (f : Int → Option Int) : HP := fun h => ∃ es clock, Stamped es clock ∧ Says es f (fun _ => False) ∧ blk b (.map es clock) h
/-- An entry for k0 is there, stamped s; it has no value yet. -/
def mapE (b : Nat) (f : Int → Option Int) (k0 : Int) (s : Nat) : HP := fun h => ∃ es clock, Stamped es clock ∧ Says es f (fun k => k = k0) ∧ (∃ x ∈ es.toList, x.key = .int .i64 k0 ∧ x.born = s) ∧ blk b (.map es clock) h
def rdM (b : Nat) (f : Int → Option Int) (w : World) : Prop := ∃ es clock, Says es f (fun _ => False) ∧ w.heap[b]? = some (.map es clock)
section
variable {w0 w : World} {O : Nat → Prop} {L L' : List HP} {b : Nat} {f : Int → Option Int}
theorem SAT.mapF (h : SAT w0 O (mapF b f :: L) w) : ∃ es clock, Stamped es clock ∧ Says es f (fun _ => False) ∧ SAT w0 O (blk b (.map es clock) :: L) w := by
  obtain ⟨hk, g, he, hd, h1, h2, d, rfl, ⟨es, cl, hs, hf, hb⟩, hL⟩ := h
  exact ⟨es, cl, hs, hf, hk, _, he, hd, h1, h2, d, rfl, hb, hL⟩
theorem SAT.mapE {k0 : Int} {s : Nat} (h : SAT w0 O (mapE b f k0 s :: L) w) : ∃ es clock, Stamped es clock ∧ Says es f (fun k => k = k0) ∧ (∃ x ∈ es.toList, x.key = .int .i64 k0 ∧ x.born = s) ∧ SAT w0 O (blk b (.map es clock) :: L) w := by
  obtain ⟨hk, g, he, hd, h1, h2, d, rfl, ⟨es, cl, hs, hf, hx, hb⟩, hL⟩ := h
  exact ⟨es, cl, hs, hf, hx, hk, _, he, hd, h1, h2, d, rfl, hb, hL⟩
theorem Rd.map (hp : Pick L (SL.mapF b f) L') : Rd w0 O L (rdM b f) := ⟨fun w hw => by
  obtain ⟨es, cl, _, hf, h⟩ := (hw.pick hp).mapF
  exact ⟨es, cl, hf, h.read⟩⟩
end
theorem int_ne {a b : Int} (h : (Value.int .i64 a) = .int .i64 b) : a = b := by injection h
theorem Says.same {es : Array MapEntry} {f : Int → Option Int} {a b : Int → Prop} (h : Says es f a) (hab : ∀ k, a k → b k) : Says es f b := ⟨h.all, fun k hk => h.at_ k fun e => hk (hab k e)⟩
theorem modify_mem {es : Array MapEntry} {i : Nat} {g : MapEntry → MapEntry} {x : MapEntry} : x ∈ (es.modify i g).toList ↔ (∃ j, j ≠ i ∧ es[j]? = some x) ∨ ∃ e, es[i]? = some e ∧ x = g e := by
  rw [Array.mem_toList_iff, Array.mem_iff_getElem?]
  constructor
  · rintro ⟨j, hj⟩
    rw [Array.getElem?_modify] at hj
    split at hj
    · rename_i e
      subst e
      cases he : es[i]? with
      | none => rw [he] at hj; cases hj
      | some e => rw [he] at hj; simp at hj; exact .inr ⟨e, rfl, hj.symm⟩
    · rename_i e
      exact .inl ⟨j, Ne.symm e, hj⟩
  · rintro (⟨j, hj, he⟩ | ⟨e, he, rfl⟩)
    · exact ⟨j, by rw [Array.getElem?_modify, if_neg (Ne.symm hj)]; exact he⟩
    · exact ⟨i, by rw [Array.getElem?_modify, if_pos rfl, he]; rfl⟩
theorem get_mem {es : Array MapEntry} {i : Nat} {e : MapEntry} (h : es[i]? = some e) : e ∈ es.toList := by
  rw [Array.mem_toList_iff, Array.mem_iff_getElem?]; exact ⟨i, h⟩
theorem mem_get {es : Array MapEntry} {e : MapEntry} (h : e ∈ es.toList) : ∃ i : Nat, es[i]? = some e := by
  rw [Array.mem_toList_iff, Array.mem_iff_getElem?] at h; exact h
theorem Stamped.key {es : Array MapEntry} {cl : Nat} (h : Stamped es cl) {i j : Nat} {x y : MapEntry} (hx : es[i]? = some x) (hy : es[j]? = some y) (hk : x.key = y.key) : i = j := by
  have hn := h.2.2
  have e1 : (es.toList.map (·.key))[i]? = some x.key := by simp [hx]
  have e2 : (es.toList.map (·.key))[j]? = some x.key := by simp [hy, hk]
  have hi := (List.getElem?_eq_some_iff.1 e1).1
  exact (List.getElem?_inj hi hn).1 (e1.trans e2.symm)
theorem Stamped.born {es : Array MapEntry} {cl : Nat} (h : Stamped es cl) {i j : Nat} {x y : MapEntry} (hx : es[i]? = some x) (hy : es[j]? = some y) (hk : x.born = y.born) : i = j := by
  have hn := h.2.1
  have e1 : (es.toList.map (·.born))[i]? = some x.born := by simp [hx]
  have e2 : (es.toList.map (·.born))[j]? = some x.born := by simp [hy, hk]
  have hi := (List.getElem?_eq_some_iff.1 e1).1
  exact (List.getElem?_inj hi hn).1 (e1.trans e2.symm)
def updF (f : Int → Option Int) (k v : Int) : Int → Option Int := fun j => if j = k then some v else f j
section
variable {P : Program} {x : Cx} {E : List (Nat × Value)} {L L' : List HP} {k : List Fr} {ops : Array Oper} {rest : List Oper}
variable {ty t t' t'' : TypeId} {y z c : Operand} {v u : Value} {b : Nat} {f : Int → Option Int} {kk vv : Int}
theorem AS.makeMap : AS P x E L (.makeMap t none) ty (fun u L1 => ∃ b, u = .map (some b) ∧ L1 = mapF b (fun _ => none) :: L) :=
  AS.run fun a w dst pos aft g hE hS => ⟨.map (some w.heap.size), w.alloc (.map #[] 0), mapF w.heap.size (fun _ => none) :: L, by
    simp [execOp, Instr.makeMap], SAT.imp (hS.alloc _) (fun g hg => ⟨#[], 0, MapKept.stamped_empty 0, ⟨by simp, by simp⟩, hg⟩), _, rfl, rfl⟩
theorem isKeyI (n : Int) : IsKey (.int .i64) (.int .i64 n) := rfl
theorem Says.keys {es : Array MapEntry} {bt : Int → Prop} (h : Says es f bt) : ∀ x ∈ es.toList, IsKey (.int .i64) x.key := fun x hx => by
  obtain ⟨k, v, e, _⟩ := h.all x hx
  rw [e]
  rfl
theorem AS.mapEntry {kt et : TypeId} {bt : Nat} [hM : MapT P t kt et] [hK : IntT P kt .i64] [hT : Ty P et false 1 bt (.int .i64 0)] (hy : ev E y = some (.map (some b)) := by rfl) (hz : ev E z = some (.int .i64 kk) := by rfl) (hp : autoParam (Pick L (mapF b f) L') APK.h._autoParam) :
    AS P x E L (.mapEntry t y z) ty (fun u L1 => ∃ n : Int, ∃ s : Nat, u = .tuple #[.int .i64 n, .int .i64 (s : Int)] ∧ L1 = mapE b f kk s :: L') := by
  refine AS.run fun a w dst pos aft g hE hS => ?_
  obtain ⟨es, cl, hst, hf, hS1⟩ := (hS.pick hp).mapF
  have hb := hS1.read
  have hk := isKeyI kk
  rcases MapKept.findNow_spec hk es.toList 0 hf.keys with ⟨h1, h2⟩ | ⟨j, e, h1, h2, h3⟩
  · refine ⟨.tuple #[.int .i64 0, .int .i64 (cl : Int)], { w with heap := w.heap.setIfInBounds b (.map (es.push { key := .int .i64 kk, val := .int .i64 0, born := cl }) (cl + 1)) }, mapE b f kk cl :: L', ?_, ?_, _, _, rfl, rfl⟩
    · simp only [execOp, hE.ev hy, hE.ev hz]
      simp [Instr.mapEntry, run_underlying hM.h, MapKept.run_getObj_map hb, MapKept.run_checkKey hK.h hk, MapKept.run_findKey hK.h h1, MapKept.run_setObj_map _ hb, Result.andThen, hT.zeroValue, goInt]
    · refine SAT.imp (hS1.put (o' := .map (es.push { key := .int .i64 kk, val := .int .i64 0, born := cl }) (cl + 1)) rfl rfl rfl (by simp) (fun j hj => (MapKept.heap_set hb).2 j hj) (MapKept.heap_set hb).1) fun g hg => ?_
      refine ⟨_, _, MapKept.stamped_push hst h2, ⟨fun x hx => ?_, fun k hk v => ?_⟩, ⟨{ key := .int .i64 kk, val := .int .i64 0, born := cl }, by simp, rfl, rfl⟩, hg⟩
      · simp only [Array.toList_push, List.mem_append, List.mem_singleton] at hx
        rcases hx with hx | rfl
        · exact hf.all x hx
        · exact ⟨_, _, rfl, rfl⟩
      · rw [hf.at_ k id v]
        constructor
        · rintro ⟨x, hx, e⟩
          exact ⟨x, by simp at hx ⊢; exact .inl hx, e⟩
        · rintro ⟨x, hx, e1, e2⟩
          simp only [Array.toList_push, List.mem_append, List.mem_singleton] at hx
          rcases hx with hx | rfl
          · exact ⟨x, hx, e1, e2⟩
          · exact absurd (int_ne e1).symm hk
  · have hj : es[j]? = some e := by simpa using h2
    obtain ⟨k1, v1, e1, e2⟩ := hf.all e (get_mem hj)
    have hes : es.modify j (fun e => { e with key := .int .i64 kk }) = es := by
      apply Array.ext_getElem?
      intro i
      rw [Array.getElem?_modify]
      split
      · rename_i q
        subst q
        rw [hj]
        simp only [Option.map_some, Option.some.injEq]
        rw [← h3]
      · rfl
    refine ⟨.tuple #[e.val, .int .i64 (e.born : Int)], { w with heap := w.heap.setIfInBounds b (.map es cl) }, mapE b f kk e.born :: L', ?_, ?_, v1, e.born, by rw [e2], rfl⟩
    · simp only [execOp, hE.ev hy, hE.ev hz]
      simp [Instr.mapEntry, run_underlying hM.h, MapKept.run_getObj_map hb, MapKept.run_checkKey hK.h hk, MapKept.run_findKey hK.h h1, MapKept.run_setObj_map _ hb, Result.andThen, hj, h3, MapKept.run_keyThatStays hk, hes, goInt]
    · refine SAT.imp (hS1.put (o' := .map es cl) rfl rfl rfl (by simp) (fun j hj => (MapKept.heap_set hb).2 j hj) (MapKept.heap_set hb).1) fun g hg => ?_
      exact ⟨es, cl, hst, hf.same fun _ h => h.elim, ⟨e, get_mem hj, h3, rfl⟩, hg⟩
theorem AS.entryStore {s : Nat} (hy : ev E y = some (.map (some b)) := by rfl) (hz : ev E z = some (.int .i64 (s : Int)) := by rfl) (hc : ev E c = some (.int .i64 vv) := by rfl) (hp : autoParam (Pick L (mapE b f kk s) L') APK.h._autoParam) :
    AS P x E L (.entryStore t y z c) ty (fun _ L1 => L1 = mapF b (updF f kk vv) :: L') := by
  refine ⟨fun a w dst pos aft g next Q hE hS hn => ?_⟩
  obtain ⟨es, cl, hst, hf, ⟨x0, hx0, hk0, hs0⟩, hS1⟩ := (hS.pick hp).mapE
  have hb := hS1.read
  obtain ⟨i, hi⟩ := mem_get hx0
  have hfind : es.findIdx? (fun e => ((e.born : Int) == (s : Int))) = some i := by
    rw [Array.findIdx?_eq_some_iff_getElem]
    obtain ⟨hlt, he⟩ := Array.getElem?_eq_some_iff.1 hi
    refine ⟨hlt, by rw [he, hs0]; simp, fun j hji => ?_⟩
    have hj2 : es[j]? = some es[j] := Array.getElem?_eq_getElem (by omega)
    intro hbj
    have hbj : ((es[j].born : Int)) = (s : Int) := by simpa using hbj
    have := Stamped.born hst hj2 hi (by omega)
    omega
  have hr : (execOp a.eval ⟨dst, .entryStore t y z c, ty, pos, aft, g⟩).run P w = .ok .skip { w with heap := w.heap.setIfInBounds b (.map (es.modify i fun e => { e with val := .int .i64 vv }) cl) } := by
    simp only [execOp, hE.ev hy, hE.ev hz, hE.ev hc]
    simp [Instr.entryStore, MapKept.run_getObj_map hb, Result.andThen, asInt, asIntOf, hfind, MapKept.run_setObj_map _ hb]
  refine .inl ?_
  unfold Oper.wp
  rw [hr]
  refine hn undef _ _ rfl (SAT.imp (hS1.put (o' := .map (es.modify i fun e => { e with val := .int .i64 vv }) cl) rfl rfl rfl (by simp) (fun j hj => (MapKept.heap_set hb).2 j hj) (MapKept.heap_set hb).1) fun g hg => ?_)
  refine ⟨_, cl, MapKept.stamped_modify hst i (fun e => { e with val := .int .i64 vv }) (fun _ _ => rfl) (fun _ _ _ => rfl), ⟨fun x hx => ?_, fun k _ v => ?_⟩, hg⟩
  · rcases modify_mem.1 hx with ⟨j, _, hj⟩ | ⟨e, he, rfl⟩
    · exact hf.all x (get_mem hj)
    · obtain ⟨k1, v1, e1, _⟩ := hf.all e (get_mem he)
      exact ⟨k1, vv, e1, rfl⟩
  · unfold updF
    by_cases hk : k = kk
    · subst hk
      rw [if_pos rfl]
      constructor
      · rintro h
        injection h with h
        subst h
        exact ⟨{ x0 with val := .int .i64 vv }, modify_mem.2 (.inr ⟨x0, hi, rfl⟩), hk0, rfl⟩
      · rintro ⟨x, hx, e1, e2⟩
        rcases modify_mem.1 hx with ⟨j, hne, hj⟩ | ⟨e, he, rfl⟩
        · exact absurd (Stamped.key hst hj hi (e1.trans hk0.symm)) hne
        · exact congrArg some (int_ne e2)
    · rw [if_neg hk, hf.at_ k hk v]
      constructor
      · rintro ⟨x, hx, e1, e2⟩
        obtain ⟨j, hj⟩ := mem_get hx
        refine ⟨x, modify_mem.2 (.inl ⟨j, ?_, hj⟩), e1, e2⟩
        rintro rfl
        rw [hi] at hj
        injection hj with hj
        subst hj
        exact hk (int_ne (e1.symm.trans hk0))
      · rintro ⟨x, hx, e1, e2⟩
        rcases modify_mem.1 hx with ⟨j, _, hj⟩ | ⟨e, he, rfl⟩
        · exact ⟨x, get_mem hj, e1, e2⟩
        · rw [hi] at he
          injection he with he
          subst he
          exact absurd (int_ne (e1.symm.trans hk0)) hk
theorem PS.lookupF {kt et : TypeId} {bt : Nat} [hM : MapT P t kt et] [hK : IntT P kt .i64] [hT : Ty P et false 1 bt (.int .i64 0)] (hy : ev E y = some (.map (some b)) := by rfl) (hz : ev E z = some (.int .i64 kk) := by rfl) (hr : autoParam (Rd x.w0 x.O L (rdM b f)) ARD.h._autoParam) :
    PS P x E L (.lookup t y z true) ty (.tuple #[.int .i64 ((f kk).getD 0), .bool (f kk).isSome]) := ⟨fun a w _ _ _ _ hE hS => by
  obtain ⟨es, cl, hf, hb⟩ := hr.h w hS
  have hk := isKeyI kk
  rcases MapKept.findNow_spec hk es.toList 0 hf.keys with ⟨h1, h2⟩ | ⟨j, e, h1, h2, h3⟩
  · have hn : f kk = none := by
      cases e : f kk with
      | none => rfl
      | some v =>
        obtain ⟨x, hx, e1, _⟩ := (hf.at_ kk id v).1 e
        exact absurd e1 (h2 x hx)
    simp only [execOp, hE.ev hy, hE.ev hz]
    simp [Instr.lookup, run_underlying hM.h, MapKept.run_getObj_map hb, MapKept.run_checkKey hK.h hk, MapKept.run_findKey hK.h h1, Result.andThen, hT.zeroValue, hn]
  · have hj : es[j]? = some e := by simpa using h2
    obtain ⟨k1, v1, e1, e2⟩ := hf.all e (get_mem hj)
    have hn : f kk = some v1 := (hf.at_ kk id v1).2 ⟨e, get_mem hj, h3, e2⟩
    simp only [execOp, hE.ev hy, hE.ev hz]
    simp [Instr.lookup, run_underlying hM.h, MapKept.run_getObj_map hb, MapKept.run_checkKey hK.h hk, MapKept.run_findKey hK.h h1, Result.andThen, hn, e2]⟩
/-! ### interface values -/
theorem PS.iface [hN : NIfT P t] (hy : ev E y = some v := by rfl) : PS P x E L (.makeInterface t y) ty (.iface t v) := ⟨fun a w _ _ _ _ hE _ => by
  obtain ⟨d, hd, hn⟩ := hN.h
  simp only [execOp, hE.ev hy]
  simp only [Instr.makeInterface, Sem.run_bind, run_underlying hd, Result.andThen]
  cases d <;> first | rfl | exact absurd rfl (hn _)⟩
theorem equal_iface {w : World} [hI : IfT P t] {d : TypeId} {q : Value} : (Op.equal t (.iface d q) .nilIface).run P w = .ok false w := by
  obtain ⟨ms, hd⟩ := hI.h
  have h : ∀ n : Nat, (Op.equalIn (n + 1) t (.iface d q) .nilIface).run P w = .ok false w := fun n => by
    simp [Op.equalIn, run_underlying hd]
  simp only [Op.equal, Op.maxDepth]
  exact h 9999
theorem equal_nil {w : World} [hI : IfT P t] : (Op.equal t .nilIface .nilIface).run P w = .ok true w := by
  obtain ⟨ms, hd⟩ := hI.h
  have h : ∀ n : Nat, (Op.equalIn (n + 1) t .nilIface .nilIface).run P w = .ok true w := fun n => by
    simp [Op.equalIn, run_underlying hd]
  simp only [Op.equal, Op.maxDepth]
  exact h 9999
theorem PS.neIf {d : TypeId} {q : Value} [hI : IfT P t] (hy : ev E y = some (.iface d q) := by rfl) : PS P x E L (.binOp .neq t y (.const .nilIface) t') ty (.bool true) := ⟨fun a w _ _ _ _ hE _ => by
  have hc : a.eval (.const .nilIface) = .nilIface := rfl
  simp only [execOp, hE.ev hy, hc, eqGuard_at_iface]
  simp [binOp, equal_iface]⟩
theorem PS.neNil [hI : IfT P t] (hy : ev E y = some .nilIface := by rfl) : PS P x E L (.binOp .neq t y (.const .nilIface) t') ty (.bool false) := ⟨fun a w _ _ _ _ hE _ => by
  have hc : a.eval (.const .nilIface) = .nilIface := rfl
  simp only [execOp, hE.ev hy, hc, eqGuard_nil_constR]
  simp [binOp, equal_nil]⟩
theorem PS.eqIf {d : TypeId} {q : Value} [hI : IfT P t] (hy : ev E y = some (.iface d q) := by rfl) : PS P x E L (.binOp .eql t y (.const .nilIface) t') ty (.bool false) := ⟨fun a w _ _ _ _ hE _ => by
  have hc : a.eval (.const .nilIface) = .nilIface := rfl
  simp only [execOp, hE.ev hy, hc, eqGuard_at_iface]
  simp [binOp, equal_iface]⟩
theorem PS.eqNil [hI : IfT P t] (hy : ev E y = some .nilIface := by rfl) : PS P x E L (.binOp .eql t y (.const .nilIface) t') ty (.bool true) := ⟨fun a w _ _ _ _ hE _ => by
  have hc : a.eval (.const .nilIface) = .nilIface := rfl
  simp only [execOp, hE.ev hy, hc, eqGuard_nil_constR]
  simp [binOp, equal_nil]⟩
theorem eqslice {w : World} {e : TypeId} [hS : SlT P t e] {a : Option Addr} {n m : Nat} : (Op.equal t (.slice a n m) (.slice none 0 0)).run P w = .ok a.isNone w := by
  have h : ∀ k : Nat, (Op.equalIn (k + 1) t (.slice a n m) (.slice none 0 0)).run P w = .ok a.isNone w := fun k => by
    cases a <;> simp [Op.equalIn, run_underlying hS.h]
  simp only [Op.equal, Op.maxDepth]
  exact h 9999
theorem PS.eqSN {e : TypeId} {a : Option Addr} {n m : Nat} [hS : SlT P t e] (hy : ev E y = some (.slice a n m) := by rfl) : PS P x E L (.binOp .eql t y (.const (.slice none 0 0)) t') ty (.bool a.isNone) := ⟨fun ac w _ _ _ _ hE _ => by
  have hc : ac.eval (.const (.slice none 0 0)) = .slice none 0 0 := rfl
  simp only [execOp, hE.ev hy, hc, eqGuard_at_slice]
  simp [binOp, eqslice]⟩
theorem PS.eqSN0 {e : TypeId} {n m : Nat} [hS : SlT P t e] (hy : ev E y = some (.slice none n m) := by rfl) : PS P x E L (.binOp .eql t y (.const (.slice none 0 0)) t') ty (.bool true) := PS.eqSN (a := none) hy
theorem PS.eqSN1 {e : TypeId} {a : Addr} {n m : Nat} [hS : SlT P t e] (hy : ev E y = some (.slice (some a) n m) := by rfl) : PS P x E L (.binOp .eql t y (.const (.slice none 0 0)) t') ty (.bool false) := PS.eqSN (a := some a) hy
theorem equal_bool {w : World} [hB : BoolT P t] {a b : Bool} : (Op.equal t (.bool a) (.bool b)).run P w = .ok (a == b) w := by
  have h : ∀ k : Nat, (Op.equalIn (k + 1) t (.bool a) (.bool b)).run P w = .ok (a == b) w := fun k => by
    simp [Op.equalIn, run_underlying hB.h]
  simp only [Op.equal, Op.maxDepth]
  exact h 9999
theorem PS.eqB {a b : Bool} [hB : BoolT P t] (hy : ev E y = some (.bool a) := by rfl) (hz : ev E z = some (.bool b) := by rfl) : PS P x E L (.binOp .eql t y z t') ty (.bool (a == b)) := ⟨fun ac w _ _ _ _ hE _ => by
  simp only [execOp, hE.ev hy, hE.ev hz, eqGuard_at_bool]
  simp [binOp, equal_bool]⟩
theorem PS.eqB1 {a : Bool} [hB : BoolT P t] (hy : ev E y = some (.bool a) := by rfl) (hz : ev E z = some (.bool a) := by rfl) : PS P x E L (.binOp .eql t y z t') ty (.bool true) := by
  have h := PS.eqB (P := P) (x := x) (E := E) (L := L) (t := t) (t' := t') (ty := ty) hy hz
  rwa [beq_self_eq_true] at h
theorem PS.neB {a b : Bool} [hB : BoolT P t] (hy : ev E y = some (.bool a) := by rfl) (hz : ev E z = some (.bool b) := by rfl) : PS P x E L (.binOp .neq t y z t') ty (.bool (!(a == b))) := ⟨fun ac w _ _ _ _ hE _ => by
  simp only [execOp, hE.ev hy, hE.ev hz, eqGuard_at_bool]
  simp [binOp, equal_bool]⟩
theorem PS.neB1 {a : Bool} [hB : BoolT P t] (hy : ev E y = some (.bool a) := by rfl) (hz : ev E z = some (.bool a) := by rfl) : PS P x E L (.binOp .neq t y z t') ty (.bool false) := by
  have h := PS.neB (P := P) (x := x) (E := E) (L := L) (t := t) (t' := t') (ty := ty) hy hz
  rwa [beq_self_eq_true, Bool.not_true] at h
end
theorem AS.call3 {P : Program} {x : Cx} {E : List (Nat × Value)} {L L1 L2 : List HP} {ty : TypeId} {f : FuncId} {ags : List Operand} {ts : Array TypeId} {args : List Value} {Rs : List (World → Prop)} {X : Type} {ret : X → Value} {p q r : X → HP} {po : X → Prop} [hF : FnB P f]
    (hs : Spec P f args Rs L1 ret (fun y => [p y, q y, r y]) po) (ha : evs E ags = some args := by rfl) (hL : Parts L L1 L2 := by first | exact Parts.nil | exact Parts.cons xPK Parts.nil | exact Parts.cons xPK (Parts.cons xPK Parts.nil) | exact Parts.cons xPK (Parts.cons xPK (Parts.cons xPK Parts.nil)) | fail) (hR : RdAll x.w0 x.O L2 Rs := by first | exact RdAll.nil | exact RdAll.cons xRD RdAll.nil | exact RdAll.cons xRD (RdAll.cons xRD RdAll.nil) | exact RdAll.cons xRD (RdAll.cons xRD (RdAll.cons xRD RdAll.nil)) | fail) :
    AS P x E L (.call ⟨.value (.func f), ags.toArray, ts⟩) ty (fun v L3 => ∃ y, po y ∧ v = ret y ∧ L3 = p y :: q y :: r y :: L2) := AS.call hs ha hL hR
theorem AS.call4 {P : Program} {x : Cx} {E : List (Nat × Value)} {L L1 L2 : List HP} {ty : TypeId} {f : FuncId} {ags : List Operand} {ts : Array TypeId} {args : List Value} {Rs : List (World → Prop)} {X : Type} {ret : X → Value} {p q r s : X → HP} {po : X → Prop} [hF : FnB P f]
    (hs : Spec P f args Rs L1 ret (fun y => [p y, q y, r y, s y]) po) (ha : evs E ags = some args := by rfl) (hL : Parts L L1 L2 := by first | exact Parts.nil | exact Parts.cons xPK Parts.nil | exact Parts.cons xPK (Parts.cons xPK Parts.nil) | exact Parts.cons xPK (Parts.cons xPK (Parts.cons xPK Parts.nil)) | fail) (hR : RdAll x.w0 x.O L2 Rs := by first | exact RdAll.nil | exact RdAll.cons xRD RdAll.nil | exact RdAll.cons xRD (RdAll.cons xRD RdAll.nil) | exact RdAll.cons xRD (RdAll.cons xRD (RdAll.cons xRD RdAll.nil)) | fail) :
    AS P x E L (.call ⟨.value (.func f), ags.toArray, ts⟩) ty (fun v L3 => ∃ y, po y ∧ v = ret y ∧ L3 = p y :: q y :: r y :: s y :: L2) := AS.call hs ha hL hR
theorem iOmakeMap {P : Program} {x : Cx} {E : List (Nat × Value)} {L : List HP} {ops : Array Oper} {rest : List Oper} {k : List Fr} {d : Option Tmp} {ty : TypeId} {pos : String} {aft : Array Edge} {a0 : TypeId} {a1 : Option Operand} (h : OJ P x E L ops (⟨d, .makeMap a0 a1, ty, pos, aft, none⟩ :: rest) k) : OJ P x E L ops (⟨d, .makeMap a0 a1, ty, pos, aft, none⟩ :: rest) k := h
theorem iOmapEntry {P : Program} {x : Cx} {E : List (Nat × Value)} {L : List HP} {ops : Array Oper} {rest : List Oper} {k : List Fr} {d : Option Tmp} {ty : TypeId} {pos : String} {aft : Array Edge} {a0 : TypeId} {a1 : Operand} {a2 : Operand} (h : OJ P x E L ops (⟨d, .mapEntry a0 a1 a2, ty, pos, aft, none⟩ :: rest) k) : OJ P x E L ops (⟨d, .mapEntry a0 a1 a2, ty, pos, aft, none⟩ :: rest) k := h
theorem iOentryStore {P : Program} {x : Cx} {E : List (Nat × Value)} {L : List HP} {ops : Array Oper} {rest : List Oper} {k : List Fr} {d : Option Tmp} {ty : TypeId} {pos : String} {aft : Array Edge} {a0 : TypeId} {a1 : Operand} {a2 : Operand} {a3 : Operand} (h : OJ P x E L ops (⟨d, .entryStore a0 a1 a2 a3, ty, pos, aft, none⟩ :: rest) k) : OJ P x E L ops (⟨d, .entryStore a0 a1 a2 a3, ty, pos, aft, none⟩ :: rest) k := h
theorem iERdR {α : Type} {L L1 : List HP} {q : Enc α} {v : Value} {xs : List α} (h : Ent L (SL.rdR q v xs :: L1)) : Ent L (SL.rdR q v xs :: L1) := h
theorem iAmakeMap {P : Program} {x : Cx} {E : List (Nat × Value)} {L L0 L1 : List HP} {s : Nat × Nat} {l : List Oper} {fuel : Nat} {dl : List Nat} {k : List Fr} {i : Nat} {d : Option Tmp} {ty : TypeId} {a0 : TypeId} {a1 : Option Operand} (h : AO P x E L L0 L1 s l fuel dl k i d (.makeMap a0 a1) ty) : AO P x E L L0 L1 s l fuel dl k i d (.makeMap a0 a1) ty := h
theorem iAmapEntry {P : Program} {x : Cx} {E : List (Nat × Value)} {L L0 L1 : List HP} {s : Nat × Nat} {l : List Oper} {fuel : Nat} {dl : List Nat} {k : List Fr} {i : Nat} {d : Option Tmp} {ty : TypeId} {a0 : TypeId} {a1 : Operand} {a2 : Operand} (h : AO P x E L L0 L1 s l fuel dl k i d (.mapEntry a0 a1 a2) ty) : AO P x E L L0 L1 s l fuel dl k i d (.mapEntry a0 a1 a2) ty := h
theorem iAentryStore {P : Program} {x : Cx} {E : List (Nat × Value)} {L L0 L1 : List HP} {s : Nat × Nat} {l : List Oper} {fuel : Nat} {dl : List Nat} {k : List Fr} {i : Nat} {d : Option Tmp} {ty : TypeId} {a0 : TypeId} {a1 : Operand} {a2 : Operand} {a3 : Operand} (h : AO P x E L L0 L1 s l fuel dl k i d (.entryStore a0 a1 a2 a3) ty) : AO P x E L L0 L1 s l fuel dl k i d (.entryStore a0 a1 a2 a3) ty := h
theorem Pick.rowCut {α : Type} {q : Enc α} {e : TypeId} {v : Value} {xs : List α} {L L' : List HP} {sz hi : Nat} (hp : Pick L (SL.row q e v xs) L') (h : hi ≤ xs.length) (hq : q.sz = sz := by rfl) : Pick L (SL.row q e (sliceV sz v 0 hi) (xs.take hi)) L' := ⟨fun g hg => by
  subst hq
  obtain ⟨h1, h2, d, rfl, ⟨hl, hr⟩, b⟩ := hp.h g hg
  refine ⟨h1, h2, d, rfl, ⟨flat_len, ?_⟩, b⟩
  have hlen : (xs.take hi).length = hi := by simp; omega
  rcases hr with ⟨rfl, hn, he⟩ | ⟨g', cap, cur, rfl, hc, hm, hs, ht, hb⟩
  · obtain rfl : hi = 0 := by omega
    exact .inl ⟨rfl, by simp, he⟩
  · refine .inr ⟨g', cap, cur, ?_, by omega, hm, hs, ?_, hb⟩
    · simp only [sliceV, sliced, hlen]
      simp [Addr.add]
    · rw [flatMap_take, ← ht, List.take_take, hlen, Nat.min_eq_left]
      exact Nat.mul_le_mul_right _ h⟩
end Go.SL
