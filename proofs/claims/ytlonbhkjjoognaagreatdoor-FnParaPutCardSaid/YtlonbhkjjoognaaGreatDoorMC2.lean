/- Parts of the proof (joined by program). -/
import Derived.Test.YtlonbhkjjoognaaGreatDoorMC1
import Derived.Laws.MakeOwn
import Derived.RangeFuncRecord
/- Slices of slices, append of many, least and greatest, structs compared, rows made, results in cells, boxed rows. -/
set_option linter.unusedVariables false
set_option linter.unusedSimpArgs false
namespace Go.SL
open Go.RowKit

section
variable {P : Program} {x : Cx} {E : List (Nat × Value)} {L L' L1 L2 : List HP} {k : List Fr} {ops : Array Oper} {rest : List Oper}
variable {ty t t' t'' : TypeId} {y z c : Operand} {v u : Value}

/-! ### slices of slices -/
def sliceV (sz : Nat) (v : Value) (lo hi : Nat) : Value :=
  match v with
  | .slice A _ c => sliced A lo hi c sz
  | _ => undef
theorem rd_slice {α : Type} {q : Enc α} {xs : List α} {w : World} {lo hi : Nat} (h : rd q v xs w) (h1 : lo ≤ hi) (h2 : hi ≤ xs.length) : rd q (sliceV q.sz v lo hi) ((xs.drop lo).take (hi - lo)) w := by
  obtain ⟨A, c, rfl, hc, hm, hA⟩ := h
  have hl : ((xs.drop lo).take (hi - lo)).length = hi - lo := by simp; omega
  refine ⟨_, _, by simp only [sliceV, sliced, hl]; rfl, by rw [hl]; omega, by omega, fun hp => ?_⟩
  rw [hl] at hp
  obtain ⟨ad, rfl, hcell⟩ := hA (by omega)
  refine ⟨ad.add (lo * q.sz), by rw [if_neg (by omega)]; rfl, fun j u hu => ?_⟩
  rw [add_add]
  refine hcell _ u ?_
  rw [flatMap_take, List.getElem?_take] at hu
  split at hu
  · rw [flatMap_drop, List.getElem?_drop] at hu
    exact hu
  · cases hu
theorem iSlice {α : Type} {w0 : World} {O : Nat → Prop} {L : List HP} {q : Enc α} {xs : List α} {sz lo hi : Nat} {v : Value} (h : Rd w0 O L (rd q (sliceV sz v lo hi) xs)) : Rd w0 O L (rd q (sliceV sz v lo hi) xs) := h
theorem Rd.slice {α : Type} {q : Enc α} {xs : List α} {sz lo hi : Nat} (h : Rd x.w0 x.O L (rd q v xs)) (hq : q.sz = sz := by rfl) (h1 : lo ≤ hi := by omega) (h2 : hi ≤ xs.length := by omega) : Rd x.w0 x.O L (rd q (sliceV sz v lo hi) ((xs.drop lo).take (hi - lo))) :=
  ⟨fun w hw => by subst hq; exact rd_slice (h.h w hw) h1 h2⟩
theorem elem_of {e : TypeId} (h : P.underlying t = some (.slice e)) : P.underlying t = some (.slice (P.elem t)) := by simp [Program.elem, h]
theorem elem_is {e : TypeId} (h : P.underlying t = some (.slice e)) : P.elem t = e := by simp [Program.elem, h]
theorem PS.sliceH {α : Type} {q : Enc α} {xs : List α} {e : TypeId} {hi : Int} {ag : Bool} {sz bt : Nat} {zv : Value} [hSl : SlT P t e] [hT : Ty P e ag sz bt zv] (hv : ev E y = some v := by rfl) (hh : ev E z = some (.int .i64 hi) := by rfl)
    (hr : autoParam (Rd x.w0 x.O L (rd q v xs)) ARD.h._autoParam) (h0 : 0 ≤ hi := by omega) (hlt : hi ≤ xs.length := by omega) : PS P x E L (.slice t y none (some z) none) ty (sliceV sz v 0 hi.toNat) := ⟨fun a w _ _ _ _ hE hS => by
  obtain ⟨A, c, rfl, hc, _, _⟩ := hr.h w hS
  simp only [execOp, Option.map, hE.ev hv, hE.ev hh]
  simp [run_sliceAt_slice _ _ _ _ _ _ (elem_of hSl.h), run_slice_h w t A xs.length c (elem_of hSl.h) .i64 hi h0 (by omega), elem_is hSl.h, hT.sizeOf, sliceV]⟩
theorem PS.sliceL {α : Type} {q : Enc α} {xs : List α} {e : TypeId} {lo : Int} {ag : Bool} {sz bt : Nat} {zv : Value} [hSl : SlT P t e] [hT : Ty P e ag sz bt zv] (hv : ev E y = some v := by rfl) (hh : ev E z = some (.int .i64 lo) := by rfl)
    (hr : autoParam (Rd x.w0 x.O L (rd q v xs)) ARD.h._autoParam) (h0 : 0 ≤ lo := by omega) (hlt : lo ≤ xs.length := by omega) : PS P x E L (.slice t y (some z) none none) ty (sliceV sz v lo.toNat xs.length) := ⟨fun a w _ _ _ _ hE hS => by
  obtain ⟨A, c, rfl, hc, _, _⟩ := hr.h w hS
  simp only [execOp, Option.map, hE.ev hv, hE.ev hh]
  simp [run_sliceAt_slice _ _ _ _ _ _ (elem_of hSl.h), run_slice_l w t A xs.length c (elem_of hSl.h) .i64 lo h0 (by omega), elem_is hSl.h, hT.sizeOf, sliceV]⟩
theorem PS.sliceLH {α : Type} {q : Enc α} {xs : List α} {e : TypeId} {lo hi : Int} {ag : Bool} {sz bt : Nat} {zv : Value} [hSl : SlT P t e] [hT : Ty P e ag sz bt zv] (hv : ev E y = some v := by rfl) (hh : ev E z = some (.int .i64 lo) := by rfl) (hh2 : ev E c = some (.int .i64 hi) := by rfl)
    (hr : autoParam (Rd x.w0 x.O L (rd q v xs)) ARD.h._autoParam) (h0 : 0 ≤ lo := by omega) (h1 : lo ≤ hi := by omega) (hlt : hi ≤ xs.length := by omega) : PS P x E L (.slice t y (some z) (some c) none) ty (sliceV sz v lo.toNat hi.toNat) := ⟨fun a w _ _ _ _ hE hS => by
  obtain ⟨A, cc, rfl, hc, _, _⟩ := hr.h w hS
  simp only [execOp, Option.map, hE.ev hv, hE.ev hh, hE.ev hh2]
  simp [run_sliceAt_slice _ _ _ _ _ _ (elem_of hSl.h), run_slice_lh w t A xs.length cc (elem_of hSl.h) .i64 .i64 lo hi h0 h1 (by omega), elem_is hSl.h, hT.sizeOf, sliceV]⟩
theorem PS.sliceHN {α : Type} {q : Enc α} {xs : List α} {e : TypeId} {hi : Nat} {ag : Bool} {sz bt : Nat} {zv : Value} [hSl : SlT P t e] [hT : Ty P e ag sz bt zv] (hv : ev E y = some v := by rfl) (hh : ev E z = some (.int .i64 (hi : Int)) := by rfl)
    (hr : autoParam (Rd x.w0 x.O L (rd q v xs)) ARD.h._autoParam) (hlt : hi ≤ xs.length := by omega) : PS P x E L (.slice t y none (some z) none) ty (sliceV sz v 0 hi) := PS.sliceH (hi := (hi : Int)) hv hh hr (by omega) (by omega)
theorem PS.sliceLN {α : Type} {q : Enc α} {xs : List α} {e : TypeId} {lo : Nat} {ag : Bool} {sz bt : Nat} {zv : Value} [hSl : SlT P t e] [hT : Ty P e ag sz bt zv] (hv : ev E y = some v := by rfl) (hh : ev E z = some (.int .i64 (lo : Int)) := by rfl)
    (hr : autoParam (Rd x.w0 x.O L (rd q v xs)) ARD.h._autoParam) (hlt : lo ≤ xs.length := by omega) : PS P x E L (.slice t y (some z) none none) ty (sliceV sz v lo xs.length) := PS.sliceL (lo := (lo : Int)) hv hh hr (by omega) (by omega)
/-! ### append of many -/
theorem one_flat {α : Type} {q : Enc α} {xs : List α} : ∀ u ∈ xs.flatMap q.f, u.oneCell' = true := fun u hu => by
  obtain ⟨a, _, ha⟩ := List.mem_flatMap.1 hu
  exact q.one a u ha
theorem run_append_nil {e : TypeId} {c n cp : Nat} {A : Option Addr} [hSl : SlT P t e] {ag : Bool} {sz bt : Nat} {zv : Value} [hT : Ty P e ag sz bt zv] (w : World) (hn : n ≤ cp) : (Builtin.append_ #[t, t] ty #[.slice A n cp, .slice none 0 c]).run P w = .ok (.slice A n cp) w := by
  unfold Builtin.append_
  simp [run_underlying hSl.h, hT.sizeOf, Builtin.lenOf, Builtin.firstCells, hn]
  cases A <;> simp [storeCells]
theorem AS.append {α : Type} {q : Enc α} {xs ys : List α} {e : TypeId} {v2 : Value} {L1 : List HP} {ag : Bool} {sz bt : Nat} {zv : Value} [hSl : SlT P t e] [hT : Ty P e ag sz bt zv]
    (hv : ev E y = some v := by rfl) (hz : ev E z = some v2 := by rfl) (hp : autoParam (Pick L (row q e v xs) L1) APK.h._autoParam) (hr : autoParam (Rd x.w0 x.O L (rd q v2 ys)) ARD.h._autoParam) (hq : q.sz = sz := by rfl) (hzs : zv.cells.size = sz := by rfl)
    (hbd : autoParam ((xs.length + ys.length) * bt ≤ 140737488355328) ABD.h._autoParam) (hbm : autoParam (xs.length + ys.length ≤ 9223372036854775807) ABD.h._autoParam) : AS P x E L (.call ⟨.builtin .append, #[y, z], #[t, t]⟩) ty (fun v' L3 => L3 = row q e v' (xs ++ ys) :: L1) :=
  AS.run fun a w dst pos aft g hE hS => by
    obtain ⟨i, hi, h1, h2, h3⟩ := hT.info
    have hS1 := hS.pick hp
    have hown := hS1.ownsRow
    obtain ⟨A, c, rfl, hc, hm, hA⟩ := hr.h w hS
    by_cases hn : A = none
    · subst hn
      have h0 : ys = [] := by
        rcases ys with _ | ⟨y0, ys⟩
        · rfl
        · obtain ⟨ad, h, _⟩ := hA (by simp)
          cases h
      subst h0
      obtain ⟨A0, c0, hv0, hc0, _⟩ := hS1.rd
      refine ⟨v, w, _, ?_, hS1, by rw [List.append_nil]⟩
      simp only [execOp, resolve, invoke, builtin]
      subst hv0
      simp [hE.ev hv, hE.ev hz, run_append_nil (P := P) (t := t) (e := e) w hc0]
    · obtain ⟨ad, rfl⟩ := Option.ne_none_iff_exists'.1 hn
      have hcells : ∀ j u, (ys.flatMap q.f)[j]? = some u → w.cell? (ad.add j) = some u := fun j u hu => by
        have hpos : 0 < ys.length := by
          rcases ys with _ | ⟨y0, ys⟩
          · simp at hu
          · simp
        obtain ⟨ad', he, h⟩ := hA hpos
        injection he with he
        subst he
        exact h j u hu
      obtain ⟨v', w', hrun, hown', hgr, _, hat⟩ := run_append_own_at (P := P) w 0 t ty e i zv sz bt hSl.h hi h3 h1 h2 hzs (hq ▸ q.pos) v xs.length (xs.flatMap q.f) (hq ▸ hown) ad ys.length c (ys.flatMap q.f) (by rw [flat_len, hq]) hcells one_flat
        (by simp only [maxLen]; omega) hbd (Nat.zero_le _)
      refine ⟨v', w', row q e v' (xs ++ ys) :: L1, ?_, ?_, rfl⟩
      · simp only [execOp, resolve, invoke, builtin]
        simp [hE.ev hv, hE.ev hz, hrun]
      · refine SAT.own_append (xs := xs) (ys := ys) hS1 ?_ hgr hat
        rw [← hq] at hown'
        simpa using hown'
theorem PS.negW {i : Int} (hv : ev E y = some (.int .i64 i) := by rfl) : PS P x E L (.unOp .neg t y) ty (.int .i64 (IntKind.i64.wrap (0 - i))) := ⟨fun a w _ _ _ _ hE _ => by
  simp only [execOp, hE.ev hv]
  rfl⟩
/-! ### rows made -/
theorem madeRow {α : Type} {q : Enc α} {z0 : α} {zs : Array Value} (hz : q.f z0 = zs.toList) (n : Nat) : (madeCells zs (n * q.sz)).toList = (List.replicate n z0).flatMap q.f := by
  have hsz : zs.size = q.sz := by rw [← q.len z0, hz, Array.length_toList]
  have hp := q.pos
  apply List.ext_getElem?
  intro j
  by_cases hj : j < n * q.sz
  · have h1 : j / q.sz < n := Nat.div_lt_of_lt_mul (by rw [Nat.mul_comm]; exact hj)
    have h2 : j % q.sz < q.sz := Nat.mod_lt _ hp
    have h3 := flat_get (k := q) (xs := List.replicate n z0) (i := j / q.sz) (f := j % q.sz) (by simpa using h1) h2
    rw [Nat.mul_comm, Nat.div_add_mod] at h3
    rw [h3]
    have h4 : (List.replicate n z0).getD (j / q.sz) q.d = z0 := by simp [List.getD_eq_getElem?_getD, h1]
    rw [h4, hz]
    simp [madeCells, hj, hsz, h2]
  · rw [List.getElem?_eq_none_iff.2 (by simp [madeCells]; omega), List.getElem?_eq_none_iff.2 (by rw [flat_len]; simp; omega)]
theorem AS.makeSlice {α : Type} {q : Enc α} {z0 : α} {e : TypeId} {n m : Int} {ag : Bool} {sz bt : Nat} {zv : Value} [hSl : SlT P t e] [hT : Ty P e ag sz bt zv] [hN : EncN e q] (hy : ev E y = some (.int .i64 n) := by rfl) (hz : ev E z = some (.int .i64 m) := by rfl)
    (hd : q.dec (cellsL zv) = some z0 := by rfl) (hq : q.sz = sz := by rfl) (h0 : autoParam (0 ≤ n) ABD.h._autoParam) (h1 : autoParam (n ≤ m) ABD.h._autoParam) (h2 : autoParam ((bt : Int) * m ≤ 140737488355328) ABD.h._autoParam) (h3 : autoParam (m ≤ 9223372036854775807) ABD.h._autoParam) : AS P x E L (.makeSlice t y z) ty (fun v L1 => L1 = row q e v (List.replicate n.toNat z0) :: L) :=
  AS.run fun a w dst pos aft g hE hS => by
    obtain ⟨i, hi, e1, e2, e3⟩ := hT.info
    have hf := q.inv _ _ hd
    rw [cellsL_eq] at hf
    have hr := run_make (P := P) w t e i zv hSl.h hi e3 .i64 .i64 n m h0 h1 (by rw [e2]; omega) h3
    refine ⟨.slice (some ⟨w.heap.size, 0, none⟩) n.toNat m.toNat, w.alloc (.cells (madeCells zv.cells (m.toNat * i.size)) e (0, 0)), _, by simp only [execOp, hE.ev hy, hE.ev hz]; simp [hr], SAT.imp (hS.alloc _) (q := row q e (.slice (some ⟨w.heap.size, 0, none⟩) n.toNat m.toNat) (List.replicate n.toNat z0)) (fun h3 hb => ⟨flat_len, .inr ⟨w.heap.size, m.toNat, _, by simp, by simp; omega, by simp [maxLen]; omega, ?_, ?_, hb⟩⟩), rfl⟩
    · simp [madeCells, e1, hq]
    · rw [List.length_replicate, e1, ← hq, madeRow hf, ← flatMap_take, List.take_replicate, Nat.min_eq_left (by omega)]
/-! ### least and greatest -/
theorem PS.mn {kd : IntKind} {i j : Int} {ts : Array TypeId} (hy : ev E y = some (.int kd i) := by rfl) (hz : ev E z = some (.int kd j) := by rfl) : PS P x E L (.call ⟨.builtin .min, #[y, z], ts⟩) ty (.int kd (min i j)) := ⟨fun a w _ _ _ _ hE _ => by
  simp only [execOp, resolve, invoke, builtin]
  have : (if j < i then j else i) = min i j := by rw [Int.min_def]; split <;> split <;> omega
  simp [hE.ev hy, hE.ev hz, Builtin.min_, Builtin.min2, this]⟩
theorem PS.mx {kd : IntKind} {i j : Int} {ts : Array TypeId} (hy : ev E y = some (.int kd i) := by rfl) (hz : ev E z = some (.int kd j) := by rfl) : PS P x E L (.call ⟨.builtin .max, #[y, z], ts⟩) ty (.int kd (max i j)) := ⟨fun a w _ _ _ _ hE _ => by
  simp only [execOp, resolve, invoke, builtin]
  have : (if j > i then j else i) = max i j := by rw [Int.max_def]; split <;> split <;> omega
  simp [hE.ev hy, hE.ev hz, Builtin.max_, Builtin.max2, this]⟩
/-! ### structs of ints compared -/
class EqT2 (P : Program) (t : TypeId) : Prop where
  g : P.eqGuardType P.depth t = false
  h : ∀ (a b c d : Int) (w : World), (Op.equalIn 10000 t (.agg #[.int .i64 a, .int .i64 b]) (.agg #[.int .i64 c, .int .i64 d])).run P w = .ok (a == c && b == d) w
theorem PS.eqA [hQ : EqT2 P t] {a b c d : Int} (hy : ev E y = some (.agg #[.int .i64 a, .int .i64 b]) := by rfl) (hz : ev E z = some (.agg #[.int .i64 c, .int .i64 d]) := by rfl) : PS P x E L (.binOp .eql t y z t') ty (.bool (a == c && b == d)) := ⟨fun s w _ _ _ _ hE _ => by
  simp only [execOp, hE.ev hy, hE.ev hz]
  simp [run_eqGuard_agg w _ t y z _ _ hQ.g, run_eql_struct, hQ.h a b c d w]⟩
theorem PS.neA [hQ : EqT2 P t] {a b c d : Int} (hy : ev E y = some (.agg #[.int .i64 a, .int .i64 b]) := by rfl) (hz : ev E z = some (.agg #[.int .i64 c, .int .i64 d]) := by rfl) : PS P x E L (.binOp .neq t y z t') ty (.bool (!(a == c && b == d))) := ⟨fun s w _ _ _ _ hE _ => by
  simp only [execOp, hE.ev hy, hE.ev hz]
  simp [run_eqGuard_agg w _ t y z _ _ hQ.g, run_neq_struct, hQ.h a b c d w]⟩
/-! ### structs of ints compared, however many -/
def ints (as : List Int) : Array Value := (as.map (Value.int .i64)).toArray
def ofInts : List Value → Option (List Int)
  | [] => some []
  | .int .i64 a :: vs => match ofInts vs with
    | some as => some (a :: as)
    | none => none
  | _ => none
def eqI : List Int → List Int → Bool
  | a :: as, b :: bs => (a == b) && eqI as bs
  | _, _ => true
def isI64 : Option TypeDesc → Bool
  | some (.int .i64) => true
  | _ => false
def intFields (P : Program) : Nat → List Field → Bool
  | _, [] => true
  | k, f :: fs => (!(f.name == "_") && (Nat.beq f.offset k && isI64 (P.underlying f.type))) && intFields P (k + 1) fs
class EqTI (P : Program) (t : TypeId) (n : outParam Nat) : Prop where
  g : P.eqGuardType P.depth t = false
  u : P.underlying t = some (.struct (P.fieldsOf t))
  p : P.stoodInHeld t = false
  f : intFields P 0 (P.fieldsOf t).toList = true
  l : (P.fieldsOf t).toList.length = n
theorem ofInts_eq : ∀ {vs : List Value} {as : List Int}, ofInts vs = some as → vs = as.map (Value.int .i64)
  | [], as, h => by cases h; rfl
  | v :: vs, as, h => by
    cases v with
    | int kd a =>
      cases kd with
      | i64 =>
        simp only [ofInts] at h
        split at h
        · rename_i hh
          cases h
          rw [ofInts_eq hh]
          rfl
        · cases h
      | _ => simp [ofInts] at h
    | _ => simp [ofInts] at h
theorem eqFields_ints (d : Nat) (w : World) {xs ys : List Int} : ∀ (fs : List Field) (k : Nat), intFields P k fs = true → k + fs.length = xs.length → k + fs.length = ys.length → (Op.eqFields (d + 1) (ints xs) (ints ys) fs).run P w = .ok (eqI (xs.drop k) (ys.drop k)) w
  | [], k, _, h1, h2 => by
    rw [List.drop_of_length_le (by simp at h1; omega)]
    simp [Op.eqFields, eqI]
  | f :: fs, k, h, h1, h2 => by
    simp only [List.length_cons] at h1 h2
    simp only [intFields, Bool.and_eq_true, Bool.not_eq_true'] at h
    obtain ⟨⟨hn, ho, hi⟩, hr⟩ := h
    have ho := Nat.eq_of_beq_eq_true ho
    have hu : P.underlying f.type = some (.int .i64) := by
      unfold isI64 at hi
      split at hi
      · assumption
      · cases hi
    have hk : ∀ (zs : List Int) (hz : k < zs.length), (part f.type (ints zs) f.offset).run P w = .ok (.int .i64 zs[k]) w := fun zs hz => by
      have : (ints zs)[f.offset]? = some (.int .i64 zs[k]) := by rw [ho]; simp [ints, hz]
      simp [part, isAgg, run_underlying hu, this]
    have hn' : f.name ≠ "_" := by simpa using hn
    rw [Op.eqFields]
    simp only [if_pos hn', Sem.run_bind, hk xs (by omega), hk ys (by omega), run_equalIn_int w d f.type .i64 .i64 _ _ hu, Result.andThen_ok]
    rw [List.drop_eq_getElem_cons (l := xs) (by omega), List.drop_eq_getElem_cons (l := ys) (by omega)]
    have ih := eqFields_ints d w (xs := xs) (ys := ys) fs (k + 1) hr (by omega) (by omega)
    simp only [eqI]
    cases hq : xs[k] == ys[k] with
    | true => simp only [Bool.not_true, Bool.false_eq_true, if_false, Bool.true_and]; exact ih
    | false => simp
theorem EqTI.run {n : Nat} [hQ : EqTI P t n] {vs us : Array Value} {as bs : List Int} (ha : ofInts vs.toList = some as) (hb : ofInts us.toList = some bs) (h1 : as.length = n) (h2 : bs.length = n) (w : World) :
    (Op.equalIn 10000 t (.agg vs) (.agg us)).run P w = .ok (eqI as bs) w := by
  have e1 : vs = ints as := by rw [ints, ← ofInts_eq ha]
  have e2 : us = ints bs := by rw [ints, ← ofInts_eq hb]
  subst e1 e2
  rw [run_equalIn_struct w 9999 t _ _ hQ.u hQ.p, eqFields_ints 9998 w (xs := as) (ys := bs) _ 0 hQ.f (by rw [hQ.l]; omega) (by rw [hQ.l]; omega)]
  rfl
theorem eqI_eq : ∀ {as bs : List Int}, as.length = bs.length → (eqI as bs = true ↔ as = bs)
  | [], [], _ => by simp [eqI]
  | a :: as, b :: bs, h => by
    simp only [eqI, Bool.and_eq_true, beq_iff_eq, List.cons.injEq]
    rw [eqI_eq (by simpa using h)]
theorem PS.eqS {n : Nat} [hQ : EqTI P t n] {vs us : Array Value} {as bs : List Int} (hy : ev E y = some (.agg vs) := by rfl) (hz : ev E z = some (.agg us) := by rfl) (ha : ofInts vs.toList = some as := by rfl) (hb : ofInts us.toList = some bs := by rfl) (h1 : as.length = n := by rfl) (h2 : bs.length = n := by rfl) :
    PS P x E L (.binOp .eql t y z t') ty (.bool (eqI as bs)) := ⟨fun s w _ _ _ _ hE _ => by
  simp only [execOp, hE.ev hy, hE.ev hz]
  simp [run_eqGuard_agg w _ t y z _ _ hQ.g, run_eql_struct, EqTI.run ha hb h1 h2 w]⟩
theorem PS.neS {n : Nat} [hQ : EqTI P t n] {vs us : Array Value} {as bs : List Int} (hy : ev E y = some (.agg vs) := by rfl) (hz : ev E z = some (.agg us) := by rfl) (ha : ofInts vs.toList = some as := by rfl) (hb : ofInts us.toList = some bs := by rfl) (h1 : as.length = n := by rfl) (h2 : bs.length = n := by rfl) :
    PS P x E L (.binOp .neq t y z t') ty (.bool (!(eqI as bs))) := ⟨fun s w _ _ _ _ hE _ => by
  simp only [execOp, hE.ev hy, hE.ev hz]
  simp [run_eqGuard_agg w _ t y z _ _ hQ.g, run_neq_struct, EqTI.run ha hb h1 h2 w]⟩
/-! ### boxed rows -/
/-- A slice variable that holds a row of its own. -/
def boxR {α : Type} (b : Nat) (T : TypeId) (q : Enc α) (e : TypeId) (xs : List α) : HP := fun h => ∃ v, sepL [blk b (.cells #[v] T (0, 0)), row q e v xs] h
theorem Pick.box {α : Type} {q : Enc α} {xs : List α} {b : Nat} {e T : TypeId} (h1 : Pick L (blk b (.cells #[v] T (0, 0))) L1) (h2 : Pick L1 (row q e v xs) L2) : Pick L (boxR b T q e xs) L2 := ⟨fun g hg => by
  obtain ⟨g1, g2, d, rfl, ha, hb⟩ := h1.h g hg
  obtain ⟨g3, g4, d', rfl, hc, hd⟩ := h2.h g2 hb
  obtain ⟨da, db⟩ := disj_join.1 d
  refine ⟨PH.join g1 g3, g4, disj_comm (disj_join.2 ⟨disj_comm db, disj_comm d'⟩), (join_assoc _ _ _).symm, ⟨v, g1, g3, da, rfl, ha, g3, (fun _ => none), fun _ => .inr rfl, ?_, hc, fun _ => rfl⟩, hd⟩
  funext j; unfold PH.join; cases g3 j <;> rfl⟩
theorem SAT.unbox {α : Type} {q : Enc α} {xs : List α} {b : Nat} {e T : TypeId} {w0 w : World} {O : Nat → Prop} (h : SAT w0 O (boxR b T q e xs :: L) w) : ∃ v, SAT w0 O (blk b (.cells #[v] T (0, 0)) :: row q e v xs :: L) w := by
  obtain ⟨hK, g, he, hd, g1, g2, d, rfl, ⟨v, hv⟩, hL⟩ := h
  exact ⟨v, hK, _, he, hd, sepL_append (L1 := [blk b (.cells #[v] T (0, 0)), row q e v xs]) |>.2 ⟨g1, g2, d, rfl, hv, hL⟩⟩
theorem iBox {α : Type} {L L' : List HP} {b : Nat} {T : TypeId} {q : Enc α} {e : TypeId} {xs : List α} (h : Pick L (boxR b T q e xs) L') : Pick L (boxR b T q e xs) L' := h
theorem iEBox {α : Type} {L L' : List HP} {b : Nat} {T : TypeId} {q : Enc α} {e : TypeId} {xs : List α} (h : Ent L (boxR b T q e xs :: L')) : Ent L (boxR b T q e xs :: L') := h
theorem OJ.unbox {α : Type} {q : Enc α} {xs : List α} {b : Nat} {e T : TypeId} (h : ∀ v, OJ P x E (blk b (.cells #[v] T (0, 0)) :: row q e v xs :: L) ops rest k) : OJ P x E (boxR b T q e xs :: L) ops rest k := ⟨fun a w hE hS => by
  obtain ⟨v, hS⟩ := hS.unbox
  exact (h v).h a w hE hS⟩
theorem J.unbox {c : Code} {α : Type} {q : Enc α} {xs : List α} {b : Nat} {e T : TypeId} (h : ∀ v, J P x E (blk b (.cells #[v] T (0, 0)) :: row q e v xs :: L) c k) : J P x E (boxR b T q e xs :: L) c k := ⟨fun a w hE hS => by
  obtain ⟨v, hS⟩ := hS.unbox
  exact (h v).h a w hE hS⟩
theorem AJ.unbox {α : Type} {q : Enc α} {xs : List α} {s : Nat × Nat} {b fuel : Nat} {e T : TypeId} {L0 L1 : List HP} {l : List Oper} {dl : List Nat} (h : ∀ v, AJ P x E (blk b (.cells #[v] T (0, 0)) :: row q e v xs :: L) L0 L1 s l fuel dl k) : AJ P x E (boxR b T q e xs :: L) L0 L1 s l fuel dl k := ⟨fun hst a w hE hS h1 h2 => by
  obtain ⟨v, hS⟩ := hS.unbox
  exact (h v).h hst a w hE hS h1 h2⟩
theorem OJ.unboxP {α : Type} {q : Enc α} {xs : List α} {b : Nat} {e T : TypeId} (h : ∀ v, OJ P x E (blk b (.cells #[v] T (0, 0)) :: row q e v xs :: L') ops rest k) (hp : autoParam (Pick L (boxR b T q e xs) L') APB.h._autoParam) : OJ P x E L ops rest k := ⟨fun a w hE hS => by
  obtain ⟨v, hS⟩ := (hS.pick hp).unbox
  exact (h v).h a w hE hS⟩
theorem J.unboxP {c : Code} {α : Type} {q : Enc α} {xs : List α} {b : Nat} {e T : TypeId} (h : ∀ v, J P x E (blk b (.cells #[v] T (0, 0)) :: row q e v xs :: L') c k) (hp : autoParam (Pick L (boxR b T q e xs) L') APB.h._autoParam) : J P x E L c k := ⟨fun a w hE hS => by
  obtain ⟨v, hS⟩ := (hS.pick hp).unbox
  exact (h v).h a w hE hS⟩
/-! ### a result that lies in a cell -/
theorem resC {cc : Tmp} {rt : TypeId} {b f : Nat} {vs : List Value} {cs : Array Value} {T : TypeId} {sz bt : Nat} {zv : Value} [hT : Ty P rt true sz bt zv] (hf : x.fn.results = #[.cell cc rt]) (hv : lookup E cc = some (.pointer (some ⟨b, f, none⟩))) (hp : Pick L (blk b (.cells cs T (0, 0))) L') (hs : slc cs.toList f sz = vs) (hl : Nat.ble (f + sz) cs.toList.length = true) {a : Act} {w : World}
    (hE : EnvOK x.n x.ds E a) (hS : SAT x.w0 x.O L w) : (results x.fn a.tmps).run P w = .ok (.agg vs.toArray) w := by
  have h := (PS.loadA (P := P) (x := x) (E := E) (L := L) (t := rt) (y := .tmp cc) (ty := 0) hv hp hs hl).h a w none "" #[] none hE hS
  have h2 : (loadVar rt ⟨b, f, none⟩).run P w = .ok (.agg vs.toArray) w := by
    have he := hE.get cc _ hv
    simp only [execOp, Act.eval, he] at h
    simp [Instr.loadAt, Instr.sureAddr, Sem.run_bind] at h
    revert h
    cases (loadVar rt ⟨b, f, none⟩).run P w <;> simp [Result.andThen]
  have he := hE.get cc _ hv
  rw [Array.getD_eq_getD_getElem?] at he
  simp [results, hf, he, asAddr, h2]
theorem J.retC {cc : Tmp} {rt : TypeId} {b f : Nat} {vs : List Value} {cs : Array Value} {T : TypeId} {sz bt : Nat} {zv : Value} (h : ∀ w, SAT x.w0 x.O L w → x.R (.returned (.agg vs.toArray)) w) (hf : x.fn.results = #[.cell cc rt] := by rfl) (hT : Ty P rt true sz bt zv := by infer_instance) (hv : lookup E cc = some (.pointer (some ⟨b, f, none⟩)) := by rfl)
    (hp : autoParam (Pick L (blk b (.cells cs T (0, 0))) L') APK.h._autoParam) (hs : slc cs.toList f sz = vs := by rfl) (hl : Nat.ble (f + sz) cs.toList.length = true := by rfl) (hq : x.Q0 = bodyPost P x.fn x.R := by rfl) (hds : x.ds = [] := by rfl) : J P x E L .ret k := ⟨fun _ w hE hS =>
  wpIn_ret (post_ret (hq ▸ ⟨by rw [hE.defers, hds]; rfl, _, resC hf hv hp hs hl hE hS, h w hS⟩))⟩
theorem dropD {α : Type} {l : List α} {i : Nat} {d : α} (h : i < l.length) : l.drop i = l.getD i d :: l.drop (i + 1) := by
  rw [List.drop_eq_getElem_cons h]
  simp [List.getD_eq_getElem?_getD, h]
theorem takeAll {α : Type} (l : List α) (n : Nat) : (l.drop n).take (l.length - n) = l.drop n := List.take_of_length_le (by simp)
theorem tup2 (a b : Value) : tup [a, b] = .tuple #[a, b] := rfl
theorem tup1 (a : Value) : tup [a] = a := rfl
theorem Ent.row {α : Type} {q : Enc α} {xs xs' : List α} {e : TypeId} (h : Ent L1 L2) (he : xs = xs') (hp : autoParam (Pick L (SL.row q e v xs) L1) APK.h._autoParam) : Ent L (SL.row q e v xs' :: L2) := he ▸ Ent.pick hp h
theorem Ent.box {α : Type} {q : Enc α} {xs xs' : List α} {b : Nat} {e T : TypeId} (h : Ent L1 L2) (he : xs = xs') (hp : autoParam (Pick L (boxR b T q e xs) L1) APK.h._autoParam) : Ent L (boxR b T q e xs' :: L2) := he ▸ Ent.pick hp h
theorem Ent.box2 {α : Type} {q : Enc α} {xs xs' : List α} {b : Nat} {e T : TypeId} {L3 : List HP} (h : Ent L2 L3) (he : xs = xs') (h1 : autoParam (Pick L (blk b (.cells #[v] T (0, 0))) L1) APK.h._autoParam) (h2 : autoParam (Pick L1 (SL.row q e v xs) L2) APK.h._autoParam) : Ent L (boxR b T q e xs' :: L3) := he ▸ Ent.pick (Pick.box h1 h2) h
theorem Ent.blk {b : Nat} {o o' : Obj} (h : Ent L1 L2) (he : o = o') (hp : autoParam (Pick L (SL.blk b o) L1) APB.h._autoParam) : Ent L (SL.blk b o' :: L2) := he ▸ Ent.pick hp h
theorem Ent.any {p : HP} (h : Ent L1 L2) (hp : autoParam (Pick L p L1) APKR.h._autoParam) : Ent L (p :: L2) := Ent.pick hp h
/-! .. the same, the lists being alike as they stand (S), or by what they mean (L) -/
theorem Ent.rowS {α : Type} {q : Enc α} {xs xs' : List α} {e : TypeId} (h : Ent L1 L2) (hp : autoParam (Pick L (SL.row q e v xs) L1) APK.h._autoParam) (he : xs = xs' := by with_reducible rfl) : Ent L (SL.row q e v xs' :: L2) := he ▸ Ent.pick hp h
theorem Ent.boxS {α : Type} {q : Enc α} {xs xs' : List α} {b : Nat} {e T : TypeId} (h : Ent L1 L2) (hp : autoParam (Pick L (boxR b T q e xs) L1) APK.h._autoParam) (he : xs = xs' := by with_reducible rfl) : Ent L (boxR b T q e xs' :: L2) := he ▸ Ent.pick hp h
theorem Ent.box2S {α : Type} {q : Enc α} {xs xs' : List α} {b : Nat} {e T : TypeId} {L3 : List HP} (h : Ent L2 L3) (h1 : autoParam (Pick L (SL.blk b (.cells #[v] T (0, 0))) L1) APK.h._autoParam) (h2 : autoParam (Pick L1 (SL.row q e v xs) L2) APK.h._autoParam) (he : xs = xs' := by with_reducible rfl) : Ent L (boxR b T q e xs' :: L3) := he ▸ Ent.pick (Pick.box h1 h2) h
theorem Ent.rowL {α : Type} {q : Enc α} {xs xs' : List α} {e : TypeId} (h : Ent L1 L2) (hp : autoParam (Pick L (SL.row q e v xs) L1) APK.h._autoParam) (he : xs = xs' := by first | with_reducible rfl | rfl) : Ent L (SL.row q e v xs' :: L2) := he ▸ Ent.pick hp h
theorem Ent.boxL {α : Type} {q : Enc α} {xs xs' : List α} {b : Nat} {e T : TypeId} (h : Ent L1 L2) (hp : autoParam (Pick L (boxR b T q e xs) L1) APK.h._autoParam) (he : xs = xs' := by first | with_reducible rfl | rfl) : Ent L (boxR b T q e xs' :: L2) := he ▸ Ent.pick hp h
theorem Ent.box2L {α : Type} {q : Enc α} {xs xs' : List α} {b : Nat} {e T : TypeId} {L3 : List HP} (h : Ent L2 L3) (h1 : autoParam (Pick L (SL.blk b (.cells #[v] T (0, 0))) L1) APK.h._autoParam) (h2 : autoParam (Pick L1 (SL.row q e v xs) L2) APK.h._autoParam) (he : xs = xs' := by first | with_reducible rfl | rfl) : Ent L (boxR b T q e xs' :: L3) := he ▸ Ent.pick (Pick.box h1 h2) h
theorem Ent.blkS {b : Nat} {o o' : Obj} (h : Ent L1 L2) (hp : autoParam (Pick L (SL.blk b o) L1) APB.h._autoParam) (he : o = o' := by rfl) : Ent L (SL.blk b o' :: L2) := he ▸ Ent.pick hp h
theorem JL.useL {c : Code} {E' : List (Nat × Value)} (h : JL P x E' L' c k) (hL : Ent L L') (hE : sub E' E := by ((repeat (first | exact sub.nil | refine sub.cons (by rfl) ?_ | refine sub.cons (int_some (by omega)) ?_)); first | done | fail)) : JL P x E L c k := JL.ent hL (JL.weaken hE h)
/-- A loop that carries a value. -/
theorem J.loopV {c : Code} {ι : Type} (Inv : ι → Value → Prop) (μ : ι → Nat) (E' : ι → Value → List (Nat × Value)) (L' : ι → Value → List HP) (i : ι) (u : Value) (hi : Inv i u)
    (hs : ∀ i u, Inv i u → (∀ j u', Inv j u' → μ j < μ i → JL P x (E' j u') (L' j u') c k) → J P x (E' i u) (L' i u) c (.loop c :: k)) (hE : sub (E' i u) E := by repeat (first | exact sub.nil | refine sub.cons (by rfl) ?_)) (hL : autoParam (Ent L (L' i u)) AENT.h._autoParam) : J P x E L (.loop c) k :=
  J.loopI (fun p : ι × Value => Inv p.1 p.2) (fun p => μ p.1) (fun p => E' p.1 p.2) (fun p => L' p.1 p.2) (i, u) hi (fun p hp ih => hs p.1 p.2 hp fun j u' h1 h2 => ih (j, u') h1 h2) hE hL
theorem J.loopW {c : Code} {ι κ : Type} (Inv : ι → κ → Value → Prop) (μ : ι → Nat) (E' : ι → κ → Value → List (Nat × Value)) (L' : ι → κ → Value → List HP) (i : ι) (a : κ) (u : Value) (hi : Inv i a u)
    (hs : ∀ i a u, Inv i a u → (∀ j a' u', Inv j a' u' → μ j < μ i → JL P x (E' j a' u') (L' j a' u') c k) → J P x (E' i a u) (L' i a u) c (.loop c :: k)) (hE : sub (E' i a u) E := by repeat (first | exact sub.nil | refine sub.cons (by rfl) ?_)) (hL : autoParam (Ent L (L' i a u)) AENT.h._autoParam) : J P x E L (.loop c) k :=
  J.loopI (fun p : ι × κ × Value => Inv p.1 p.2.1 p.2.2) (fun p => μ p.1) (fun p => E' p.1 p.2.1 p.2.2) (fun p => L' p.1 p.2.1 p.2.2) (i, a, u) hi (fun p hp ih => hs p.1 p.2.1 p.2.2 hp fun j a' u' h1 h2 => ih (j, a', u') h1 h2) hE hL
theorem J.retI {rs : List ResultVar} {a b : Int} (he : a = b) (hR : x.R = Ends x.w0 x.O (fun _ : Unit => Value.int .i64 b) (fun _ => []) (fun _ => True) := by rfl) (hf : x.fn.results = rs.toArray := by rfl) (hv : resV E rs = some [.int .i64 a] := by rfl) (hq : x.Q0 = bodyPost P x.fn x.R := by rfl) (hds : x.ds = [] := by rfl) : J P x E L .ret k := by
  subst he
  exact J.ret (vs := [.int .i64 a]) (fun w hS => hR ▸ ends () trivial rfl Ent.nil w hS) hf hv hq hds
/-- Fields compared one by one. -/
theorem eqf_one {d : Nat} {xs ys : Array Value} {f : Field} {a b : Int} {w : World} (hn : (f.name == "_") = false) (ha : (part f.type xs f.offset).run P w = .ok (.int .i64 a) w) (hb : (part f.type ys f.offset).run P w = .ok (.int .i64 b) w) (hk : P.underlying f.type = some (.int .i64)) :
    (Op.eqFields (d + 1) xs ys [f]).run P w = .ok (a == b) w := by
  have hn' : f.name ≠ "_" := by simpa using hn
  simp only [Op.eqFields, if_pos hn', Sem.run_bind, ha, hb, run_equalIn_int w d f.type .i64 .i64 a b hk, Result.andThen_ok]
  cases (a == b) <;> simp
theorem eqf_cons {d : Nat} {xs ys : Array Value} {f : Field} {fs : List Field} {a b : Int} {r : Bool} {w : World} (hn : (f.name == "_") = false) (ha : (part f.type xs f.offset).run P w = .ok (.int .i64 a) w) (hb : (part f.type ys f.offset).run P w = .ok (.int .i64 b) w) (hk : P.underlying f.type = some (.int .i64))
    (hr : (Op.eqFields (d + 1) xs ys fs).run P w = .ok r w) : (Op.eqFields (d + 1) xs ys (f :: fs)).run P w = .ok (a == b && r) w := by
  have hn' : f.name ≠ "_" := by simpa using hn
  rw [Op.eqFields]
  simp only [if_pos hn', Sem.run_bind, ha, hb, run_equalIn_int w d f.type .i64 .i64 a b hk, Result.andThen_ok]
  cases (a == b)
  · simp
  · simpa using hr
theorem EqT2.mk' {fs : Array Field} {f1 f2 : Field} (hg : P.eqGuardType P.depth t = false) (hu : P.underlying t = some (.struct fs)) (hp : P.stoodInHeld t = false) (hfs : fs = #[f1, f2])
    (h1 : (f1.name == "_") = false) (h2 : (f2.name == "_") = false) (k1 : P.underlying f1.type = some (.int .i64)) (k2 : P.underlying f2.type = some (.int .i64))
    (p1 : ∀ (a b : Int) w, (part f1.type #[.int .i64 a, .int .i64 b] f1.offset).run P w = .ok (.int .i64 a) w) (p2 : ∀ (a b : Int) w, (part f2.type #[.int .i64 a, .int .i64 b] f2.offset).run P w = .ok (.int .i64 b) w) : EqT2 P t := by
  subst hfs
  refine ⟨hg, fun a b c d w => ?_⟩
  have hf : P.fieldsOf t = #[f1, f2] := by simp [Program.fieldsOf, hu]
  rw [run_equalIn_struct w 9999 t _ _ (by rw [hf]; exact hu) hp, hf]
  exact eqf_cons h1 (p1 a b w) (p1 c d w) k1 (eqf_one h2 (p2 a b w) (p2 c d w) k2)
end
end Go.SL

/- Function values; ranges over functions: iterators' contracts, rounds, leaving with marks. -/
set_option linter.unusedVariables false
set_option linter.unusedSimpArgs false
namespace Go.SL
open Go.RowKit

/-- Resources as one. -/
def grp (L : List HP) : HP := fun h => sepL L h
/-- One of several. -/
def exR {ι : Type} (L : ι → List HP) : HP := fun h => ∃ i, sepL (L i) h
theorem SAT.grp {w0 w : World} {O : Nat → Prop} {L1 L2 : List HP} (h : SAT w0 O (L1 ++ L2) w) : SAT w0 O (SL.grp L1 :: L2) w :=
  ⟨h.1, let ⟨g, a, b, c⟩ := h.2; ⟨g, a, b, let ⟨h1, h2, d, e, p, q⟩ := sepL_append.1 c; ⟨h1, h2, d, e, p, q⟩⟩⟩
theorem SAT.ungrp {w0 w : World} {O : Nat → Prop} {L1 L2 : List HP} (h : SAT w0 O (SL.grp L1 :: L2) w) : SAT w0 O (L1 ++ L2) w :=
  ⟨h.1, let ⟨g, a, b, c⟩ := h.2; ⟨g, a, b, let ⟨h1, h2, d, e, p, q⟩ := c; sepL_append.2 ⟨h1, h2, d, e, p, q⟩⟩⟩
theorem SAT.ex {ι : Type} {L : ι → List HP} {w0 w : World} {O : Nat → Prop} {L2 : List HP} (h : SAT w0 O (exR L :: L2) w) : ∃ i, SAT w0 O (L i ++ L2) w := by
  obtain ⟨hk, g, a, b, h1, h2, d, e, ⟨i, p⟩, q⟩ := h
  exact ⟨i, hk, g, a, b, sepL_append.2 ⟨h1, h2, d, e, p, q⟩⟩
theorem SAT.inEx {ι : Type} {L : ι → List HP} (i : ι) {w0 w : World} {O : Nat → Prop} {L2 : List HP} (h : SAT w0 O (L i ++ L2) w) : SAT w0 O (exR L :: L2) w :=
  ⟨h.1, let ⟨g, a, b, c⟩ := h.2; ⟨g, a, b, let ⟨h1, h2, d, e, p, q⟩ := sepL_append.1 c; ⟨h1, h2, d, e, ⟨i, p⟩, q⟩⟩⟩
theorem SAT.perm {w0 w : World} {O : Nat → Prop} {L L' : List HP} (hp : ∀ h, sepL L h → sepL L' h) (h : SAT w0 O L w) : SAT w0 O L' w := ⟨h.1, let ⟨g, a, b, c⟩ := h.2; ⟨g, a, b, hp g c⟩⟩
theorem Rd.ent {w0 : World} {O : Nat → Prop} {L L' : List HP} {R : World → Prop} (he : Ent L L') (h : Rd w0 O L' R) : Rd w0 O L R := ⟨fun w hw => h.h w (hw.ent he)⟩
theorem RdAll.mem {w0 : World} {O : Nat → Prop} {L : List HP} {Rs : List (World → Prop)} {R : World → Prop} (h : RdAll w0 O L Rs) (hR : R ∈ Rs) : Rd w0 O L R := h.h R hR

section
variable {P : Program} {x : Cx} {E : List (Nat × Value)} {L L' L1 L2 : List HP} {k : List Fr} {ops : Array Oper} {rest : List Oper}
variable {ty t t' t'' : TypeId} {y z c : Operand} {v u : Value}

/-! ### function values -/
theorem PS.makeFunc {fn : Fn} {cs : List Operand} {bs : List Value} (hv : evs E cs = some bs := by rfl) : PS P x E L (.makeFunc fn #[] cs.toArray) ty (.func fn #[] bs.toArray) := ⟨fun a w _ _ _ _ hE _ => by
  simp [execOp, Instr.makeFunc, hE.evs hv]⟩
/-- A call of a function value. -/
theorem AS.callV {f : FuncId} {as : List Operand} {ts : Array TypeId} {args bs : List Value} {Rs : List (World → Prop)} {X : Type} {ret : X → Value} {Lo : X → List HP} {po : X → Prop} [hF : FnB P f]
    (hs : Spec P f (args ++ bs) Rs L1 ret Lo po) (hy : ev E y = some (.func (.func f) #[] bs.toArray) := by rfl) (ha : evs E as = some args := by rfl) (hL : Parts L L1 L2 := by first | exact Parts.nil | exact Parts.cons xPK Parts.nil | exact Parts.cons xPK (Parts.cons xPK Parts.nil) | exact Parts.cons xPK (Parts.cons xPK (Parts.cons xPK Parts.nil)) | fail) (hR : RdAll x.w0 x.O L2 Rs := by first | exact RdAll.nil | exact RdAll.cons xRD RdAll.nil | exact RdAll.cons xRD (RdAll.cons xRD RdAll.nil) | exact RdAll.cons xRD (RdAll.cons xRD (RdAll.cons xRD RdAll.nil)) | fail) :
    AS P x E L (.call ⟨.value y, as.toArray, ts⟩) ty (fun v L3 => ∃ y, po y ∧ v = ret y ∧ L3 = Lo y ++ L2) := by
  refine ⟨fun a w dst pos aft g next Q hE hS hn => ?_⟩
  have hS' : SAT x.w0 x.O (L1 ++ L2) w := ⟨hS.1, let ⟨g, a, b, c⟩ := hS.2; ⟨g, a, b, hL.h g c⟩⟩
  obtain ⟨Oc, h1, h2, h3⟩ := hS'.split
  refine .inl (wp_calls (f := f) (args := (args ++ bs).toArray) ?_ (hs w Oc (fun R hR' => h2 R (hR.h R hR')) h1) ?_)
  · have := hF.h (args ++ bs).toArray w
    simp only [execOp, resolve, hE.ev hy, Deferred.ofValue]
    simp [invoke, hE.evs ha]
    simpa using this
  · rintro e w' ⟨y, hy, rfl, hS2⟩
    exact ⟨_, rfl, hn _ _ _ ⟨y, hy, rfl, rfl⟩ (h3 _ _ hS2)⟩

/-- What can be read is so. -/
theorem J.know {c : Code} {R : World → Prop} (hk : ∀ w, R w → J P x E L c k) (hr : autoParam (Rd x.w0 x.O L R) ARD.h._autoParam) : J P x E L c k := ⟨fun a w hE hS => (hk w (hr.h w hS)).h a w hE hS⟩
/-! ### iterators -/
/-- The value that a range hands to the function it ranges over. -/
def yv (l : Nat) : Value := .func (.yield l) #[] #[]
/-- What a call of yield does, from p (whatever lies beside). -/
def YAt (P : Program) (w0 : World) (O : Nat → Prop) (l : Nat) (args : List Value) (p pt pf : HP) : Prop :=
  ∀ (F : List HP) (w : World), SAT w0 O (p :: F) w → ∃ f tmps assign body, (Instr.yield l args.toArray).run P w = .ok (.round l f tmps assign body) w ∧
    RoundIn Fence.wide 0 P l f tmps assign body w (fun e w' => (e = .returned (.bool true) ∧ SAT w0 O (pt :: F) w') ∨ (e = .returned (.bool false) ∧ SAT w0 O (pf :: F) w'))
def IEnds (w0 : World) (O : Nat → Prop) (p : HP) (px : Nat → HP) (e : Ending) (w' : World) : Prop := ∃ v, e = .returned v ∧ (SAT w0 O [p] w' ∨ ∃ k, SAT w0 O [px k] w')
/-- An iterator's contract: it hands xs to yield, one by one, until yield says no. -/
structure IterSpec (P : Program) (gf : FuncId) (lb : List Value) (Rs : List (World → Prop)) (Lin : List HP) (xs : List (List Value)) : Prop where
  h : ∀ w0 O (l : Nat) (Iy Ix : Nat → HP), (∀ k, RdAll w0 O [Iy k] Rs) → (∀ k a, xs[k]? = some a → YAt P w0 O l a (Iy k) (Iy (k + 1)) (Ix k)) →
    ∀ w, SAT w0 O (Iy 0 :: Lin) w → Calls P gf (yv l :: lb).toArray w (IEnds w0 O (Iy xs.length) Ix)
theorem IterSpec.mk' {f : FuncId} {fn : Func} {c : Code} {lb : List Value} {Rs : List (World → Prop)} {Lin : List HP} {xs : List (List Value)} {n : Nat}
    (hf : P.funcs[f]? = some fn) (hb : fn.body = some c) (hn : fn.ntmps = n) (hl : Nat.ble (lb.length + 1) n = true)
    (h : ∀ w0 O (l : Nat) (Iy Ix : Nat → HP), (∀ k, RdAll w0 O [Iy k] Rs) → (∀ k a, xs[k]? = some a → YAt P w0 O l a (Iy k) (Iy (k + 1)) (Ix k)) →
      J P ⟨fn, n, IEnds w0 O (Iy xs.length) Ix, w0, O, none, [], bodyPost P fn (IEnds w0 O (Iy xs.length) Ix), body_pan⟩ (argE 0 (yv l :: lb)) (Iy 0 :: Lin) c []) : IterSpec P f lb Rs Lin xs := by
  refine ⟨fun w0 O l Iy Ix hR hY w hS => ?_⟩
  refine callsIn_wide.1 (callsIn_of_wp (F := Fence.wide) (n := 0) hf hb trivial ((h w0 O l Iy Ix hR hY).h _ w ⟨?_, rfl, ?_⟩ hS))
  · have := Nat.le_of_ble_eq_true hl
    simp [hn]
    omega
  · intro t v hv
    obtain ⟨_, h2⟩ := argE_get 0 _ t v hv
    simp only [Nat.sub_zero] at h2
    have hlt := (List.getElem?_eq_some_iff.1 h2).1
    have := (List.getElem?_eq_some_iff.1 h2).2
    show ((yv l :: lb).toArray ++ Array.replicate (fn.ntmps - (yv l :: lb).toArray.size) undef).getD t undef = v
    rw [Array.getD_eq_getD_getElem?, Array.getElem?_append_left (by simpa using hlt), List.getElem?_toArray, h2]
    rfl
/-- yield is called. -/
theorem AS.yield {l : Nat} {as : List Operand} {ts : Array TypeId} {args : List Value} {p pt pf : HP} (hY : YAt P x.w0 x.O l args p pt pf) (hy : ev E y = some (yv l) := by rfl) (ha : evs E as = some args := by rfl) (hp : autoParam (Pick L p L') APK.h._autoParam) :
    AS P x E L (.call ⟨.value y, as.toArray, ts⟩) ty (fun v L3 => (v = .bool true ∧ L3 = pt :: L') ∨ (v = .bool false ∧ L3 = pf :: L')) := by
  refine ⟨fun a w dst pos aft g next Q hE hS hn => ?_⟩
  obtain ⟨f, tmps, assign, body, h1, h2⟩ := hY L' w (hS.pick hp)
  refine .inr ⟨l, f, tmps, assign, body, w, ?_, RoundIn.mono h2 ?_⟩
  · simp only [execOp, resolve, hE.ev hy, yv, Deferred.ofValue]
    simp [invoke, hE.evs ha]
    simpa using h1
  · rintro e w' (⟨rfl, h⟩ | ⟨rfl, h⟩)
    · exact ⟨_, rfl, hn _ _ _ (.inl ⟨rfl, rfl⟩) h⟩
    · exact ⟨_, rfl, hn _ _ _ (.inr ⟨rfl, rfl⟩) h⟩
theorem iends {w0 : World} {O : Nat → Prop} {p : HP} {px : Nat → HP} (hL : Ent L [p]) : ∀ w, SAT w0 O L w → IEnds w0 O p px (.returned v) w := fun _ hS => ⟨v, rfl, .inl (hS.ent hL)⟩
theorem iendsX {w0 : World} {O : Nat → Prop} {p : HP} {px : Nat → HP} (k : Nat) (hL : Ent L [px k]) : ∀ w, SAT w0 O L w → IEnds w0 O p px (.returned v) w := fun _ hS => ⟨v, rfl, .inr ⟨k, hS.ent hL⟩⟩

/-! ### rounds -/
def lp (rc : Loop) (st : LoopState) (pe : Option Code) : Obj := .loop { rc with state := st, pending := pe }
/-- How a round must end. -/
def Rr (x : Cx) (l : Nat) (rc : Loop) (fr : HP) (Lm : List HP) (Lx : Code → List HP) (e : Ending) (w' : World) : Prop :=
  (e = .returned (.bool true) ∧ SAT x.w0 x.O (fr :: blk l (lp rc .ready none) :: Lm) w') ∨ (e = .returned (.bool false) ∧ ∃ c, SAT x.w0 x.O (fr :: blk l (lp rc .done (some c)) :: Lx c) w')
@[reducible] def xB (P : Program) (x : Cx) (l : Nat) (rc : Loop) (fr : HP) (Lm : List HP) (Lx : Code → List HP) : Cx :=
  ⟨x.fn, x.n, x.R, x.w0, x.O, some l, [], roundPost P l (Rr x l rc fr Lm Lx), fun _ _ _ _ _ h => h.elim⟩
def asgQ (P : Program) (l : Nat) (body : Code) (Q : Exit → Act → World → Prop) : Exit → Act → World → Prop :=
  Exit.then (fun a w => ∃ w2, (Instr.beginRound l).run P w = .ok () w2 ∧ body.wpIn (fen (some l)) 0 P Q a w2) (fun _ _ _ => False)
@[reducible] def xA (P : Program) (x : Cx) (l : Nat) (rc : Loop) (fr : HP) (Lm : List HP) (Lx : Code → List HP) (body : Code) : Cx :=
  ⟨x.fn, x.n, x.R, x.w0, x.O, some l, [], asgQ P l body (roundPost P l (Rr x l rc fr Lm Lx)), fun _ _ _ _ _ h => h.elim⟩
theorem SAT.putObj {w0 w : World} {O : Nat → Prop} {b : Nat} {o : Obj} (o' : Obj) (h : SAT w0 O (blk b o :: L) w) : SAT w0 O (blk b o' :: L) (w.putObj b o') :=
  h.put rfl rfl rfl World.putObj_size (fun j hj => World.putObj_heap_other hj) (World.putObj_heap_same (Array.getElem?_eq_some_iff.1 h.read).1)
variable {l : Nat} {rc : Loop} {fr : HP} {Lm : List HP} {Lx : Code → List HP} {body : Code}
theorem JK.begin (h : J P (xB P x l rc fr Lm Lx) E (SL.blk l (lp rc .busy none) :: L') body []) (hp : autoParam (Pick L (SL.blk l (lp rc .ready none)) L') APK.h._autoParam) : JK P (xA P x l rc fr Lm Lx body) E L [] := ⟨fun a w hE hS => by
  have hS' := hS.pick hp
  exact ⟨_, run_beginRound (r := { rc with state := .ready, pending := none }) hS'.read rfl, h.h a _ ⟨hE.size, hE.defers, hE.get⟩ (hS'.putObj _)⟩⟩
theorem sepL_two {p q : HP} {h : PH} (hh : sepL (p :: q :: L) h) : sepL (q :: p :: L) h := sepL_swap hh
theorem JK.more (h : Ent L (fr :: SL.blk l (lp rc .busy none) :: Lm)) : JK P (xB P x l rc fr Lm Lx) E L [] := ⟨fun a w hE hS => by
  have hS' := (hS.ent h).perm (fun _ => sepL_two)
  refine ⟨_, _, run_endRound none hS'.read, .inl ⟨rfl, ?_⟩⟩
  exact (hS'.putObj _).perm (fun _ => sepL_two)⟩
theorem post_up {e : Exit} {a : Act} {w : World} (he : e = .ret ∨ ∃ c, e = .panic c) : ∀ {k : List Fr}, x.Q0 e a w → post P x k e a w
  | [], h => h
  | .code _ :: k, h => by rcases he with rfl | ⟨c, rfl⟩ <;> exact post_up (k := k) (by simp) h
  | .loop _ :: k, h => by rcases he with rfl | ⟨c, rfl⟩ <;> exact post_up (k := k) (by simp) h
  | .blk _ :: k, h => by rcases he with rfl | ⟨c, rfl⟩ <;> exact post_up (k := k) (by simp) h
theorem post_out {id : Nat} {a : Act} {w : World} : ∀ {k : List Fr}, popTo id k = none → x.Q0 (.exit id) a w → post P x k (.exit id) a w
  | [], _, h => h
  | .code c :: k, h, hp => post_out (k := k) h hp
  | .loop c :: k, h, hp => post_out (k := k) h hp
  | .blk i :: k, h, hp => by
    show (if id = i then post P x k .normal a w else post P x k (.exit id) a w)
    simp only [popTo] at h
    split at h
    · cases h
    · rename_i hb
      rw [if_neg (fun e => by subst e; rw [Nat.beq_refl] at hb; cases hb)]
      exact post_out (k := k) h hp
theorem stopR (jump : Code) (h : Ent L (fr :: blk l (lp rc .busy none) :: Lx jump)) {w : World} (hS : SAT x.w0 x.O L w) : ∃ v w', (Instr.endRound l (some jump)).run P w = .ok v w' ∧ Rr x l rc fr Lm Lx (.returned v) w' := by
  have hS' := (hS.ent h).perm (fun _ => sepL_two)
  refine ⟨_, _, run_endRound (some jump) hS'.read, .inr ⟨rfl, jump, ?_⟩⟩
  exact (hS'.putObj _).perm (fun _ => sepL_two)
theorem J.retR (h : Ent L (fr :: blk l (lp rc .busy none) :: Lx .ret)) : J P (xB P x l rc fr Lm Lx) E L .ret k := ⟨fun a w hE hS => wpIn_ret (post_ret (stopR (P := P) (Lm := Lm) (x := x) .ret h hS))⟩
theorem J.brk {id : Nat} (h : Ent L (fr :: blk l (lp rc .busy none) :: Lx (.exit id))) (hk : popTo id k = none := by rfl) : J P (xB P x l rc fr Lm Lx) E L (.exit id) k := ⟨fun a w hE hS => wpIn_exit (post_out hk (stopR (P := P) (Lm := Lm) (x := x) (.exit id) h hS))⟩

/-- What cannot be. -/
def noR : HP := fun _ => False
theorem J.no {c : Code} (hp : autoParam (Pick L noR L') APB.h._autoParam) : J P x E L c k := ⟨fun a w hE hS => by
  obtain ⟨_, _, _, _, _, _, _, _, h, _⟩ := hS.pick hp
  exact h.elim⟩
/-! ### the statement -/
def putL : List Nat → List Value → List (Nat × Value) → List (Nat × Value)
  | p :: ps, v :: vs, E => putL ps vs ((p, v) :: E)
  | _, _, E => E
def allLt (n : Nat) : List Nat → Bool
  | [] => true
  | p :: ps => match Nat.blt p n with
    | true => allLt n ps
    | false => false
theorem putL_ok {n : Nat} {ds ds' : List Nat} {df : List Deferred} (hd : df = markL ds') : ∀ (ps : List Nat) (vs : List Value) (E : List (Nat × Value)) (a : Act), EnvOK n ds E a → allLt n ps = true →
    EnvOK n ds' (putL ps vs E) { tmps := (ps.zip vs).foldl (fun t (p, v) => t.setIfInBounds p v) a.tmps, defers := df }
  | [], vs, E, a, h, _ => by cases vs <;> exact ⟨h.size, hd, h.get⟩
  | p :: ps, [], E, a, h, _ => ⟨h.size, hd, h.get⟩
  | p :: ps, v :: vs, E, a, h, hl => by
    simp only [allLt] at hl
    split at hl
    · rename_i hb
      have := EnvOK.put (d := some p) (v := v) h hb
      exact putL_ok hd ps vs _ _ this hl
    · cases hl
theorem post_ds {D : Nat} : ∀ {k : List Fr} {e : Exit} {a : Act} {w : World}, post P ⟨x.fn, x.n, x.R, x.w0, x.O, x.ro, D :: x.ds, x.Q0, x.pan⟩ k e a w ↔ post P x k e a w := by
  intro k
  have : post P ⟨x.fn, x.n, x.R, x.w0, x.O, x.ro, D :: x.ds, x.Q0, x.pan⟩ k = post P x k := by
    induction k with
    | nil => rfl
    | cons f k ih => cases f <;> simp only [post, ih]
  intro e a w
  rw [this]
@[reducible] def xD (x : Cx) (D : Nat) : Cx := ⟨x.fn, x.n, x.R, x.w0, x.O, x.ro, D :: x.ds, x.Q0, x.pan⟩
def dfr : Obj := .deferred (some [])
theorem sepL_turn {a b : HP} {A B : List HP} {h : PH} (hh : sepL ([a, b] ++ (A ++ B)) h) : sepL ((b :: a :: B) ++ A) h := by
  have h1 : sepL (b :: a :: (A ++ B)) h := sepL_two hh
  obtain ⟨g1, g2, d, rfl, p1, p2⟩ := sepL_append.1 (show sepL ([b, a] ++ (A ++ B)) h from h1)
  obtain ⟨g3, g4, d', rfl, q1, q2⟩ := sepL_append.1 p2
  obtain ⟨da, db⟩ := disj_join.1 d
  refine sepL_append.2 ⟨PH.join g1 g4, g3, ?_, ?_, sepL_append (L1 := [b, a]) |>.2 ⟨g1, g4, db, rfl, p1, q2⟩, q1⟩
  · exact disj_comm (disj_join.2 ⟨disj_comm da, d'⟩)
  · rw [join_assoc, join_comm (disj_comm d')]
theorem J.range {g : Operand} {ps : List Nat} {assign body : Code} {gf : FuncId} {lb : List Value} {Rs : List (World → Prop)} {Lin : List HP} {xs : List (List Value)} [hF : FnB P gf] (L' : Nat → List HP) (Lx : Nat → Code → List HP)
    (hI : IterSpec P gf lb Rs Lin xs) (hRs : ∀ k, RdAll x.w0 x.O (L' k) Rs) (hxs : ∀ a ∈ xs, a.length = ps.length)
    (hbody : ∀ l rc fr k a, xs[k]? = some a → J P (xA P x l rc fr (L' (k + 1)) (Lx k) body) (putL ps a E) (fr :: blk l (lp rc .ready none) :: L' k) assign [])
    (hdone : ∀ D, JK P (xD x D) E (blk D dfr :: L' xs.length) k) (hstop : ∀ D j c, J P (xD x D) E (blk D dfr :: Lx j c) c k)
    (hg : ev E g = some (.func (.func gf) #[] lb.toArray) := by rfl) (hL : autoParam (Ent L (Lin ++ L' 0)) AENT.h._autoParam) (hro : x.ro = none := by rfl) (hps : allLt x.n ps = true := by rfl) : J P x E L (.rangeFunc g ps.toArray assign body) k := by
  refine ⟨fun a w hE hS => ?_⟩
  rw [hro, fen_none]
  refine wpIn_rangeFunc ?_
  intro fn hfn
  obtain ⟨rc, hrc⟩ : ∃ rc : Loop, rc = { state := .ready, pending := none, fn, tmps := a.tmps, params := ps.toArray, assign, body, defers := w.heap.size } := ⟨_, rfl⟩
  obtain ⟨D, hD⟩ : ∃ D, D = w.heap.size := ⟨_, rfl⟩
  obtain ⟨l, hl⟩ : ∃ l, l = w.heap.size + 1 := ⟨_, rfl⟩
  obtain ⟨W1, hW1⟩ : ∃ W1, W1 = (w.alloc dfr).alloc (lp rc .ready none) := ⟨_, rfl⟩
  have hS1 : SAT x.w0 x.O ([blk l (lp rc .ready none), blk D dfr] ++ (Lin ++ L' 0)) W1 := by
    have := ((hS.ent hL).alloc dfr).alloc (lp rc .ready none)
    rw [World.size_alloc] at this
    rw [hW1, hl, hD]
    exact this
  have hlen : ∀ {j : Nat} {b : List Value}, xs[j]? = some b → b.length = ps.length := fun h => hxs _ (List.mem_of_getElem? h)
  refine ⟨l, [{ target := .collected D, args := #[] }], W1, { target := .fn (.func gf) lb.toArray, args := #[yv l] }, W1, gf, (yv l :: lb).toArray, W1, ?_, ?_, fun _ _ => trivial, ?_, (fun h => (by cases h)), ?_⟩
  · rw [show Fence.wide.round = none from rfl, hW1, hl, hD]
    have := run_enterLoop_outer (P := P) (w := w) fn a.tmps ps.toArray assign body
    rw [this, hrc]
    rfl
  · have h0 := hE.ev hg
    simp only [resolve, h0, Deferred.ofValue]
    simp [yv, Act.eval]
  · have := hF.h (yv l :: lb).toArray W1
    simp only [invoke]
    simpa using this
  · have hx : ∀ j, RdAll x.w0 x.O [SL.grp (blk D dfr :: blk l (lp rc .ready none) :: L' j)] Rs := fun j => ⟨fun R hR => ⟨fun W hW => by
      have h1 := SAT.ungrp (L2 := []) hW
      rw [List.append_nil] at h1
      exact ((hRs j).h R hR).h W (SAT.drop (L1 := [blk D dfr, blk l (lp rc .ready none)]) h1)⟩⟩
    have hSt : SAT x.w0 x.O ((blk D dfr :: blk l (lp rc .ready none) :: L' 0) ++ Lin) W1 := hS1.perm (fun _ => sepL_turn)
    have hcall := hI.h x.w0 x.O l (fun j => SL.grp (blk D dfr :: blk l (lp rc .ready none) :: L' j)) (fun j => exR fun c => blk D dfr :: blk l (lp rc .done (some c)) :: Lx j c) hx ?_ W1 (SAT.grp (L2 := Lin) hSt)
    · refine callsIn_wide.2 (hcall.mono ?_)
      have hds : ({ target := Target.collected D, args := #[] } : Deferred) :: a.defers = markL (D :: x.ds) := by rw [hE.defers]; rfl
      have hE' : EnvOK x.n (D :: x.ds) E { a with defers := [{ target := Target.collected D, args := #[] }] ++ a.defers } := ⟨hE.size, hds, hE.get⟩
      rintro e W2 ⟨v, rfl, (h1 | ⟨j, h1⟩)⟩
      · have h2 := SAT.ungrp (L2 := []) h1
        rw [List.append_nil] at h2
        have h3 := h2.perm (fun _ => sepL_two)
        refine ⟨none, _, run_endLoop h3.read (by simp), ?_⟩
        exact post_ds.1 ((hdone D).h _ _ hE' (SAT.drop (L1 := [blk l (.loop { rc with state := .exhausted, pending := none })]) (h3.putObj _)))
      · obtain ⟨c, h2⟩ := h1.ex
        rw [List.append_nil] at h2
        have h3 := h2.perm (fun _ => sepL_two)
        refine ⟨some c, _, run_endLoop h3.read (by simp), ?_⟩
        have := (hstop D j c).h _ _ hE' (SAT.drop (L1 := [blk l (.loop { rc with state := .exhausted, pending := some c })]) (h3.putObj _))
        rw [show fen (xD x D).ro = Fence.wide from by rw [show (xD x D).ro = x.ro from rfl, hro]; rfl] at this
        exact wpIn_mono this fun e a w h => post_ds.1 h
    · -- a round
      intro j b hb F W hW
      have h1 := hW.ungrp
      have h2 : SAT x.w0 x.O (blk l (lp rc .ready none) :: blk D dfr :: (L' j ++ F)) W := h1.perm (fun _ => sepL_two)
      have hy := run_yield (P := P) (args := b.toArray) h2.read (by rw [hrc]; simpa using hlen hb)
      have hz : (({ rc with state := .ready, pending := none } : Loop).params.zip b.toArray).foldl (fun tmps (t, a) => tmps.setIfInBounds t a) ({ rc with state := .ready, pending := none } : Loop).tmps = (ps.zip b).foldl (fun t (p, v) => t.setIfInBounds p v) a.tmps := by
        rw [hrc]
        simp
      rw [hz] at hy
      refine ⟨fn, (ps.zip b).foldl (fun t (p, v) => t.setIfInBounds p v) a.tmps, assign, body, ?_, roundIn_of_wpIn (F := Fence.wide) trivial ?_⟩
      · rw [hy, hrc]
      have hpre := (hbody l rc (SL.grp (blk D dfr :: F)) j b hb).h
      have hEr := putL_ok (df := []) (ds' := []) rfl ps b E a hE hps
      have hSr : SAT x.w0 x.O (SL.grp (blk D dfr :: F) :: blk l (lp rc .ready none) :: L' j) W := by
        refine SAT.grp (h2.perm fun g hg => ?_)
        have e1 : sepL ((blk D dfr :: blk l (lp rc .ready none) :: L' j) ++ F) g := sepL_two hg
        obtain ⟨g1, g2, d, rfl, p1, p2⟩ := sepL_append.1 e1
        obtain ⟨g3, g4, d', rfl, q1, q2⟩ := p1
        have d1 := disj_comm d
        obtain ⟨da, db⟩ := disj_join.1 d1
        refine sepL_append.2 ⟨PH.join g3 g2, g4, ?_, ?_, ⟨g3, g2, disj_comm da, rfl, q1, p2⟩, q2⟩
        · exact disj_comm (disj_join.2 ⟨disj_comm d', disj_comm db⟩)
        · rw [join_assoc, join_assoc, join_comm db]
      have hgo := hpre _ W hEr hSr
      refine wpIn_mono hgo ?_
      intro e a1 w1 h
      cases e with
      | normal =>
        obtain ⟨w2, hw2, hb2⟩ := h
        refine ⟨w2, hw2, wpIn_mono hb2 ?_⟩
        have key : ∀ v w', Rr x l rc (SL.grp (blk D dfr :: F)) (L' (j + 1)) (Lx j) (.returned v) w' →
            ((Ending.returned v = .returned (.bool true) ∧ SAT x.w0 x.O (SL.grp (blk D dfr :: blk l (lp rc .ready none) :: L' (j + 1)) :: F) w') ∨ (Ending.returned v = .returned (.bool false) ∧ SAT x.w0 x.O ((exR fun c => blk D dfr :: blk l (lp rc .done (some c)) :: Lx j c) :: F) w')) := by
          have mv : ∀ (o : Obj) (M : List HP) w', SAT x.w0 x.O (SL.grp (blk D dfr :: F) :: blk l o :: M) w' → SAT x.w0 x.O ((blk D dfr :: blk l o :: M) ++ F) w' := by
            intro o M w' h
            refine h.ungrp.perm fun g hg => ?_
            obtain ⟨g1, g2, d, rfl, ⟨g3, g4, d', rfl, q1, q2⟩, p2⟩ := sepL_append.1 hg
            have d1 := disj_comm d
            obtain ⟨da, db⟩ := disj_join.1 d1
            refine sepL_append.2 ⟨PH.join g3 g2, g4, ?_, ?_, ⟨g3, g2, disj_comm da, rfl, q1, p2⟩, q2⟩
            · exact disj_comm (disj_join.2 ⟨disj_comm d', disj_comm db⟩)
            · rw [join_assoc, join_assoc, join_comm db]
          rintro v w' (⟨h1, h2⟩ | ⟨h1, c, h2⟩)
          · exact .inl ⟨h1, SAT.grp (mv _ _ _ h2)⟩
          · exact .inr ⟨h1, SAT.inEx c (mv _ _ _ h2)⟩
        intro e2 a2 w3 h3
        cases e2 with
        | normal => obtain ⟨v, w', h4, h5⟩ := h3; exact ⟨v, w', h4, key _ _ h5⟩
        | ret => obtain ⟨v, w', h4, h5⟩ := h3; exact ⟨v, w', h4, key _ _ h5⟩
        | exit id => obtain ⟨v, w', h4, h5⟩ := h3; exact ⟨v, w', h4, key _ _ h5⟩
        | goto t => obtain ⟨v, w', h4, h5⟩ := h3; exact ⟨v, w', h4, key _ _ h5⟩
        | panic c => exact h3.elim
        | outgrown => exact h3.elim
      | exit id => exact h.elim
      | goto t => exact h.elim
      | ret => exact h.elim
      | panic c => exact h.elim
      | outgrown => exact h.elim

/-! ### leaving with marks -/
theorem bodyM_pan {fn : Func} {R : Ending → World → Prop} (c : List PanicEntry) (a : Act) (w : World) (d : Option Tmp) (u : Value) (h : (fun e (a : Act) w => match e with | .panic _ => False | _ => bodyPostM Fence.wide 0 P fn R e a w : Exit → Act → World → Prop) (.panic c) (Act.put a d u) w) : (fun e (a : Act) w => match e with | .panic _ => False | _ => bodyPostM Fence.wide 0 P fn R e a w : Exit → Act → World → Prop) (.panic c) a w := h
def bpM (P : Program) (fn : Func) (R : Ending → World → Prop) : Exit → Act → World → Prop := fun e a w => match e with | .panic _ => False | _ => bodyPostM Fence.wide 0 P fn R e a w
theorem bpM_pan {fn : Func} {R : Ending → World → Prop} (c : List PanicEntry) (a : Act) (w : World) (d : Option Tmp) (u : Value) (h : bpM P fn R (.panic c) (Act.put a d u) w) : bpM P fn R (.panic c) a w := h
theorem Spec.mkM {f : FuncId} {fn : Func} {c : Code} {args : List Value} {Rs : List (World → Prop)} {Lin : List HP} {X : Type} {ret : X → Value} {Lo : X → List HP} {po : X → Prop} {n : Nat}
    (hf : P.funcs[f]? = some fn) (hb : fn.body = some c) (hn : fn.ntmps = n) (hl : Nat.ble args.length n = true)
    (h : ∀ w0 O, (∀ R ∈ Rs, Rd w0 O [] R) → SAT w0 O Lin w0 → J P ⟨fn, n, Ends w0 O ret Lo po, w0, O, none, [], bpM P fn (Ends w0 O ret Lo po), bpM_pan⟩ (argE 0 args) Lin c []) : Spec P f args Rs Lin ret Lo po := by
  intro w0 O hR hS
  refine callsIn_wide.1 (callsIn_of_wp_marks (F := Fence.wide) (n := 0) hf hb trivial (wpIn_mono ((h w0 O hR hS).h _ w0 ⟨?_, rfl, ?_⟩ hS) ?_))
  · have := Nat.le_of_ble_eq_true hl
    simp [hn]
    omega
  · intro t v hv
    obtain ⟨_, h2⟩ := argE_get 0 args t v hv
    simp only [Nat.sub_zero] at h2
    have hlt := (List.getElem?_eq_some_iff.1 h2).1
    have := (List.getElem?_eq_some_iff.1 h2).2
    show (args.toArray ++ Array.replicate (fn.ntmps - args.toArray.size) undef).getD t undef = v
    rw [Array.getD_eq_getD_getElem?, Array.getElem?_append_left (by simpa using hlt)]
    simp [hlt, this]
  · intro e a w h
    cases e <;> first | exact h | exact h.elim
/-- The marks' blocks among the resources. -/
structure MarksIn (ds : List Nat) (L L' : List HP) : Prop where
  h : ∀ w0 O w, SAT w0 O L w → ∀ (R : World → Prop), (∀ w', SAT w0 O L' w' → R w') → ∀ (P : Program) (fn : Func) (tmps : Array Value) (R2 : Ending → World → Prop),
    (∀ w', R w' → LeavesInM Fence.wide 0 P fn tmps R2 [] .returning w') → LeavesInM Fence.wide 0 P fn tmps R2 (markL ds) .returning w
theorem MarksIn.nil : MarksIn [] L L := ⟨fun _ _ _ hS _ hR _ _ _ _ h => h _ (hR _ hS)⟩
theorem MarksIn.cons {D : Nat} {ds : List Nat} (hp : Pick L (blk D dfr) L1) (h : MarksIn ds L1 L2) : MarksIn (D :: ds) L L2 := ⟨fun w0 O w hS R hR P fn tmps R2 hl => by
  have hS' := hS.pick hp
  refine ⟨by simp, .inl ⟨D, _, rfl, run_takeDeferred hS'.read, ?_⟩⟩
  exact h.h w0 O _ (SAT.drop (L1 := [blk D (.deferred none)]) (hS'.putObj _)) R hR P fn tmps R2 hl⟩
theorem leavesM {ds : List Nat} {fn : Func} {a : Act} {w : World} {R : Ending → World → Prop} {v : Value} {w0 : World} {O : Nat → Prop} {n : Nat} (hE : EnvOK n ds E a) (hS : SAT w0 O L w) (hm : MarksIn ds L L1)
    (h : ∀ w', SAT w0 O L1 w' → (results fn a.tmps).run P w' = .ok v w' ∧ R (.returned v) w') : LeavesInM Fence.wide 0 P fn a.tmps R a.defers .returning w := by
  rw [hE.defers]
  exact hm.h w0 O w hS (fun w' => (results fn a.tmps).run P w' = .ok v w' ∧ R (.returned v) w') h P fn a.tmps R fun w' h => ⟨v, h.1, h.2⟩
theorem J.retM {rs : List ResultVar} {vs : List Value} {ds : List Nat} (h : ∀ w, SAT x.w0 x.O L1 w → x.R (.returned (tup vs)) w) (hds : x.ds = ds := by rfl) (hm : autoParam (MarksIn ds L L1) AMK.h._autoParam) (hf : x.fn.results = rs.toArray := by rfl) (hv : resV E rs = some vs := by rfl) (hq : x.Q0 = bpM P x.fn x.R := by rfl) : J P x E L .ret k := ⟨fun a w hE hS =>
  wpIn_ret (post_ret (by rw [hq]; exact leavesM (hds ▸ hE) hS hm fun w' hS' => ⟨results_run hf hE hv, h w' hS'⟩))⟩
theorem JK.finM {rs : List ResultVar} {vs : List Value} {ds : List Nat} (h : ∀ w, SAT x.w0 x.O L1 w → x.R (.returned (tup vs)) w) (hds : x.ds = ds := by rfl) (hm : autoParam (MarksIn ds L L1) AMK.h._autoParam) (hf : x.fn.results = rs.toArray := by rfl) (hv : resV E rs = some vs := by rfl) (hq : x.Q0 = bpM P x.fn x.R := by rfl) : JK P x E L [] := ⟨fun a w hE hS => by
  show x.Q0 .normal _ w
  rw [hq]
  exact leavesM (hds ▸ hE) hS hm fun w' hS' => ⟨results_run hf hE hv, h w' hS'⟩⟩
theorem J.retCM {cc : Tmp} {rt : TypeId} {b f : Nat} {vs : List Value} {cs : Array Value} {T : TypeId} {sz bt : Nat} {zv : Value} {ds : List Nat} (h : ∀ w, SAT x.w0 x.O L1 w → x.R (.returned (.agg vs.toArray)) w) (hds : x.ds = ds := by rfl) (hm : autoParam (MarksIn ds L L1) AMK.h._autoParam) (hf : x.fn.results = #[.cell cc rt] := by rfl) (hT : Ty P rt true sz bt zv := by infer_instance) (hv : lookup E cc = some (.pointer (some ⟨b, f, none⟩)) := by rfl)
    (hp : autoParam (Pick L1 (blk b (.cells cs T (0, 0))) L') APK.h._autoParam) (hs : slc cs.toList f sz = vs := by rfl) (hl : Nat.ble (f + sz) cs.toList.length = true := by rfl) (hq : x.Q0 = bpM P x.fn x.R := by rfl) : J P x E L .ret k := ⟨fun a w hE hS =>
  wpIn_ret (post_ret (by rw [hq]; exact leavesM (hds ▸ hE) hS hm fun w' hS' => ⟨resC hf hv hp hs hl hE hS', h w' hS'⟩))⟩
end
end Go.SL

/- Facts as resources, resources of which one is; bytes. -/
set_option linter.unusedVariables false
set_option linter.unusedSimpArgs false
namespace Go.SL
open Go.RowKit
/-- A fact as a resource. -/
def pureR (φ : Prop) : HP := fun h => φ ∧ ∀ k, h k = none
theorem SAT.pure {φ : Prop} {w0 w : World} {O : Nat → Prop} {L : List HP} (h : SAT w0 O (pureR φ :: L) w) : φ ∧ SAT w0 O L w := by
  have h2 := SAT.drop (L1 := [pureR φ]) h
  obtain ⟨_, _, _, _, _, _, _, _, ⟨hp, _⟩, _⟩ := h
  exact ⟨hp, h2⟩
theorem Pick.pure {φ : Prop} {L : List HP} (h : φ) : Pick L (pureR φ) L := ⟨fun g hg => ⟨fun _ => none, g, fun _ => .inl rfl, by funext k; rfl, ⟨h, fun _ => rfl⟩, hg⟩⟩
theorem Pick.ex {ι : Type} {F : ι → List HP} (i : ι) {L L' : List HP} (hp : Parts L (F i) L') : Pick L (exR F) L' := ⟨fun g hg => by
  obtain ⟨h1, h2, d, e, p, q⟩ := sepL_append.1 (hp.h g hg)
  exact ⟨h1, h2, d, e, ⟨i, p⟩, q⟩⟩
section
variable {P : Program} {x : Cx} {E : List (Nat × Value)} {L L' L1 L2 : List HP} {k : List Fr} {ops : Array Oper} {rest : List Oper}
theorem J.exP {c : Code} {ι : Type} {F : ι → List HP} (hp : Pick L (exR F) L') (h : ∀ i, J P x E (F i ++ L') c k) : J P x E L c k := ⟨fun a w hE hS => by
  obtain ⟨i, h2⟩ := (hS.pick hp).ex
  exact (h i).h a w hE h2⟩
theorem J.pureP {c : Code} {φ : Prop} (h : φ → J P x E L c k) : J P x E (pureR φ :: L) c k := ⟨fun a w hE hS => (h hS.pure.1).h a w hE hS.pure.2⟩
end
/-- Bytes. -/
def eByte : Enc UInt8 where
  sz := 1
  f x := [.int .u8 x.toNat]
  d := 0
  dec
    | [.int .u8 x] => if 0 ≤ x ∧ x ≤ 255 then some (UInt8.ofNat x.toNat) else none
    | _ => none
  pos := by decide
  len _ := rfl
  one x u hu := by rw [List.mem_singleton.1 hu]; rfl
  inv cs x h := by
    split at h
    · split at h
      · injection h with h
        subst h
        rename_i y hy
        congr 2
        rw [UInt8.toNat_ofNat']
        omega
      · cases h
    · cases h
theorem byte_bd (x : UInt8) : (x.toNat : Int) ≤ 255 := by have := x.toNat_lt; omega
section
variable {P : Program} {x : Cx} {E : List (Nat × Value)} {L : List HP} {ty t t' : TypeId} {y z : Operand} {v : Value}
theorem PS.convB {k1 : IntKind} {n : UInt8} [h1 : IntT P t k1] [h2 : IntT P t' .i64] (hy : ev E y = some (.int .u8 (n.toNat : Int)) := by rfl) : PS P x E L (.convert t t' y) ty (.int .i64 (n.toNat : Int)) :=
  PS.conv hy (by have := byte_bd n; omega)
/-- An index taken by the length. -/
theorem PS.indexM {α : Type} {q : Enc α} {xs : List α} {e : TypeId} {i : Int} {ag : Bool} {sz bt : Nat} {zv : Value} [hSl : SlT P t e] [hT : Ty P e ag sz bt zv] (hv : ev E y = some v := by rfl) (hi : ev E z = some (.int .i64 (i % (xs.length : Int))) := by rfl)
    (hr : autoParam (Rd x.w0 x.O L (rd q v xs)) ARD.h._autoParam) (h0 : autoParam (0 < xs.length) ABD.h._autoParam) : PS P x E L (.indexAddr t y z) ty (elemP sz v (i % (xs.length : Int)).toNat 0) :=
  PS.indexZ hv hi hr (Int.emod_nonneg _ (by omega)) (Int.emod_lt_of_pos _ (by omega))
theorem PS.loadM {α : Type} {q : Enc α} {xs : List α} {i : Int} {f sq : Nat} {sz bt : Nat} {zv u : Value} [hT : Ty P t false sz bt zv] (hy : ev E y = some (elemP sq v (i % (xs.length : Int)).toNat f) := by rfl) (hr : autoParam (Rd x.w0 x.O L (rd q v xs)) ARD.h._autoParam) (h0 : autoParam (0 < xs.length) ABD.h._autoParam) (hq : q.sz = sq := by rfl)
    (hf : Nat.blt f q.sz = true := by rfl) (hv0 : nth (q.f (xs.getD (i % (xs.length : Int)).toNat q.d)) f = some u := by rfl) : PS P x E L (.load t y) ty u :=
  PS.loadE hy hr (by have h1 := Int.emod_lt_of_pos i (b := (xs.length : Int)) (by omega); have h2 := Int.emod_nonneg i (b := (xs.length : Int)) (by omega); omega) hq hf hv0
end
theorem AS.call2 {P : Program} {x : Cx} {E : List (Nat × Value)} {L L1 L2 : List HP} {ty : TypeId} {f : FuncId} {as : List Operand} {ts : Array TypeId} {args : List Value} {Rs : List (World → Prop)} {X : Type} {ret : X → Value} {p q : X → HP} {po : X → Prop} [hF : FnB P f]
    (hs : Spec P f args Rs L1 ret (fun y => [p y, q y]) po) (ha : evs E as = some args := by rfl) (hL : Parts L L1 L2 := by first | exact Parts.nil | exact Parts.cons xPK Parts.nil | exact Parts.cons xPK (Parts.cons xPK Parts.nil) | exact Parts.cons xPK (Parts.cons xPK (Parts.cons xPK Parts.nil)) | fail) (hR : RdAll x.w0 x.O L2 Rs := by first | exact RdAll.nil | exact RdAll.cons xRD RdAll.nil | exact RdAll.cons xRD (RdAll.cons xRD RdAll.nil) | exact RdAll.cons xRD (RdAll.cons xRD (RdAll.cons xRD RdAll.nil)) | fail) :
    AS P x E L (.call ⟨.value (.func f), as.toArray, ts⟩) ty (fun v L3 => ∃ y, po y ∧ v = ret y ∧ L3 = p y :: q y :: L2) := AS.call hs ha hL hR
theorem xorV_nn {a b : Int} (ha : 0 ≤ a ∧ a ≤ 9223372036854775807) (hb : 0 ≤ b ∧ b ≤ 9223372036854775807) : 0 ≤ xorV a b ∧ xorV a b ≤ 9223372036854775807 := by
  have h : ((BitVec.ofInt 64 a ^^^ BitVec.ofInt 64 b).toNat) < 2 ^ 63 := by
    rw [BitVec.toNat_xor]
    refine Nat.xor_lt_two_pow ?_ ?_
    · rw [BitVec.toNat_ofInt]; omega
    · rw [BitVec.toNat_ofInt]; omega
  unfold xorV
  show 0 ≤ IntKind.i64.wrap (((BitVec.ofInt 64 a ^^^ BitVec.ofInt 64 b).toNat : Nat) : Int) ∧ IntKind.i64.wrap (((BitVec.ofInt 64 a ^^^ BitVec.ofInt 64 b).toNat : Nat) : Int) ≤ 9223372036854775807
  generalize (BitVec.ofInt 64 a ^^^ BitVec.ofInt 64 b).toNat = n at h
  rw [IntWalk.i64_in (n : Int) (by omega)]
  omega
end Go.SL
