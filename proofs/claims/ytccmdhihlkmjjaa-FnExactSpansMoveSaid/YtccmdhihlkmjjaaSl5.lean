/- More rules: structs and slices built, rows, calls, returns. -/
import Derived.Test.YtccmdhihlkmjjaaSl4
namespace Go.SL
open Go.RowKit

class StT (P : Program) (t : TypeId) (pl : outParam (Array (Nat × Nat))) : Prop where
  h : ∃ fs, P.underlying t = some (.struct fs) ∧ ∀ w, (fs.mapM fun f => do pure (f.offset, ← sizeOf f.type) : Sem (Array (Nat × Nat))).run P w = .ok pl w

section
variable {P : Program} {x : Cx} {E : List (Nat × Value)} {L L' : List HP} {k : List Fr} {ops : Array Oper} {rest : List Oper}
variable {ty t t' t'' : TypeId} {y z c : Operand} {v u : Value}

/-- Parts of a struct: their values. -/
def evP (E : List (Nat × Value)) : List (Nat × Operand) → Option (List (Nat × Value))
  | [] => some []
  | (i, y) :: r => match ev E y with
    | some v => match evP E r with
      | some vs => some ((i, v) :: vs)
      | none => none
    | none => none
theorem EnvOK.evP {n : Nat} {ds : List Nat} {a : Act} (h : EnvOK n ds E a) : ∀ {ps : List (Nat × Operand)} {vs : List (Nat × Value)}, evP E ps = some vs → ps.map (fun q => (q.1, a.eval q.2)) = vs
  | [], vs, hx => by cases hx; rfl
  | (i, y) :: r, vs, hx => by
    unfold SL.evP at hx
    split at hx
    · rename_i v hv
      split at hx
      · rename_i vs' hvs
        injection hx with hx
        subst hx
        simp [h.ev hv, h.evP hvs]
      · cases hx
    · cases hx
theorem map_pairs (a : Act) (ps : List (Nat × Operand)) : (ps.toArray.map fun (i, y) => (i, a.eval y)) = (ps.map (fun q => (q.1, a.eval q.2))).toArray := by simp
theorem zipFold (off : Nat) : ∀ (vs : List Value) (k : Nat) (cs : Array Value), off + k + vs.length ≤ cs.size →
    ((vs.zipIdx k).foldl (fun (cs : Array Value) (p : Value × Nat) => cs.setIfInBounds (off + p.2) p.1) cs).toList = cs.toList.take (off + k) ++ vs ++ cs.toList.drop (off + k + vs.length)
  | [], k, cs, _ => by simp
  | v :: vs, k, cs, h => by
    simp only [List.zipIdx_cons, List.foldl_cons]
    simp at h
    rw [zipFold off vs (k + 1) _ (by simp; omega)]
    have e := list_seg_step cs.toList (off + k) v vs (by simp; omega)
    simpa [Nat.add_assoc] using e
theorem fillOne (off : Nat) (v : Array Value) (cs : Array Value) (h : off + v.size ≤ cs.size) :
    (v.zipIdx.foldl (fun cs (c, j) => cs.setIfInBounds (off + j) c) cs).toList = cs.toList.take off ++ v.toList ++ cs.toList.drop (off + v.size) := by
  have := zipFold off v.toList 0 cs (by simpa using h)
  rw [← Array.foldl_toList, Array.toList_zipIdx]
  simpa using this
/-- The cells of a value, as a list. -/
def cellsL : Value → List Value
  | .agg cs => cs.toList
  | v => [v]
theorem cellsL_eq (v : Value) : cellsL v = v.cells.toList := by cases v <;> rfl
/-- Parts put into cells, as lists. -/
def fillL (pl : Nat → Option (Nat × Nat)) : List Value → List (Nat × Value) → Option (List Value)
  | cs, [] => some cs
  | cs, (i, v) :: r => match pl i with
    | some (off, size) => match Nat.beq (cellsL v).length size with
      | true => match updO cs off (cellsL v) with
        | some cs' => fillL pl cs' r
        | none => none
      | false => none
    | none => none
theorem fillL_eq {pl : Nat → Option (Nat × Nat)} : ∀ (vs : List (Nat × Value)) (cs : Array Value) (l : List Value), fillL pl cs.toList vs = some l → Instr.fill pl cs vs = some l.toArray
  | [], cs, l, h => by
    injection h with h
    subst h
    simp [Instr.fill]
  | (i, v) :: r, cs, l, h => by
    simp only [fillL] at h
    split at h
    · rename_i off size hp
      split at h
      · rename_i hb
        split at h
        · rename_i cs' hu
          obtain ⟨h1, h2⟩ := updO_eq _ _ _ _ hu
          rw [cellsL_eq] at h1 h2 hb
          have hsz := Nat.eq_of_beq_eq_true hb
          simp only [Instr.fill, hp]
          simp at h1 hsz
          rw [if_neg (by simp; omega)]
          have hf := fillOne off v.cells cs h1
          refine fillL_eq r _ l ?_
          rw [hf]
          rw [h2] at h
          simpa using h
        · cases h
      · cases h
    · cases h
theorem PS.build {ag : Bool} {sz bt : Nat} {zv : Value} {pl : Array (Nat × Nat)} {ps : List (Nat × Operand)} {vs : List (Nat × Value)} {cs : List Value} [hT : Ty P t ag sz bt zv] [hS : StT P t pl] (hv : evP E ps = some vs := by rfl)
    (hf : fillL (nth pl.toList) (cellsL zv) vs = some cs := by rfl) : PS P x E L (.build t ps.toArray) ty (.agg cs.toArray) := ⟨fun a w _ _ _ _ hE _ => by
  obtain ⟨fs, h1, h2⟩ := hS.h
  have h3 := h2 w
  have e : (pl[·]?) = nth pl.toList := by funext j; rw [nth_eq]; simp
  rw [← e, cellsL_eq] at hf
  have hf' := fillL_eq _ _ _ hf
  simp only [execOp, map_pairs, hE.evP hv]
  simp only [Sem.run_bind, Result.andThen, Instr.build, hT.zeroValue, run_underlying h1] at h3 ⊢
  rw [h3]
  simp [hf']⟩
/-- As many as there are places, one behind the other. -/
def zeroL : Nat → List Value
  | 0 => []
  | n + 1 => undef :: zeroL n
theorem zeroL_len : ∀ n, (zeroL n).length = n
  | 0 => rfl
  | n + 1 => by simp [zeroL, zeroL_len n]
/-- Parts in their order, each of sz cells. -/
def catL (sz : Nat) : Nat → List (Nat × Value) → Option (List Value)
  | _, [] => some []
  | i, (j, v) :: r => match Nat.beq j i with
    | true => match Nat.beq (cellsL v).length sz with
      | true => match catL sz (i + 1) r with
        | some l => some (cellsL v ++ l)
        | none => none
      | false => none
    | false => none
theorem catL_eq {sz : Nat} : ∀ (vs : List (Nat × Value)) (i : Nat) (cs : Array Value) (l : List Value), catL sz i vs = some l → cs.size = (i + vs.length) * sz → Instr.fill (fun i => some (i * sz, sz)) cs vs = some (cs.toList.take (i * sz) ++ l).toArray
  | [], i, cs, l, h, hs => by
    injection h with h
    subst h
    simp at hs
    rw [List.append_nil, List.take_of_length_le (by rw [Array.length_toList, hs]; exact Nat.le_refl _)]
    rfl
  | (j, v) :: r, i, cs, l, h, hs => by
    simp only [catL] at h
    split at h
    · rename_i hj
      have hj := Nat.eq_of_beq_eq_true hj
      subst hj
      split at h
      · rename_i hb
        split at h
        · rename_i l' hl
          injection h with h
          have hsz := Nat.eq_of_beq_eq_true hb
          rw [cellsL_eq] at hsz h
          simp at hsz hs
          have h1 : j * sz + v.cells.size ≤ cs.size := by rw [hs, hsz, Nat.add_mul, Nat.add_mul]; omega
          simp only [Instr.fill]
          rw [if_neg (by simp; omega)]
          have hf := fillOne (j * sz) v.cells cs h1
          have hsz2 : (v.cells.zipIdx.foldl (fun (cs : Array Value) (c, k) => cs.setIfInBounds (j * sz + k) c) cs).size = cs.size := by
            rw [← Array.length_toList, hf]; simp; omega
          rw [catL_eq r (j + 1) _ l' hl (by rw [hsz2, hs]; congr 1; omega), hf, ← h]
          congr 1
          rw [← List.append_assoc]
          congr 1
          have e : (j + 1) * sz = (cs.toList.take (j * sz) ++ v.cells.toList).length := by rw [List.length_append, List.length_take]; simp [Nat.add_mul, hsz]; omega
          rw [e, List.take_left]
        · cases h
      · cases h
    · cases h
theorem AS.buildSlice {e n : Nat} {ag : Bool} {sz bt : Nat} {zv : Value} {ps : List (Nat × Operand)} {vs : List (Nat × Value)} {cs : List Value} [hSl : SlT P t e] [hT : Ty P e ag sz bt zv] (hv : evP E ps = some vs := by rfl)
    (hz : Nat.beq zv.cells.size sz = true := by rfl) (hn : Nat.ble (n * sz) 16777216 = true := by rfl) (hnn : Nat.beq vs.length n = true := by rfl) (hf : catL sz 0 vs = some cs := by rfl) :
    AS P x E L (.buildSlice t n ps.toArray) ty (fun u L1 => ∃ b, u = .slice (some ⟨b, 0, none⟩) n n ∧ L1 = blk b (.cells cs.toArray e (0, 0)) :: L) :=
  AS.run fun a w dst pos aft g hE hS => by
    refine ⟨.slice (some ⟨w.heap.size, 0, none⟩) n n, w.alloc (.cells cs.toArray e (0, 0)), _, ?_, hS.alloc _, _, rfl, rfl⟩
    have hz := Nat.eq_of_beq_eq_true hz
    have hn' := Nat.le_of_ble_eq_true hn
    have hln := Nat.eq_of_beq_eq_true hnn
    have hnn : ¬ (n * sz > 2 ^ 24) := by omega
    have hf' : ∀ zs : Array Value, Instr.fill (fun i => some (i * sz, sz)) ((Array.range (n * sz)).map (zs[· % zs.size]!)) vs = some cs.toArray := fun zs => by
      rw [catL_eq vs 0 _ cs hf (by simp [hln])]
      simp
    simp only [execOp, map_pairs, hE.evP hv]
    simp only [Sem.run_bind, Result.andThen, Instr.buildSlice, run_underlying hSl.h, hT.sizeOf, if_neg hnn]
    by_cases h0 : n * sz = 0
    · have h1 := hf' #[]
      simp only [h0, if_true] at h1 ⊢
      simp at h1
      simp [h1, newRow, newObj, Sem.run]
    · have h1 := hf' zv.cells
      simp only [if_neg h0]
      simp [hT.zeroValue, h1, newRow, newObj, Sem.run]

/-! ### rows -/
theorem PS.len {α : Type} {q : Enc α} {xs : List α} {e : TypeId} [hSl : SlT P t e] (hv : ev E y = some v := by rfl) (hr : Rd x.w0 x.O L (rd q v xs) := by first | assumption | exact Rd.base (by assumption) | exact Rd.slice (by first | assumption | exact Rd.base (by assumption) | exact Rd.row (by first | (show Pick _ (row _ _ _ _) _; ((repeat (first | exact Pick.here | exact Pick.blkRow | exact Pick.nilRow | apply Pick.there)); first | done | fail)) | (show Pick _ (boxR _ _ _ _ _) _; (first | ((repeat (first | exact Pick.here | apply Pick.there)); done) | exact Pick.box (by ((repeat (first | exact Pick.here | apply Pick.there)); first | done | fail)) (by ((repeat (first | exact Pick.here | exact Pick.blkRow | exact Pick.nilRow | apply Pick.there)); first | done | fail)) | fail)) | ((repeat (first | exact Pick.here | apply Pick.there)); first | done | fail)) | exact Rd.sub (by assumption) (by first | (show Pick _ (row _ _ _ _) _; ((repeat (first | exact Pick.here | exact Pick.blkRow | exact Pick.nilRow | apply Pick.there)); first | done | fail)) | (show Pick _ (boxR _ _ _ _ _) _; (first | ((repeat (first | exact Pick.here | apply Pick.there)); done) | exact Pick.box (by ((repeat (first | exact Pick.here | apply Pick.there)); first | done | fail)) (by ((repeat (first | exact Pick.here | exact Pick.blkRow | exact Pick.nilRow | apply Pick.there)); first | done | fail)) | fail)) | ((repeat (first | exact Pick.here | apply Pick.there)); first | done | fail)) | fail) | exact Rd.row (by first | (show Pick _ (row _ _ _ _) _; ((repeat (first | exact Pick.here | exact Pick.blkRow | exact Pick.nilRow | apply Pick.there)); first | done | fail)) | (show Pick _ (boxR _ _ _ _ _) _; (first | ((repeat (first | exact Pick.here | apply Pick.there)); done) | exact Pick.box (by ((repeat (first | exact Pick.here | apply Pick.there)); first | done | fail)) (by ((repeat (first | exact Pick.here | exact Pick.blkRow | exact Pick.nilRow | apply Pick.there)); first | done | fail)) | fail)) | ((repeat (first | exact Pick.here | apply Pick.there)); first | done | fail)) | exact Rd.sub (by assumption) (by first | (show Pick _ (row _ _ _ _) _; ((repeat (first | exact Pick.here | exact Pick.blkRow | exact Pick.nilRow | apply Pick.there)); first | done | fail)) | (show Pick _ (boxR _ _ _ _ _) _; (first | ((repeat (first | exact Pick.here | apply Pick.there)); done) | exact Pick.box (by ((repeat (first | exact Pick.here | apply Pick.there)); first | done | fail)) (by ((repeat (first | exact Pick.here | exact Pick.blkRow | exact Pick.nilRow | apply Pick.there)); first | done | fail)) | fail)) | ((repeat (first | exact Pick.here | apply Pick.there)); first | done | fail)) | exact Rd.blk (by first | (show Pick _ (row _ _ _ _) _; ((repeat (first | exact Pick.here | exact Pick.blkRow | exact Pick.nilRow | apply Pick.there)); first | done | fail)) | (show Pick _ (boxR _ _ _ _ _) _; (first | ((repeat (first | exact Pick.here | apply Pick.there)); done) | exact Pick.box (by ((repeat (first | exact Pick.here | apply Pick.there)); first | done | fail)) (by ((repeat (first | exact Pick.here | exact Pick.blkRow | exact Pick.nilRow | apply Pick.there)); first | done | fail)) | fail)) | ((repeat (first | exact Pick.here | apply Pick.there)); first | done | fail)) | fail) : PS P x E L (.call ⟨.builtin .len, #[y], #[t]⟩) ty (.int .i64 (xs.length : Int)) := ⟨fun a w _ _ _ _ hE hS => by
  obtain ⟨A, c, rfl, _⟩ := hr.h w hS
  simp [execOp, resolve, invoke, builtin, Builtin.len_, hE.ev hv, run_underlying hSl.h, goInt]⟩
theorem PS.lenS {s : ByteArray} [hSl : StrT P t] (hv : ev E y = some (.string s) := by rfl) : PS P x E L (.call ⟨.builtin .len, #[y], #[t]⟩) ty (.int .i64 (s.size : Int)) := ⟨fun a w _ _ _ _ hE hS => by
  simp [execOp, resolve, invoke, builtin, Builtin.len_, hE.ev hv, run_underlying hSl.h, goInt]⟩
/-- An index that is a number of places. -/
theorem PS.index {α : Type} {q : Enc α} {xs : List α} {e : TypeId} {i : Nat} {ag : Bool} {sz bt : Nat} {zv : Value} [hSl : SlT P t e] [hT : Ty P e ag sz bt zv] (hv : ev E y = some v := by rfl) (hi : ev E z = some (.int .i64 (i : Int)) := by rfl)
    (hr : Rd x.w0 x.O L (rd q v xs) := by first | assumption | exact Rd.base (by assumption) | exact Rd.slice (by first | assumption | exact Rd.base (by assumption) | exact Rd.row (by first | (show Pick _ (row _ _ _ _) _; ((repeat (first | exact Pick.here | exact Pick.blkRow | exact Pick.nilRow | apply Pick.there)); first | done | fail)) | (show Pick _ (boxR _ _ _ _ _) _; (first | ((repeat (first | exact Pick.here | apply Pick.there)); done) | exact Pick.box (by ((repeat (first | exact Pick.here | apply Pick.there)); first | done | fail)) (by ((repeat (first | exact Pick.here | exact Pick.blkRow | exact Pick.nilRow | apply Pick.there)); first | done | fail)) | fail)) | ((repeat (first | exact Pick.here | apply Pick.there)); first | done | fail)) | exact Rd.sub (by assumption) (by first | (show Pick _ (row _ _ _ _) _; ((repeat (first | exact Pick.here | exact Pick.blkRow | exact Pick.nilRow | apply Pick.there)); first | done | fail)) | (show Pick _ (boxR _ _ _ _ _) _; (first | ((repeat (first | exact Pick.here | apply Pick.there)); done) | exact Pick.box (by ((repeat (first | exact Pick.here | apply Pick.there)); first | done | fail)) (by ((repeat (first | exact Pick.here | exact Pick.blkRow | exact Pick.nilRow | apply Pick.there)); first | done | fail)) | fail)) | ((repeat (first | exact Pick.here | apply Pick.there)); first | done | fail)) | fail) | exact Rd.row (by first | (show Pick _ (row _ _ _ _) _; ((repeat (first | exact Pick.here | exact Pick.blkRow | exact Pick.nilRow | apply Pick.there)); first | done | fail)) | (show Pick _ (boxR _ _ _ _ _) _; (first | ((repeat (first | exact Pick.here | apply Pick.there)); done) | exact Pick.box (by ((repeat (first | exact Pick.here | apply Pick.there)); first | done | fail)) (by ((repeat (first | exact Pick.here | exact Pick.blkRow | exact Pick.nilRow | apply Pick.there)); first | done | fail)) | fail)) | ((repeat (first | exact Pick.here | apply Pick.there)); first | done | fail)) | exact Rd.sub (by assumption) (by first | (show Pick _ (row _ _ _ _) _; ((repeat (first | exact Pick.here | exact Pick.blkRow | exact Pick.nilRow | apply Pick.there)); first | done | fail)) | (show Pick _ (boxR _ _ _ _ _) _; (first | ((repeat (first | exact Pick.here | apply Pick.there)); done) | exact Pick.box (by ((repeat (first | exact Pick.here | apply Pick.there)); first | done | fail)) (by ((repeat (first | exact Pick.here | exact Pick.blkRow | exact Pick.nilRow | apply Pick.there)); first | done | fail)) | fail)) | ((repeat (first | exact Pick.here | apply Pick.there)); first | done | fail)) | exact Rd.blk (by first | (show Pick _ (row _ _ _ _) _; ((repeat (first | exact Pick.here | exact Pick.blkRow | exact Pick.nilRow | apply Pick.there)); first | done | fail)) | (show Pick _ (boxR _ _ _ _ _) _; (first | ((repeat (first | exact Pick.here | apply Pick.there)); done) | exact Pick.box (by ((repeat (first | exact Pick.here | apply Pick.there)); first | done | fail)) (by ((repeat (first | exact Pick.here | exact Pick.blkRow | exact Pick.nilRow | apply Pick.there)); first | done | fail)) | fail)) | ((repeat (first | exact Pick.here | apply Pick.there)); first | done | fail)) | fail) (hlt : i < xs.length := by first | omega | (simp only [List.length_nil, List.length_cons, List.length_append, List.length_take, List.length_drop, List.length_replicate, List.length_map, List.length_set, List.length_range]; omega) | fail) : PS P x E L (.indexAddr t y z) ty (elemP sz v i 0) := ⟨fun a w _ _ _ _ hE hS => by
  obtain ⟨A, c, rfl, _, _, hA⟩ := hr.h w hS
  obtain ⟨ad, rfl, _⟩ := hA (by omega)
  have hb : (0 : Int) ≤ (i : Int) ∧ (i : Int) < (xs.length : Int) := by omega
  simp [execOp, hE.ev hv, hE.ev hi, Instr.indexAt, asIntOf, run_underlying hSl.h, hT.sizeOf, elemP, hlt]⟩
/-- .. or any. -/
theorem PS.indexZ {α : Type} {q : Enc α} {xs : List α} {e : TypeId} {i : Int} {ag : Bool} {sz bt : Nat} {zv : Value} [hSl : SlT P t e] [hT : Ty P e ag sz bt zv] (hv : ev E y = some v := by rfl) (hi : ev E z = some (.int .i64 i) := by rfl)
    (hr : Rd x.w0 x.O L (rd q v xs) := by first | assumption | exact Rd.base (by assumption) | exact Rd.slice (by first | assumption | exact Rd.base (by assumption) | exact Rd.row (by first | (show Pick _ (row _ _ _ _) _; ((repeat (first | exact Pick.here | exact Pick.blkRow | exact Pick.nilRow | apply Pick.there)); first | done | fail)) | (show Pick _ (boxR _ _ _ _ _) _; (first | ((repeat (first | exact Pick.here | apply Pick.there)); done) | exact Pick.box (by ((repeat (first | exact Pick.here | apply Pick.there)); first | done | fail)) (by ((repeat (first | exact Pick.here | exact Pick.blkRow | exact Pick.nilRow | apply Pick.there)); first | done | fail)) | fail)) | ((repeat (first | exact Pick.here | apply Pick.there)); first | done | fail)) | exact Rd.sub (by assumption) (by first | (show Pick _ (row _ _ _ _) _; ((repeat (first | exact Pick.here | exact Pick.blkRow | exact Pick.nilRow | apply Pick.there)); first | done | fail)) | (show Pick _ (boxR _ _ _ _ _) _; (first | ((repeat (first | exact Pick.here | apply Pick.there)); done) | exact Pick.box (by ((repeat (first | exact Pick.here | apply Pick.there)); first | done | fail)) (by ((repeat (first | exact Pick.here | exact Pick.blkRow | exact Pick.nilRow | apply Pick.there)); first | done | fail)) | fail)) | ((repeat (first | exact Pick.here | apply Pick.there)); first | done | fail)) | fail) | exact Rd.row (by first | (show Pick _ (row _ _ _ _) _; ((repeat (first | exact Pick.here | exact Pick.blkRow | exact Pick.nilRow | apply Pick.there)); first | done | fail)) | (show Pick _ (boxR _ _ _ _ _) _; (first | ((repeat (first | exact Pick.here | apply Pick.there)); done) | exact Pick.box (by ((repeat (first | exact Pick.here | apply Pick.there)); first | done | fail)) (by ((repeat (first | exact Pick.here | exact Pick.blkRow | exact Pick.nilRow | apply Pick.there)); first | done | fail)) | fail)) | ((repeat (first | exact Pick.here | apply Pick.there)); first | done | fail)) | exact Rd.sub (by assumption) (by first | (show Pick _ (row _ _ _ _) _; ((repeat (first | exact Pick.here | exact Pick.blkRow | exact Pick.nilRow | apply Pick.there)); first | done | fail)) | (show Pick _ (boxR _ _ _ _ _) _; (first | ((repeat (first | exact Pick.here | apply Pick.there)); done) | exact Pick.box (by ((repeat (first | exact Pick.here | apply Pick.there)); first | done | fail)) (by ((repeat (first | exact Pick.here | exact Pick.blkRow | exact Pick.nilRow | apply Pick.there)); first | done | fail)) | fail)) | ((repeat (first | exact Pick.here | apply Pick.there)); first | done | fail)) | exact Rd.blk (by first | (show Pick _ (row _ _ _ _) _; ((repeat (first | exact Pick.here | exact Pick.blkRow | exact Pick.nilRow | apply Pick.there)); first | done | fail)) | (show Pick _ (boxR _ _ _ _ _) _; (first | ((repeat (first | exact Pick.here | apply Pick.there)); done) | exact Pick.box (by ((repeat (first | exact Pick.here | apply Pick.there)); first | done | fail)) (by ((repeat (first | exact Pick.here | exact Pick.blkRow | exact Pick.nilRow | apply Pick.there)); first | done | fail)) | fail)) | ((repeat (first | exact Pick.here | apply Pick.there)); first | done | fail)) | fail) (h0 : 0 ≤ i := by omega) (hlt : i < xs.length := by first | omega | (simp only [List.length_nil, List.length_cons, List.length_append, List.length_take, List.length_drop, List.length_replicate, List.length_map, List.length_set, List.length_range]; omega) | fail) : PS P x E L (.indexAddr t y z) ty (elemP sz v i.toNat 0) :=
  PS.index (i := i.toNat) hv (by rw [hi]; congr 2; omega) hr (by omega)
theorem PS.fieldE {sz i f j off : Nat} [hF : FldT P t j off] {α : Type} {q : Enc α} {xs : List α} (hv : ev E y = some (elemP sz v i f) := by rfl) (hr : Rd x.w0 x.O L (rd q v xs) := by first | assumption | exact Rd.base (by assumption) | exact Rd.slice (by first | assumption | exact Rd.base (by assumption) | exact Rd.row (by first | (show Pick _ (row _ _ _ _) _; ((repeat (first | exact Pick.here | exact Pick.blkRow | exact Pick.nilRow | apply Pick.there)); first | done | fail)) | (show Pick _ (boxR _ _ _ _ _) _; (first | ((repeat (first | exact Pick.here | apply Pick.there)); done) | exact Pick.box (by ((repeat (first | exact Pick.here | apply Pick.there)); first | done | fail)) (by ((repeat (first | exact Pick.here | exact Pick.blkRow | exact Pick.nilRow | apply Pick.there)); first | done | fail)) | fail)) | ((repeat (first | exact Pick.here | apply Pick.there)); first | done | fail)) | exact Rd.sub (by assumption) (by first | (show Pick _ (row _ _ _ _) _; ((repeat (first | exact Pick.here | exact Pick.blkRow | exact Pick.nilRow | apply Pick.there)); first | done | fail)) | (show Pick _ (boxR _ _ _ _ _) _; (first | ((repeat (first | exact Pick.here | apply Pick.there)); done) | exact Pick.box (by ((repeat (first | exact Pick.here | apply Pick.there)); first | done | fail)) (by ((repeat (first | exact Pick.here | exact Pick.blkRow | exact Pick.nilRow | apply Pick.there)); first | done | fail)) | fail)) | ((repeat (first | exact Pick.here | apply Pick.there)); first | done | fail)) | fail) | exact Rd.row (by first | (show Pick _ (row _ _ _ _) _; ((repeat (first | exact Pick.here | exact Pick.blkRow | exact Pick.nilRow | apply Pick.there)); first | done | fail)) | (show Pick _ (boxR _ _ _ _ _) _; (first | ((repeat (first | exact Pick.here | apply Pick.there)); done) | exact Pick.box (by ((repeat (first | exact Pick.here | apply Pick.there)); first | done | fail)) (by ((repeat (first | exact Pick.here | exact Pick.blkRow | exact Pick.nilRow | apply Pick.there)); first | done | fail)) | fail)) | ((repeat (first | exact Pick.here | apply Pick.there)); first | done | fail)) | exact Rd.sub (by assumption) (by first | (show Pick _ (row _ _ _ _) _; ((repeat (first | exact Pick.here | exact Pick.blkRow | exact Pick.nilRow | apply Pick.there)); first | done | fail)) | (show Pick _ (boxR _ _ _ _ _) _; (first | ((repeat (first | exact Pick.here | apply Pick.there)); done) | exact Pick.box (by ((repeat (first | exact Pick.here | apply Pick.there)); first | done | fail)) (by ((repeat (first | exact Pick.here | exact Pick.blkRow | exact Pick.nilRow | apply Pick.there)); first | done | fail)) | fail)) | ((repeat (first | exact Pick.here | apply Pick.there)); first | done | fail)) | exact Rd.blk (by first | (show Pick _ (row _ _ _ _) _; ((repeat (first | exact Pick.here | exact Pick.blkRow | exact Pick.nilRow | apply Pick.there)); first | done | fail)) | (show Pick _ (boxR _ _ _ _ _) _; (first | ((repeat (first | exact Pick.here | apply Pick.there)); done) | exact Pick.box (by ((repeat (first | exact Pick.here | apply Pick.there)); first | done | fail)) (by ((repeat (first | exact Pick.here | exact Pick.blkRow | exact Pick.nilRow | apply Pick.there)); first | done | fail)) | fail)) | ((repeat (first | exact Pick.here | apply Pick.there)); first | done | fail)) | fail) (hlt : i < xs.length := by first | omega | (simp only [List.length_nil, List.length_cons, List.length_append, List.length_take, List.length_drop, List.length_replicate, List.length_map, List.length_set, List.length_range]; omega) | fail) :
    PS P x E L (.fieldAddr t y j) ty (elemP sz v i (f + off)) := ⟨fun a w _ _ _ _ hE hS => by
  obtain ⟨A, c, rfl, _, _, hA⟩ := hr.h w hS
  obtain ⟨ad, rfl, _⟩ := hA (by omega)
  simp [execOp, hE.ev hv, elemP, hF.h, add_add, Nat.add_assoc]⟩
theorem PS.loadE {α : Type} {q : Enc α} {xs : List α} {i f sq : Nat} {sz bt : Nat} {zv : Value} [hT : Ty P t false sz bt zv] (hy : ev E y = some (elemP sq v i f) := by rfl) (hr : Rd x.w0 x.O L (rd q v xs) := by first | assumption | exact Rd.base (by assumption) | exact Rd.slice (by first | assumption | exact Rd.base (by assumption) | exact Rd.row (by first | (show Pick _ (row _ _ _ _) _; ((repeat (first | exact Pick.here | exact Pick.blkRow | exact Pick.nilRow | apply Pick.there)); first | done | fail)) | (show Pick _ (boxR _ _ _ _ _) _; (first | ((repeat (first | exact Pick.here | apply Pick.there)); done) | exact Pick.box (by ((repeat (first | exact Pick.here | apply Pick.there)); first | done | fail)) (by ((repeat (first | exact Pick.here | exact Pick.blkRow | exact Pick.nilRow | apply Pick.there)); first | done | fail)) | fail)) | ((repeat (first | exact Pick.here | apply Pick.there)); first | done | fail)) | exact Rd.sub (by assumption) (by first | (show Pick _ (row _ _ _ _) _; ((repeat (first | exact Pick.here | exact Pick.blkRow | exact Pick.nilRow | apply Pick.there)); first | done | fail)) | (show Pick _ (boxR _ _ _ _ _) _; (first | ((repeat (first | exact Pick.here | apply Pick.there)); done) | exact Pick.box (by ((repeat (first | exact Pick.here | apply Pick.there)); first | done | fail)) (by ((repeat (first | exact Pick.here | exact Pick.blkRow | exact Pick.nilRow | apply Pick.there)); first | done | fail)) | fail)) | ((repeat (first | exact Pick.here | apply Pick.there)); first | done | fail)) | fail) | exact Rd.row (by first | (show Pick _ (row _ _ _ _) _; ((repeat (first | exact Pick.here | exact Pick.blkRow | exact Pick.nilRow | apply Pick.there)); first | done | fail)) | (show Pick _ (boxR _ _ _ _ _) _; (first | ((repeat (first | exact Pick.here | apply Pick.there)); done) | exact Pick.box (by ((repeat (first | exact Pick.here | apply Pick.there)); first | done | fail)) (by ((repeat (first | exact Pick.here | exact Pick.blkRow | exact Pick.nilRow | apply Pick.there)); first | done | fail)) | fail)) | ((repeat (first | exact Pick.here | apply Pick.there)); first | done | fail)) | exact Rd.sub (by assumption) (by first | (show Pick _ (row _ _ _ _) _; ((repeat (first | exact Pick.here | exact Pick.blkRow | exact Pick.nilRow | apply Pick.there)); first | done | fail)) | (show Pick _ (boxR _ _ _ _ _) _; (first | ((repeat (first | exact Pick.here | apply Pick.there)); done) | exact Pick.box (by ((repeat (first | exact Pick.here | apply Pick.there)); first | done | fail)) (by ((repeat (first | exact Pick.here | exact Pick.blkRow | exact Pick.nilRow | apply Pick.there)); first | done | fail)) | fail)) | ((repeat (first | exact Pick.here | apply Pick.there)); first | done | fail)) | exact Rd.blk (by first | (show Pick _ (row _ _ _ _) _; ((repeat (first | exact Pick.here | exact Pick.blkRow | exact Pick.nilRow | apply Pick.there)); first | done | fail)) | (show Pick _ (boxR _ _ _ _ _) _; (first | ((repeat (first | exact Pick.here | apply Pick.there)); done) | exact Pick.box (by ((repeat (first | exact Pick.here | apply Pick.there)); first | done | fail)) (by ((repeat (first | exact Pick.here | exact Pick.blkRow | exact Pick.nilRow | apply Pick.there)); first | done | fail)) | fail)) | ((repeat (first | exact Pick.here | apply Pick.there)); first | done | fail)) | fail) (hlt : i < xs.length := by first | omega | (simp only [List.length_nil, List.length_cons, List.length_append, List.length_take, List.length_drop, List.length_replicate, List.length_map, List.length_set, List.length_range]; omega) | fail) (hq : q.sz = sq := by rfl)
    (hf : Nat.blt f q.sz = true := by rfl) (hv0 : nth (q.f (xs.getD i q.d)) f = some u := by rfl) : PS P x E L (.load t y) ty u := ⟨fun a w _ _ _ _ hE hS => by
  subst hq
  obtain ⟨A, c, rfl, _, _, hA⟩ := hr.h w hS
  obtain ⟨ad, rfl, hc⟩ := hA (by omega)
  have hf' : f < q.sz := by simpa [Nat.blt_eq] using hf
  have hw := hc (i * q.sz + f) u (by rw [flat_get hlt hf', ← nth_eq]; exact hv0)
  simp [execOp, hE.ev hy, elemP, Instr.loadAt, Instr.sureAddr, loadVar, hT.isAgg, Go.load, Sem.run, hw]⟩
theorem PS.loadEA {α : Type} {q : Enc α} {xs : List α} {i f sq : Nat} {sz bt : Nat} {zv : Value} {vs : List Value} [hT : Ty P t true sz bt zv] (hy : ev E y = some (elemP sq v i f) := by rfl) (hr : Rd x.w0 x.O L (rd q v xs) := by first | assumption | exact Rd.base (by assumption) | exact Rd.slice (by first | assumption | exact Rd.base (by assumption) | exact Rd.row (by first | (show Pick _ (row _ _ _ _) _; ((repeat (first | exact Pick.here | exact Pick.blkRow | exact Pick.nilRow | apply Pick.there)); first | done | fail)) | (show Pick _ (boxR _ _ _ _ _) _; (first | ((repeat (first | exact Pick.here | apply Pick.there)); done) | exact Pick.box (by ((repeat (first | exact Pick.here | apply Pick.there)); first | done | fail)) (by ((repeat (first | exact Pick.here | exact Pick.blkRow | exact Pick.nilRow | apply Pick.there)); first | done | fail)) | fail)) | ((repeat (first | exact Pick.here | apply Pick.there)); first | done | fail)) | exact Rd.sub (by assumption) (by first | (show Pick _ (row _ _ _ _) _; ((repeat (first | exact Pick.here | exact Pick.blkRow | exact Pick.nilRow | apply Pick.there)); first | done | fail)) | (show Pick _ (boxR _ _ _ _ _) _; (first | ((repeat (first | exact Pick.here | apply Pick.there)); done) | exact Pick.box (by ((repeat (first | exact Pick.here | apply Pick.there)); first | done | fail)) (by ((repeat (first | exact Pick.here | exact Pick.blkRow | exact Pick.nilRow | apply Pick.there)); first | done | fail)) | fail)) | ((repeat (first | exact Pick.here | apply Pick.there)); first | done | fail)) | fail) | exact Rd.row (by first | (show Pick _ (row _ _ _ _) _; ((repeat (first | exact Pick.here | exact Pick.blkRow | exact Pick.nilRow | apply Pick.there)); first | done | fail)) | (show Pick _ (boxR _ _ _ _ _) _; (first | ((repeat (first | exact Pick.here | apply Pick.there)); done) | exact Pick.box (by ((repeat (first | exact Pick.here | apply Pick.there)); first | done | fail)) (by ((repeat (first | exact Pick.here | exact Pick.blkRow | exact Pick.nilRow | apply Pick.there)); first | done | fail)) | fail)) | ((repeat (first | exact Pick.here | apply Pick.there)); first | done | fail)) | exact Rd.sub (by assumption) (by first | (show Pick _ (row _ _ _ _) _; ((repeat (first | exact Pick.here | exact Pick.blkRow | exact Pick.nilRow | apply Pick.there)); first | done | fail)) | (show Pick _ (boxR _ _ _ _ _) _; (first | ((repeat (first | exact Pick.here | apply Pick.there)); done) | exact Pick.box (by ((repeat (first | exact Pick.here | apply Pick.there)); first | done | fail)) (by ((repeat (first | exact Pick.here | exact Pick.blkRow | exact Pick.nilRow | apply Pick.there)); first | done | fail)) | fail)) | ((repeat (first | exact Pick.here | apply Pick.there)); first | done | fail)) | exact Rd.blk (by first | (show Pick _ (row _ _ _ _) _; ((repeat (first | exact Pick.here | exact Pick.blkRow | exact Pick.nilRow | apply Pick.there)); first | done | fail)) | (show Pick _ (boxR _ _ _ _ _) _; (first | ((repeat (first | exact Pick.here | apply Pick.there)); done) | exact Pick.box (by ((repeat (first | exact Pick.here | apply Pick.there)); first | done | fail)) (by ((repeat (first | exact Pick.here | exact Pick.blkRow | exact Pick.nilRow | apply Pick.there)); first | done | fail)) | fail)) | ((repeat (first | exact Pick.here | apply Pick.there)); first | done | fail)) | fail) (hlt : i < xs.length := by first | omega | (simp only [List.length_nil, List.length_cons, List.length_append, List.length_take, List.length_drop, List.length_replicate, List.length_map, List.length_set, List.length_range]; omega) | fail) (hq : q.sz = sq := by rfl)
    (hf : Nat.ble (f + sz) q.sz = true := by rfl) (hv0 : slc (q.f (xs.getD i q.d)) f sz = vs := by rfl) : PS P x E L (.load t y) ty (.agg vs.toArray) := ⟨fun a w _ _ _ _ hE hS => by
  have hv := (slc_eq (q.f (xs.getD i q.d)) f sz).symm.trans hv0
  subst hq
  obtain ⟨A, c, rfl, _, _, hA⟩ := hr.h w hS
  obtain ⟨ad, rfl, hc⟩ := hA (by omega)
  have hf' := Nat.le_of_ble_eq_true hf
  have hvl : vs.length = sz := by rw [← hv]; simp [q.len]; omega
  have hr := run_loadCells_list (P := P) w (ad.add (i * q.sz + f)) vs (fun j u hu => by
    have hj : j < sz := by rw [← hvl]; exact (List.getElem?_eq_some_iff.1 hu).1
    rw [← hv, List.getElem?_take, if_pos hj, List.getElem?_drop] at hu
    rw [add_add, Nat.add_assoc]
    exact hc _ u (by rw [flat_get hlt (by omega)]; exact hu))
  rw [hvl] at hr
  simp [execOp, hE.ev hy, elemP, Instr.loadAt, Instr.sureAddr, loadVar, hT.isAgg, hT.sizeOf, hr]⟩
/-- append of one. -/
theorem AS.append1 {α : Type} {q : Enc α} {xs : List α} {e : TypeId} {b : Nat} {cs : Array Value} {p : α} {L1 L2 : List HP} {ag : Bool} {sz bt : Nat} {zv : Value} [hSl : SlT P t e] [hT : Ty P e ag sz bt zv]
    (hv : ev E y = some v := by rfl) (hz : ev E z = some (.slice (some ⟨b, 0, none⟩) 1 1) := by rfl) (hp : Pick L (row q e v xs) L1 := by first | (show Pick _ (row _ _ _ _) _; ((repeat (first | exact Pick.here | exact Pick.blkRow | exact Pick.nilRow | apply Pick.there)); first | done | fail)) | (show Pick _ (boxR _ _ _ _ _) _; (first | ((repeat (first | exact Pick.here | apply Pick.there)); done) | exact Pick.box (by ((repeat (first | exact Pick.here | apply Pick.there)); first | done | fail)) (by ((repeat (first | exact Pick.here | exact Pick.blkRow | exact Pick.nilRow | apply Pick.there)); first | done | fail)) | fail)) | ((repeat (first | exact Pick.here | apply Pick.there)); first | done | fail)) (hb : Pick L1 (blk b (.cells cs e (0, 0))) L2 := by first | (show Pick _ (row _ _ _ _) _; ((repeat (first | exact Pick.here | exact Pick.blkRow | exact Pick.nilRow | apply Pick.there)); first | done | fail)) | (show Pick _ (boxR _ _ _ _ _) _; (first | ((repeat (first | exact Pick.here | apply Pick.there)); done) | exact Pick.box (by ((repeat (first | exact Pick.here | apply Pick.there)); first | done | fail)) (by ((repeat (first | exact Pick.here | exact Pick.blkRow | exact Pick.nilRow | apply Pick.there)); first | done | fail)) | fail)) | ((repeat (first | exact Pick.here | apply Pick.there)); first | done | fail)) (hq : q.sz = sz := by rfl) (hzs : zv.cells.size = sz := by rfl) (hdec : q.dec cs.toList = some p := by rfl)
    (hbd : (xs.length + 1) * bt ≤ 140737488355328 := by first | omega | (simp only [List.length_nil, List.length_cons, List.length_append, List.length_take, List.length_drop, List.length_replicate, List.length_map, List.length_set, List.length_range]; omega) | fail) (hbm : xs.length + 1 ≤ 9223372036854775807 := by first | omega | (simp only [List.length_nil, List.length_cons, List.length_append, List.length_take, List.length_drop, List.length_replicate, List.length_map, List.length_set, List.length_range]; omega) | fail) : AS P x E L (.call ⟨.builtin .append, #[y, z], #[t, t]⟩) ty (fun v' L3 => L3 = row q e v' (xs ++ [p]) :: L2) :=
  AS.run fun a w dst pos aft g hE hS => by
    obtain ⟨i, hi, h1, h2, h3⟩ := hT.info
    have hS1 := hS.pick hp
    have hcs : q.f p = cs.toList := q.inv _ _ hdec
    have hS2 : SAT x.w0 x.O (blk b (.cells cs e (0, 0)) :: row q e v xs :: L2) w := hS1.pick (Pick.there hb)
    have hw := hS2.read
    have hown := hS1.ownsRow
    have hcells : ∀ j u, (q.f p)[j]? = some u → w.cell? ((⟨b, 0, none⟩ : Addr).add j) = some u := fun j u hu => by
      rw [at_off]
      simp [World.cell?, hw]
      rw [hcs] at hu
      simpa using hu
    obtain ⟨v', w', hrun, hown', hgr, _, hat⟩ := run_append_own_at (P := P) w 0 t ty e i zv sz bt hSl.h hi h3 h1 h2 hzs (hq ▸ q.pos) v xs.length (xs.flatMap q.f) (hq ▸ hown) ⟨b, 0, none⟩ 1 1 (q.f p) (by rw [q.len, hq, Nat.one_mul]) hcells (q.one p)
      (by simp only [maxLen]; omega) hbd (Nat.zero_le _)
    refine ⟨v', w', row q e v' (xs ++ [p]) :: L2, ?_, ?_, rfl⟩
    · simp only [execOp, resolve, invoke, builtin]
      simp [hE.ev hv, hE.ev hz, hrun]
    · refine SAT.own_append (xs := xs) (ys := [p]) hS1 ?_ hgr hat |>.ent (Ent.pick Pick.here ⟨[blk b (.cells cs e (0, 0))], fun g hg => hb.h g hg⟩)
      rw [← hq] at hown'
      simpa using hown'
end
end Go.SL
