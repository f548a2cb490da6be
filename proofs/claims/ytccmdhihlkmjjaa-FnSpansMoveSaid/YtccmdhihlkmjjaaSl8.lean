/- Still more rules: stores of structs and into rows, slices of slices, append of many, least and greatest, structs compared, results in cells, boxed rows. -/
import Derived.Test.YtccmdhihlkmjjaaSl7
import Derived.Laws.StructEq
import Derived.Laws.Slices
namespace Go.SL
open Go.RowKit

theorem flatMap_drop {α : Type} {k : Enc α} {xs : List α} (n : Nat) : (xs.drop n).flatMap k.f = (xs.flatMap k.f).drop (n * k.sz) := by
  induction n generalizing xs with
  | zero => simp
  | succ n ih =>
    cases xs with
    | nil => simp
    | cons x xs =>
      simp only [List.drop_succ_cons, ih, List.flatMap_cons]
      rw [show (n + 1) * k.sz = (k.f x).length + n * k.sz by rw [k.len, Nat.add_mul]; omega, ← List.drop_drop, List.drop_left]
theorem flatMap_take {α : Type} {k : Enc α} {xs : List α} (n : Nat) : (xs.take n).flatMap k.f = (xs.flatMap k.f).take (n * k.sz) := by
  induction n generalizing xs with
  | zero => simp
  | succ n ih =>
    cases xs with
    | nil => simp
    | cons x xs =>
      simp only [List.take_succ_cons, ih, List.flatMap_cons]
      rw [show (n + 1) * k.sz = (k.f x).length + n * k.sz by rw [k.len, Nat.add_mul]; omega, List.take_length_add_append]
theorem flatMap_set {α : Type} {k : Enc α} {xs : List α} {i : Nat} (hi : i < xs.length) (x : α) : (xs.set i x).flatMap k.f = (xs.flatMap k.f).take (i * k.sz) ++ k.f x ++ (xs.flatMap k.f).drop (i * k.sz + k.sz) := by
  rw [List.set_eq_take_append_cons_drop, if_pos hi, List.flatMap_append, List.flatMap_cons, flatMap_take, flatMap_drop, show (i + 1) * k.sz = i * k.sz + k.sz by rw [Nat.add_mul]; omega, List.append_assoc]

theorem seg {β : Type} {c vs : List β} {N I S f : Nat} (h1 : I + S ≤ N) (h2 : N ≤ c.length) (h3 : f + vs.length ≤ S) :
    (c.take (I + f) ++ vs ++ c.drop (I + f + vs.length)).take N = (c.take N).take I ++ ((((c.take N).drop I).take S).take f ++ vs ++ (((c.take N).drop I).take S).drop (f + vs.length)) ++ (c.take N).drop (I + S) := by
  have la : (c.take (I + f)).length = I + f := by rw [List.length_take]; omega
  have lb : ((c.take N).take I).length = I := by rw [List.length_take, List.length_take]; omega
  have lc : ((((c.take N).drop I).take S).take f).length = f := by simp only [List.length_take, List.length_drop]; omega
  have ld : ((((c.take N).drop I).take S).drop (f + vs.length)).length = S - (f + vs.length) := by simp only [List.length_take, List.length_drop]; omega
  apply List.ext_getElem?
  intro j
  rw [List.getElem?_take]
  by_cases hN : j < N
  · rw [if_pos hN]
    by_cases g1 : j < I + f
    · rw [List.getElem?_append_left (by rw [List.length_append, la]; omega), List.getElem?_append_left (by rw [la]; exact g1), List.getElem?_take, if_pos g1]
      by_cases g0 : j < I
      · rw [List.getElem?_append_left (by rw [List.length_append, lb]; omega), List.getElem?_append_left (by rw [lb]; exact g0), List.getElem?_take, if_pos g0, List.getElem?_take, if_pos hN]
      · rw [List.getElem?_append_left (by simp only [List.length_append, lb, lc, ld]; omega), List.getElem?_append_right (by rw [lb]; omega), lb, List.getElem?_append_left (by rw [List.length_append, lc]; omega), List.getElem?_append_left (by rw [lc]; omega),
          List.getElem?_take, if_pos (by omega), List.getElem?_take, if_pos (by omega), List.getElem?_drop, List.getElem?_take, if_pos (by omega), show I + (j - I) = j by omega]
    · by_cases g2 : j < I + f + vs.length
      · rw [List.getElem?_append_left (by rw [List.length_append, la]; omega), List.getElem?_append_right (by rw [la]; omega), la,
          List.getElem?_append_left (by simp only [List.length_append, lb, lc, ld]; omega), List.getElem?_append_right (by rw [lb]; omega), lb, List.getElem?_append_left (by rw [List.length_append, lc]; omega), List.getElem?_append_right (by rw [lc]; omega), lc, show j - I - f = j - (I + f) by omega]
      · rw [List.getElem?_append_right (by rw [List.length_append, la]; omega), List.length_append, la, List.getElem?_drop, show I + f + vs.length + (j - (I + f + vs.length)) = j by omega]
        by_cases g3 : j < I + S
        · rw [List.getElem?_append_left (by simp only [List.length_append, lb, lc, ld]; omega), List.getElem?_append_right (by rw [lb]; omega), lb, List.getElem?_append_right (by rw [List.length_append, lc]; omega), List.length_append, lc,
            List.getElem?_drop, List.getElem?_take, if_pos (by omega), List.getElem?_drop, List.getElem?_take, if_pos (by omega), show I + (f + vs.length + (j - I - (f + vs.length))) = j by omega]
        · rw [List.getElem?_append_right (by simp only [List.length_append, lb, lc, ld]; omega), List.length_append, List.length_append, List.length_append, lb, lc, ld, List.getElem?_drop, List.getElem?_take, if_pos (by omega), show I + S + (j - (I + (f + vs.length + (S - (f + vs.length))))) = j by omega]
  · rw [if_neg hN]
    symm
    rw [List.getElem?_eq_none_iff]
    simp only [List.length_append, lb, lc, ld, List.length_drop, List.length_take]
    omega
section
variable {P : Program} {x : Cx} {E : List (Nat × Value)} {L L' L1 L2 : List HP} {k : List Fr} {ops : Array Oper} {rest : List Oper}
variable {ty t t' t'' : TypeId} {y z c : Operand} {v u : Value}

/-! ### stores -/
/-- A struct stored into a block. -/
theorem AS.storeA {b f sz bt : Nat} {zv : Value} {cs : Array Value} {T : TypeId} {vs r : List Value} [hT : Ty P t true sz bt zv] (hy : ev E y = some (.pointer (some ⟨b, f, none⟩)) := by rfl) (hz : ev E z = some (.agg vs.toArray) := by rfl)
    (hp : Pick L (blk b (.cells cs T (0, 0))) L' := by first | (first | ((with_reducible apply iRow); ((repeat (first | with_reducible apply Pick.here | ((with_reducible apply Pick.blkRow); (all_goals rfl)) | with_reducible apply Pick.nilRow | with_reducible apply Pick.there)); first | done | fail)) | ((with_reducible apply iBox); (first | ((repeat (first | with_reducible apply Pick.here | with_reducible apply Pick.there)); done) | exact Pick.box (by ((repeat (first | with_reducible apply Pick.here | with_reducible apply Pick.there)); first | done | fail)) (by ((repeat (first | with_reducible apply Pick.here | ((with_reducible apply Pick.blkRow); (all_goals rfl)) | with_reducible apply Pick.nilRow | with_reducible apply Pick.there)); first | done | fail)) | fail)) | ((repeat (first | with_reducible apply Pick.here | with_reducible apply Pick.there)); first | done | fail)) | (first | ((with_reducible apply iRow); ((repeat (first | apply Pick.here | ((apply Pick.blkRow); (all_goals rfl)) | apply Pick.nilRow | apply Pick.there)); first | done | fail)) | ((with_reducible apply iBox); (first | ((repeat (first | apply Pick.here | apply Pick.there)); done) | exact Pick.box (by ((repeat (first | apply Pick.here | apply Pick.there)); first | done | fail)) (by ((repeat (first | apply Pick.here | ((apply Pick.blkRow); (all_goals rfl)) | apply Pick.nilRow | apply Pick.there)); first | done | fail)) | fail)) | ((repeat (first | apply Pick.here | apply Pick.there)); first | done | fail))) (hu : updO cs.toList f vs = some r := by rfl) (hs : Nat.beq vs.length sz = true := by rfl) (h1 : allOne vs = true := by rfl) : AS P x E L (.store t y z) ty (fun _ L1 => L1 = blk b (.cells r.toArray T (0, 0)) :: L') := by
  refine ⟨fun a w dst pos aft g next Q hE hS hn => ?_⟩
  have hS' := hS.pick hp
  have hr0 := storeRun (P := P) hS'.read hu (allOne_eq _ h1)
  have hsz := Nat.eq_of_beq_eq_true hs
  have hr : (execOp a.eval ⟨dst, .store t y z, ty, pos, aft, g⟩).run P w = .ok .skip (w.setRow b r.toArray) := by
    simp [execOp, hE.ev hy, hE.ev hz, Instr.storeAt, Instr.sureAddr, storeVar, Value.cells, hT.sizeOf, hsz, hr0]
  refine .inl ?_
  unfold Oper.wp
  rw [hr]
  exact hn undef _ _ rfl hS'.setRow
/-- Into a row. -/
theorem SAT.rowPut {α : Type} {q : Enc α} {xs : List α} {e : TypeId} {i f : Nat} {vs r : List Value} {p : α} {w0 w : World} {O : Nat → Prop} (h : SAT w0 O (row q e v xs :: L) w) (hi : i < xs.length) (hu : updO (q.f (xs.getD i q.d)) f vs = some r) (hd : q.dec r = some p) (h1 : ∀ v ∈ vs, v.oneCell' = true) :
    ∃ ad, elemP q.sz v i f = .pointer (some ad) ∧ ∃ w', (storeCells ad vs).run P w = .ok () w' ∧ SAT w0 O (row q e v (xs.set i p) :: L) w' := by
  obtain ⟨hl, hr⟩ := updO_eq _ _ _ _ hu
  have hp := q.inv _ _ hd
  have hS := h
  obtain ⟨hK, g0, he, hdj, h1', h2', d', rfl, ⟨hlen, hrow⟩, hL⟩ := h
  rcases hrow with ⟨rfl, hn, _⟩ | ⟨g, cap, cur, rfl, hc, hm, hs, ht, hb⟩
  · omega
  have hlt : i * q.sz + q.sz ≤ xs.length * q.sz := by
    rw [show i * q.sz + q.sz = (i + 1) * q.sz by rw [Nat.add_mul]; omega]
    exact Nat.mul_le_mul_right _ hi
  have hlc : xs.length * q.sz ≤ cap * q.sz := Nat.mul_le_mul_right _ hc
  have hS1 : SAT w0 O (blk g (.cells cur e (0, 0)) :: L) w := ⟨hK, _, he, hdj, h1', h2', d', rfl, hb, hL⟩
  have hfl : f + vs.length ≤ q.sz := by rw [q.len] at hl; exact hl
  have hrun := run_storeCells_at (P := P) g (i * q.sz + f) e vs 0 cur w hS1.read (by rw [hs]; omega) h1
  rw [Nat.add_zero] at hrun
  refine ⟨⟨g, i * q.sz + f, none⟩, by simp [elemP, at_off], _, hrun, ?_⟩
  have hget : q.f (xs.getD i q.d) = ((xs.flatMap q.f).drop (i * q.sz)).take q.sz := by
    rw [← flatMap_drop, List.drop_eq_getElem_cons hi, List.flatMap_cons, List.take_left' (q.len _)]
    simp [List.getD_eq_getElem?_getD, hi]
  refine SAT.imp hS1.setRow (q := row q e _ _) (fun h3 hb3 => ⟨flat_len, .inr ⟨g, cap, _, by rw [List.length_set], by simpa using hc, hm, ?_, ?_, hb3⟩⟩)
  · simp [hs]; omega
  · rw [flatMap_set hi, hp, hr, hget, ← ht]
    rw [List.length_set]
    exact seg (by omega) (by rw [show cur.toList.length = cap * q.sz from hs]; exact hlc) hfl
/-- A cell stored into a row. -/
theorem AS.storeE {α : Type} {q : Enc α} {xs : List α} {e : TypeId} {i f sq sz bt : Nat} {zv : Value} {r : List Value} {p : α} [hT : Ty P t false sz bt zv] (hy : ev E y = some (elemP sq v i f) := by rfl) (hz : ev E z = some u := by rfl) (hp : Pick L (row q e v xs) L' := by first | (first | ((with_reducible apply iRow); ((repeat (first | with_reducible apply Pick.here | ((with_reducible apply Pick.blkRow); (all_goals rfl)) | with_reducible apply Pick.nilRow | with_reducible apply Pick.there)); first | done | fail)) | ((with_reducible apply iBox); (first | ((repeat (first | with_reducible apply Pick.here | with_reducible apply Pick.there)); done) | exact Pick.box (by ((repeat (first | with_reducible apply Pick.here | with_reducible apply Pick.there)); first | done | fail)) (by ((repeat (first | with_reducible apply Pick.here | ((with_reducible apply Pick.blkRow); (all_goals rfl)) | with_reducible apply Pick.nilRow | with_reducible apply Pick.there)); first | done | fail)) | fail)) | ((repeat (first | with_reducible apply Pick.here | with_reducible apply Pick.there)); first | done | fail)) | (first | ((with_reducible apply iRow); ((repeat (first | apply Pick.here | ((apply Pick.blkRow); (all_goals rfl)) | apply Pick.nilRow | apply Pick.there)); first | done | fail)) | ((with_reducible apply iBox); (first | ((repeat (first | apply Pick.here | apply Pick.there)); done) | exact Pick.box (by ((repeat (first | apply Pick.here | apply Pick.there)); first | done | fail)) (by ((repeat (first | apply Pick.here | ((apply Pick.blkRow); (all_goals rfl)) | apply Pick.nilRow | apply Pick.there)); first | done | fail)) | fail)) | ((repeat (first | apply Pick.here | apply Pick.there)); first | done | fail))) (hq : q.sz = sq := by rfl)
    (hu : updO (q.f (xs.getD i q.d)) f [u] = some r := by rfl) (hd : q.dec r = some p := by rfl) (h1 : u.oneCell' = true := by rfl) (hs : sz = 1 := by rfl) (hi : i < xs.length := by first | omega | (simp only [List.length_nil, List.length_cons, List.length_append, List.length_take, List.length_drop, List.length_replicate, List.length_map, List.length_set, List.length_range]; omega) | fail) : AS P x E L (.store t y z) ty (fun _ L1 => L1 = row q e v (xs.set i p) :: L') := by
  refine ⟨fun a w dst pos aft g next Q hE hS hn => ?_⟩
  have hS' := hS.pick hp
  obtain ⟨ad, h2, w', hr0, hS2⟩ := SAT.rowPut (P := P) hS' hi hu hd (fun v hv => by rw [List.mem_singleton.1 hv]; exact h1)
  subst hq
  have hcl : u.cells = #[u] := by cases u <;> first | rfl | cases h1
  have hr : (execOp a.eval ⟨dst, .store t y z, ty, pos, aft, g⟩).run P w = .ok .skip w' := by
    simp [execOp, hE.ev hy, h2, hE.ev hz, Instr.storeAt, Instr.sureAddr, storeVar, hcl, hT.sizeOf, hs, hr0]
  refine .inl ?_
  unfold Oper.wp
  rw [hr]
  exact hn undef _ _ rfl hS2
/-- A struct stored into a row. -/
theorem AS.storeEA {α : Type} {q : Enc α} {xs : List α} {e : TypeId} {i f sq sz bt : Nat} {zv : Value} {vs r : List Value} {p : α} [hT : Ty P t true sz bt zv] (hy : ev E y = some (elemP sq v i f) := by rfl) (hz : ev E z = some (.agg vs.toArray) := by rfl) (hp : Pick L (row q e v xs) L' := by first | (first | ((with_reducible apply iRow); ((repeat (first | with_reducible apply Pick.here | ((with_reducible apply Pick.blkRow); (all_goals rfl)) | with_reducible apply Pick.nilRow | with_reducible apply Pick.there)); first | done | fail)) | ((with_reducible apply iBox); (first | ((repeat (first | with_reducible apply Pick.here | with_reducible apply Pick.there)); done) | exact Pick.box (by ((repeat (first | with_reducible apply Pick.here | with_reducible apply Pick.there)); first | done | fail)) (by ((repeat (first | with_reducible apply Pick.here | ((with_reducible apply Pick.blkRow); (all_goals rfl)) | with_reducible apply Pick.nilRow | with_reducible apply Pick.there)); first | done | fail)) | fail)) | ((repeat (first | with_reducible apply Pick.here | with_reducible apply Pick.there)); first | done | fail)) | (first | ((with_reducible apply iRow); ((repeat (first | apply Pick.here | ((apply Pick.blkRow); (all_goals rfl)) | apply Pick.nilRow | apply Pick.there)); first | done | fail)) | ((with_reducible apply iBox); (first | ((repeat (first | apply Pick.here | apply Pick.there)); done) | exact Pick.box (by ((repeat (first | apply Pick.here | apply Pick.there)); first | done | fail)) (by ((repeat (first | apply Pick.here | ((apply Pick.blkRow); (all_goals rfl)) | apply Pick.nilRow | apply Pick.there)); first | done | fail)) | fail)) | ((repeat (first | apply Pick.here | apply Pick.there)); first | done | fail))) (hq : q.sz = sq := by rfl)
    (hu : updO (q.f (xs.getD i q.d)) f vs = some r := by rfl) (hd : q.dec r = some p := by rfl) (h1 : allOne vs = true := by rfl) (hs : Nat.beq vs.length sz = true := by rfl) (hi : i < xs.length := by first | omega | (simp only [List.length_nil, List.length_cons, List.length_append, List.length_take, List.length_drop, List.length_replicate, List.length_map, List.length_set, List.length_range]; omega) | fail) : AS P x E L (.store t y z) ty (fun _ L1 => L1 = row q e v (xs.set i p) :: L') := by
  refine ⟨fun a w dst pos aft g next Q hE hS hn => ?_⟩
  have hS' := hS.pick hp
  obtain ⟨ad, h2, w', hr0, hS2⟩ := SAT.rowPut (P := P) hS' hi hu hd (allOne_eq _ h1)
  subst hq
  have hsz := Nat.eq_of_beq_eq_true hs
  have hr : (execOp a.eval ⟨dst, .store t y z, ty, pos, aft, g⟩).run P w = .ok .skip w' := by
    simp [execOp, hE.ev hy, h2, hE.ev hz, Instr.storeAt, Instr.sureAddr, storeVar, Value.cells, hT.sizeOf, hsz, hr0]
  refine .inl ?_
  unfold Oper.wp
  rw [hr]
  exact hn undef _ _ rfl hS2
end
end Go.SL
