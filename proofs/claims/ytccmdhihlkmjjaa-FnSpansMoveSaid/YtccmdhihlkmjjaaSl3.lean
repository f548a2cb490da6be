/- Types, rows, and the rules for plain operations. -/
import Derived.Test.YtccmdhihlkmjjaaSl2
import Derived.Maps.AppendAt
namespace Go.SL
open Go.RowKit

/-! ### what the rules ask of types -/
def aggD : TypeDesc → Bool
  | .struct _ | .array _ _ => true
  | _ => false
class Ty (P : Program) (t : TypeId) (agg : outParam Bool) (sz : outParam Nat) (by_ : outParam Nat) (z : outParam Value) : Prop where
  h : (P.underlying t).map aggD = some agg ∧ (P.info? t).map (fun i => (i.size, i.bytes, i.zero)) = some (sz, by_, some z)
class SlT (P : Program) (t : TypeId) (e : outParam TypeId) : Prop where
  h : P.underlying t = some (.slice e)
class IntT (P : Program) (t : TypeId) (k : outParam IntKind) : Prop where
  h : P.underlying t = some (.int k)
class StrT (P : Program) (t : TypeId) : Prop where
  h : P.underlying t = some .string
/-- A struct's field: where it lies, how many cells (one at least). -/
class FldT (P : Program) (t : TypeId) (j : Nat) (off : outParam Nat) : Prop where
  h : ∀ (a : Addr) (w : World), (Instr.fieldAt t (.pointer (some a)) j).run P w = .ok (.pointer (some (a.add off))) w
section
variable {P : Program} {t e : TypeId} {agg : Bool} {sz by_ : Nat} {z : Value}
theorem Ty.isAgg [h : Ty P t agg sz by_ z] (w : World) : (isAgg t).run P w = .ok agg w := by
  have h1 := h.h.1
  cases hu : P.underlying t with
  | none => rw [hu] at h1; cases h1
  | some d =>
    rw [hu] at h1
    injection h1 with h1
    subst h1
    simp only [Go.isAgg, run_underlying hu, Sem.run_bind, Result.andThen]
    cases d <;> rfl
theorem Ty.info [h : Ty P t agg sz by_ z] : ∃ i, P.info? t = some i ∧ i.size = sz ∧ i.bytes = by_ ∧ i.zero = some z := by
  have h1 := h.h.2
  cases hu : P.info? t with
  | none => rw [hu] at h1; cases h1
  | some i =>
    rw [hu] at h1
    simp only [Option.map_some, Option.some.injEq, Prod.mk.injEq] at h1
    exact ⟨i, rfl, h1.1, h1.2.1, h1.2.2⟩
theorem Ty.sizeOf [h : Ty P t agg sz by_ z] (w : World) : (sizeOf t).run P w = .ok sz w := by
  obtain ⟨i, hi, h1, _⟩ := h.info
  simp [Go.sizeOf, typeInfo, hi, h1]
theorem Ty.zeroValue [h : Ty P t agg sz by_ z] (w : World) : (zeroValue t).run P w = .ok z w := by
  obtain ⟨i, hi, _, _, h1⟩ := h.info
  simp [Go.zeroValue, typeInfo, hi, h1]
end

/-! ### rows -/
structure Enc (α : Type) where
  sz : Nat
  f : α → List Value
  d : α
  dec : List Value → Option α
  pos : 0 < sz
  len : ∀ x, (f x).length = sz
  one : ∀ x, ∀ u ∈ f x, u.oneCell' = true
  inv : ∀ cs x, dec cs = some x → f x = cs
def eInt : Enc Int where
  sz := 1
  f x := [.int .i64 x]
  d := 0
  dec
    | [.int .i64 x] => some x
    | _ => none
  pos := by decide
  len _ := rfl
  one x u hu := by rw [List.mem_singleton.1 hu]; rfl
  inv cs x h := by
    split at h
    · injection h with h; rw [h]
    · cases h
def rowC (e : TypeId) (sz : Nat) (v : Value) (n : Nat) (cs : List Value) : HP := fun h => cs.length = n * sz ∧
  ((v = .slice none 0 0 ∧ n = 0 ∧ h = fun _ => none) ∨ ∃ g cap cur, v = .slice (some ⟨g, 0, none⟩) n cap ∧ n ≤ cap ∧ cap ≤ maxLen ∧ cur.size = cap * sz ∧ cur.toList.take (n * sz) = cs ∧ blk g (.cells cur e (0, 0)) h)
/-- A row of the call's own. -/
def row {α : Type} (k : Enc α) (e : TypeId) (v : Value) (xs : List α) : HP := rowC e k.sz v xs.length (xs.flatMap k.f)
/-- A row that can be read. -/
def rd {α : Type} (k : Enc α) (v : Value) (xs : List α) (w : World) : Prop := ∃ A c, v = .slice A xs.length c ∧ xs.length ≤ c ∧ c ≤ maxLen ∧
  (0 < xs.length → ∃ ad, A = some ad ∧ ∀ j u, (xs.flatMap k.f)[j]? = some u → w.cell? (ad.add j) = some u)
def elemP (sz : Nat) (v : Value) (i f : Nat) : Value :=
  match v with
  | .slice (some a) _ _ => .pointer (some (a.add (i * sz + f)))
  | _ => undef
theorem add_add (a : Addr) (m n : Nat) : (a.add m).add n = a.add (m + n) := by
  unfold Addr.add
  by_cases h1 : m = 0
  · subst h1; simp
  · by_cases h2 : n = 0
    · subst h2; simp
    · simp [h1, h2, Nat.add_assoc]
section
variable {α : Type} {k : Enc α} {xs : List α} {w w' w0 : World} {O : Nat → Prop} {L L' : List HP} {e : TypeId} {v : Value}
theorem flat_len : (xs.flatMap k.f).length = xs.length * k.sz := by
  induction xs with
  | nil => simp
  | cons x xs ih => simp [ih, k.len, Nat.add_mul]; omega
theorem flat_get {i f : Nat} (hi : i < xs.length) (hf : f < k.sz) : (xs.flatMap k.f)[i * k.sz + f]? = (k.f (xs.getD i k.d))[f]? := by
  induction xs generalizing i with
  | nil => simp at hi
  | cons x xs ih =>
    cases i with
    | zero => simp [List.getElem?_append, k.len, hf]
    | succ i =>
      rw [List.flatMap_cons, List.getElem?_append_right (by rw [k.len, Nat.add_mul]; omega), k.len]
      rw [show (i + 1) * k.sz + f - k.sz = i * k.sz + f by rw [Nat.add_mul]; omega]
      simpa using ih (i := i) (by simpa using hi)
theorem SAT.rd (h : SAT w0 O (row k e v xs :: L) w) : rd k v xs w := by
  obtain ⟨g, he, _, h1, h2, _, rfl, ⟨hl, hr⟩, _⟩ := h.2
  rcases hr with ⟨rfl, hn, _⟩ | ⟨g, cap, cur, rfl, hc, hm, hs, ht, hb⟩
  · exact ⟨none, 0, by rw [hn], by omega, by simp [maxLen], fun hp => by omega⟩
  · refine ⟨some ⟨g, 0, none⟩, cap, rfl, hc, hm, fun _ => ⟨_, rfl, fun j u hu => ?_⟩⟩
    have hw : w.heap[g]? = some (.cells cur e (0, 0)) := he g _ (by unfold PH.join; rw [hb]; simp)
    have hj : j < xs.length * k.sz := by rw [← flat_len]; exact (List.getElem?_eq_some_iff.1 hu).1
    rw [← ht, List.getElem?_take, if_pos hj] at hu
    have : ((⟨g, 0, none⟩ : Addr).add j) = ⟨g, j, none⟩ := by unfold Addr.add; split <;> simp_all
    rw [this]
    simp [World.cell?, hw]
    simpa using hu
theorem rd_bd (h : SL.rd k v xs w) : xs.length ≤ 9223372036854775807 := by
  obtain ⟨_, c, _, h1, h2, _⟩ := h
  simp [maxLen] at h2
  omega
theorem iRow (h : Pick L (SL.row k e v xs) L') : Pick L (SL.row k e v xs) L' := h
theorem iERow (h : Ent L (SL.row k e v xs :: L')) : Ent L (SL.row k e v xs :: L') := h
theorem Rd.row (hp : Pick L (SL.row k e v xs) L') : Rd w0 O L (SL.rd k v xs) := ⟨fun _ hw => (hw.pick hp).rd⟩
theorem SAT.ownsRow (h : SAT w0 O (row k e v xs :: L) w) : w.ownsRow 0 e k.sz v xs.length (xs.flatMap k.f) := by
  obtain ⟨g, he, _, h1, h2, _, rfl, ⟨hl, hr⟩, _⟩ := h.2
  refine ⟨hl, ?_⟩
  rcases hr with ⟨rfl, hn, _⟩ | ⟨g, cap, cur, rfl, hc, hm, hs, ht, hb⟩
  · exact .inl ⟨rfl, hn⟩
  · exact .inr ⟨g, cap, cur, rfl, Nat.zero_le _, he g _ (by unfold PH.join; rw [hb]; simp), hc, hm, hs, ht⟩
theorem SAT.nil_row (h : SAT w0 O L w) (k : Enc α) (e : TypeId) : SAT w0 O (row k e (.slice none 0 0) [] :: L) w := by
  obtain ⟨hk, g, he, hd, hL⟩ := h
  exact ⟨hk, g, he, hd, fun _ => none, g, fun _ => .inl rfl, rfl, ⟨by simp, .inl ⟨rfl, rfl, rfl⟩⟩, hL⟩
theorem row_blk {b n c : Nat} {cs : Array Value} (hc : cs.toList = xs.flatMap k.f) (hn : xs.length = n) (hm : n ≤ maxLen) (hcc : c = n) {h : PH} (hb : blk b (.cells cs e (0, 0)) h) : row k e (.slice (some ⟨b, 0, none⟩) n c) xs h := by
  subst hn
  subst hcc
  refine ⟨flat_len, .inr ⟨b, xs.length, cs, rfl, Nat.le_refl _, hm, ?_, ?_, hb⟩⟩
  · rw [← Array.length_toList, hc, flat_len]
  · rw [hc, List.take_of_length_le (by rw [flat_len]; exact Nat.le_refl _)]
/-- Which encoding a type has. -/
class EncN (e : TypeId) {α : outParam Type} (q : outParam (Enc α)) : Prop where
  h : True
def decs {α : Type} (q : Enc α) : Nat → List Value → Option (List α)
  | 0, [] => some []
  | 0, _ :: _ => none
  | n + 1, cs => match q.dec (cs.take q.sz) with
    | some x => match decs q n (cs.drop q.sz) with
      | some xs => some (x :: xs)
      | none => none
    | none => none
theorem decs_eq {α : Type} {q : Enc α} : ∀ (n : Nat) (cs : List Value) (xs : List α), decs q n cs = some xs → xs.length = n ∧ xs.flatMap q.f = cs
  | 0, [], _, h => by cases h; exact ⟨rfl, rfl⟩
  | 0, _ :: _, _, h => by cases h
  | n + 1, cs, xs, h => by
    simp only [decs] at h
    split at h
    · rename_i x hx
      split at h
      · rename_i xs' hxs
        injection h with h
        subst h
        obtain ⟨h1, h2⟩ := decs_eq n _ _ hxs
        exact ⟨by simp [h1], by rw [List.flatMap_cons, h2, q.inv _ _ hx, List.take_append_drop]⟩
      · cases h
    · cases h
theorem Pick.blkRow {b n : Nat} {cs : Array Value} {q : Enc α} [EncN e q] (hd : decs q n cs.toList = some xs := by rfl) (hn : Nat.ble n 16777216 = true := by rfl) : Pick (blk b (.cells cs e (0, 0)) :: L) (SL.row q e (.slice (some ⟨b, 0, none⟩) n n) xs) L := ⟨fun g hg => by
  obtain ⟨h1, h2, d, rfl, hb, hL⟩ := hg
  obtain ⟨hl, hf⟩ := decs_eq _ _ _ hd
  exact ⟨h1, h2, d, rfl, row_blk hf.symm hl (by have := Nat.le_of_ble_eq_true hn; simp [maxLen]; omega) rfl hb, hL⟩⟩
theorem Pick.nilRow {q : Enc α} [EncN e q] : Pick L (SL.row q e (.slice none 0 0) []) L := ⟨fun g hg => ⟨fun _ => none, g, fun _ => .inl rfl, rfl, ⟨by simp, .inl ⟨rfl, rfl, rfl⟩⟩, hg⟩⟩
/-- One resource in place of another. -/
theorem SAT.imp {p q : HP} (h : SAT w0 O (p :: L) w) (hi : ∀ g, p g → q g) : SAT w0 O (q :: L) w :=
  ⟨h.1, let ⟨g, a, b, h1, h2, d, e, hp, hL⟩ := h.2; ⟨g, a, b, h1, h2, d, e, hi h1 hp, hL⟩⟩
theorem SAT.own_append (h : SAT w0 O (row k e v xs :: L) w) {ys : List α} {v' : Value} (hown : w'.ownsRow 0 e k.sz v' (xs ++ ys).length ((xs ++ ys).flatMap k.f)) (hg : w.grownBy w' v.ownBlock)
    (hat : v'.ownBlock = v.ownBlock ∨ v'.ownBlock = some w.heap.size) : SAT w0 O (row k e v' (xs ++ ys) :: L) w' := by
  obtain ⟨hk, g, he, hd, h1, h2, d, rfl, ⟨hl, hr⟩, hL⟩ := h
  -- the old row's block, if any, is one of its own
  have hvb : ∀ b, v.ownBlock = some b → ∃ o, h1 b = some o := by
    intro b hb
    rcases hr with ⟨rfl, hn, _⟩ | ⟨g, cap, cur, rfl, hc, hm, hs, ht, hbk⟩
    · cases hb
    · simp [Value.ownBlock] at hb
      subst hb
      exact ⟨.cells cur e (0, 0), by rw [hbk]; simp⟩
  have hj1 : ∀ k o, h1 k = some o → PH.join h1 h2 k = some o := fun k o e => by unfold PH.join; rw [e]
  have hj2 : ∀ k o, h2 k = some o → PH.join h1 h2 k = some o := fun k o e => by
    unfold PH.join
    rcases d k with e' | e'
    · rw [e']; exact e
    · rw [e'] at e; cases e
  have hlt : ∀ k o, h2 k = some o → k < w.heap.size := fun k o e => (Array.getElem?_eq_some_iff.1 (he k o (hj2 k o e))).1
  have hK : KeptW w0 O w' := hk.to hg.os hg.tape hg.output hg.size (fun b hb hb0 ho => hg.block b hb (fun e => by
    obtain ⟨o, ho1⟩ := hvb b e.symm
    rcases hd b o (hj1 b o ho1) with h | h
    · exact ho h
    · omega))
  have hh2 : ∀ b o, h2 b = some o → w'.heap[b]? = some o := fun b o hb => by
    rw [hg.block b (hlt b o hb) (fun e => by
      obtain ⟨o1, ho1⟩ := hvb b e.symm
      rcases d b with h | h
      · rw [h] at ho1; cases ho1
      · rw [h] at hb; cases hb)]
    exact he b o (hj2 b o hb)
  rcases hown.2 with ⟨rfl, hn⟩ | ⟨g', cap, cur, rfl, _, hgg, hc, hm, hs, ht⟩
  · refine ⟨hK, h2, fun b o hb => hh2 b o hb, fun b o hb => hd b o (hj2 b o hb), fun _ => none, h2, fun _ => .inl rfl, rfl, ⟨hown.1, .inl ⟨rfl, hn, rfl⟩⟩, hL⟩
  · simp only [Value.ownBlock] at hat
    have hdis : h2 g' = none := by
      rcases hat with hat | hat
      · obtain ⟨o1, ho1⟩ := hvb g' hat.symm
        rcases d g' with h | h
        · rw [h] at ho1; cases ho1
        · exact h
      · injection hat with hat
        cases h2g : h2 g' with
        | none => rfl
        | some o => have := hlt g' o h2g; omega
    refine ⟨hK, PH.join (fun b => if b = g' then some (.cells cur e (0, 0)) else none) h2, ?_, ?_, fun b => if b = g' then some (.cells cur e (0, 0)) else none, h2, ?_, rfl, ⟨hown.1, .inr ⟨g', cap, cur, rfl, hc, hm, hs, ht, rfl⟩⟩, hL⟩
    · intro b o hb
      unfold PH.join at hb
      by_cases e1 : b = g'
      · subst e1; simp at hb; rw [← hb]; exact hgg
      · simp [e1] at hb; exact hh2 b o hb
    · intro b o hb
      unfold PH.join at hb
      by_cases e1 : b = g'
      · rcases hat with hat | hat
        · obtain ⟨o1, ho1⟩ := hvb g' hat.symm
          rw [e1]
          exact hd g' o1 (hj1 g' o1 ho1)
        · injection hat with hat
          right
          rw [e1, hat]
          exact hk.size
      · simp [e1] at hb; exact hd b o (hj2 b o hb)
    · intro b
      by_cases e1 : b = g'
      · right; rw [e1]; exact hdis
      · left; simp [e1]
end
end Go.SL
