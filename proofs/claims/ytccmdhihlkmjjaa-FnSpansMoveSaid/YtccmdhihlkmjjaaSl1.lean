/- A separation logic over the walk: partial heaps, resources, frames, and the judgement on code. -/
import Derived.Test.YtccmdhihlkmjjaaSl0
namespace Go.SL
open Go.RowKit

/-! ### partial heaps -/
abbrev PH := Nat → Option Obj
abbrev HP := PH → Prop
def Emb (h : PH) (w : World) : Prop := ∀ k o, h k = some o → w.heap[k]? = some o
def PH.join (h1 h2 : PH) : PH := fun k => match h1 k with | some o => some o | none => h2 k
def PH.disj (h1 h2 : PH) : Prop := ∀ k, h1 k = none ∨ h2 k = none
def sepL : List HP → HP
  | [] => fun h => ∀ k, h k = none
  | p :: L => fun h => ∃ h1 h2, PH.disj h1 h2 ∧ h = PH.join h1 h2 ∧ p h1 ∧ sepL L h2
def blk (b : Nat) (o : Obj) : HP := fun h => h = fun k => if k = b then some o else none

theorem join_comm {h1 h2 : PH} (d : PH.disj h1 h2) : PH.join h1 h2 = PH.join h2 h1 := by
  funext k
  unfold PH.join
  rcases d k with h | h <;> rw [h]
  · cases h2 k <;> rfl
  · cases h1 k <;> rfl
theorem join_assoc (h1 h2 h3 : PH) : PH.join (PH.join h1 h2) h3 = PH.join h1 (PH.join h2 h3) := by
  funext k
  unfold PH.join
  cases h1 k <;> rfl
theorem disj_comm {h1 h2 : PH} (d : PH.disj h1 h2) : PH.disj h2 h1 := fun k => (d k).symm
theorem disj_join {h1 h2 h3 : PH} : PH.disj h1 (PH.join h2 h3) ↔ PH.disj h1 h2 ∧ PH.disj h1 h3 := by
  constructor
  · intro d
    refine ⟨fun k => ?_, fun k => ?_⟩
    · rcases d k with h | h
      · exact .inl h
      · unfold PH.join at h
        cases h2' : h2 k with
        | none => exact .inr rfl
        | some o => rw [h2'] at h; cases h
    · rcases d k with h | h
      · exact .inl h
      · unfold PH.join at h
        cases h2' : h2 k with
        | none => rw [h2'] at h; exact .inr h
        | some o => rw [h2'] at h; cases h
  · rintro ⟨d1, d2⟩ k
    rcases d1 k with h | h
    · exact .inl h
    · rcases d2 k with h' | h'
      · exact .inl h'
      · right; unfold PH.join; rw [h]; exact h'

/-- L is p and L', in another order. -/
structure Pick (L : List HP) (p : HP) (L' : List HP) : Prop where
  h : ∀ h, sepL L h → sepL (p :: L') h
theorem iEq {α : Sort _} {a b : α} (h : a = b) : a = b := h
theorem Pick.here {p : HP} {L : List HP} : Pick (p :: L) p L := ⟨fun _ h => h⟩
theorem sepL_swap {p q : HP} {L : List HP} {h : PH} (hh : sepL (p :: q :: L) h) : sepL (q :: p :: L) h := by
  obtain ⟨h1, h2, d, rfl, hp, h3, h4, d', rfl, hq, hL⟩ := hh
  obtain ⟨da, db⟩ := disj_join.1 d
  refine ⟨h3, PH.join h1 h4, disj_join.2 ⟨disj_comm da, d'⟩, ?_, hq, h1, h4, db, rfl, hp, hL⟩
  rw [← join_assoc, join_comm da, join_assoc]
theorem Pick.there {p q : HP} {L L' : List HP} (h : Pick L p L') : Pick (q :: L) p (q :: L') := by
  refine ⟨fun hh => ?_⟩
  rintro ⟨h1, h2, d, e, hq, hL⟩
  exact sepL_swap ⟨h1, h2, d, e, hq, h.h h2 hL⟩

theorem sepL_append {L1 L2 : List HP} {h : PH} : sepL (L1 ++ L2) h ↔ ∃ h1 h2, PH.disj h1 h2 ∧ h = PH.join h1 h2 ∧ sepL L1 h1 ∧ sepL L2 h2 := by
  induction L1 generalizing h with
  | nil =>
    constructor
    · intro hh
      exact ⟨fun _ => none, h, fun _ => .inl rfl, by funext k; rfl, fun _ => rfl, hh⟩
    · rintro ⟨h1, h2, d, rfl, e, hh⟩
      have : PH.join h1 h2 = h2 := by funext k; unfold PH.join; rw [e k]
      rw [this]
      exact hh
  | cons p L1 ih =>
    constructor
    · rintro ⟨h1, h2, d, rfl, hp, hL⟩
      obtain ⟨h3, h4, d', rfl, h5, h6⟩ := ih.1 hL
      obtain ⟨da, db⟩ := disj_join.1 d
      refine ⟨PH.join h1 h3, h4, ?_, (join_assoc _ _ _).symm, ⟨h1, h3, da, rfl, hp, h5⟩, h6⟩
      exact disj_comm (disj_join.2 ⟨disj_comm db, disj_comm d'⟩)
    · rintro ⟨h1, h2, d, rfl, ⟨h3, h4, d', rfl, hp, h5⟩, h6⟩
      have d1 := disj_comm d
      obtain ⟨da, db⟩ := disj_join.1 d1
      refine ⟨h3, PH.join h4 h2, disj_join.2 ⟨d', disj_comm da⟩, join_assoc _ _ _, hp, ih.2 ⟨h4, h2, disj_comm db, rfl, h5, h6⟩⟩

/-! ### worlds -/
/-- What lay in w0 and is not in O is as it was. -/
structure KeptW (w0 : World) (O : Nat → Prop) (w : World) : Prop where
  os : w.os = w0.os
  tape : w.tape = w0.tape
  output : w.output = w0.output
  size : w0.heap.size ≤ w.heap.size
  block : ∀ k, k < w0.heap.size → ¬ O k → w.heap[k]? = w0.heap[k]?
theorem KeptW.refl (w : World) (O : Nat → Prop) : KeptW w O w := ⟨rfl, rfl, rfl, Nat.le_refl _, fun _ _ _ => rfl⟩
def SAT (w0 : World) (O : Nat → Prop) (L : List HP) (w : World) : Prop :=
  KeptW w0 O w ∧ ∃ h, Emb h w ∧ (∀ k o, h k = some o → O k ∨ w0.heap.size ≤ k) ∧ sepL L h
/-- In every world of this kind R holds. -/
structure Rd (w0 : World) (O : Nat → Prop) (L : List HP) (R : World → Prop) : Prop where
  h : ∀ w, SAT w0 O L w → R w

section
variable {w0 w w' : World} {O : Nat → Prop} {L L' L1 L2 : List HP} {p : HP} {o o' : Obj} {b : Nat}
theorem SAT.pick (hp : Pick L p L') (h : SAT w0 O L w) : SAT w0 O (p :: L') w := ⟨h.1, let ⟨g, a, b, c⟩ := h.2; ⟨g, a, b, hp.h g c⟩⟩
theorem KeptW.to (h : KeptW w0 O w) (e1 : w'.os = w.os) (e2 : w'.tape = w.tape) (e3 : w'.output = w.output) (e4 : w.heap.size ≤ w'.heap.size)
    (e5 : ∀ k, k < w.heap.size → k < w0.heap.size → ¬ O k → w'.heap[k]? = w.heap[k]?) : KeptW w0 O w' :=
  ⟨e1.trans h.os, e2.trans h.tape, e3.trans h.output, Nat.le_trans h.size e4, fun k hk ho => (e5 k (Nat.lt_of_lt_of_le hk h.size) hk ho).trans (h.block k hk ho)⟩
theorem SAT.same (h : SAT w0 O L w) (e1 : w'.os = w.os) (e2 : w'.tape = w.tape) (e3 : w'.output = w.output) (e4 : w'.heap = w.heap) : SAT w0 O L w' :=
  ⟨h.1.to e1 e2 e3 (by rw [e4]; exact Nat.le_refl _) (fun k _ _ _ => by rw [e4]), let ⟨g, a, b, c⟩ := h.2; ⟨g, fun k o hk => by rw [e4]; exact a k o hk, b, c⟩⟩
theorem SAT.drewN (h : SAT w0 O L w) (n : Nat) : SAT w0 O L (w.drewN n) := h.same rfl rfl rfl rfl
theorem SAT.drew (h : SAT w0 O L w) : SAT w0 O L w.drew := h.same rfl rfl rfl rfl
theorem SAT.read (h : SAT w0 O (blk b o :: L) w) : w.heap[b]? = some o := by
  obtain ⟨g, he, _, h1, h2, _, rfl, hb, _⟩ := h.2
  refine he b o ?_
  unfold PH.join
  rw [hb]
  simp
theorem emb_lt {h : PH} (he : Emb h w) {k : Nat} (hk : w.heap.size ≤ k) : h k = none := by
  cases e : h k with
  | none => rfl
  | some o =>
    have := (Array.getElem?_eq_some_iff.1 (he k o e)).1
    omega
theorem SAT.alloc (h : SAT w0 O L w) (o : Obj) : SAT w0 O (blk w.heap.size o :: L) (w.alloc o) := by
  refine ⟨h.1.to rfl rfl rfl (by simp) (fun k hk _ _ => Below.heap_alloc w o k hk), ?_⟩
  obtain ⟨g, he, hd, hL⟩ := h.2
  refine ⟨PH.join (fun k => if k = w.heap.size then some o else none) g, ?_, ?_, fun k => if k = w.heap.size then some o else none, g, ?_, rfl, rfl, hL⟩
  · intro k o' hk
    unfold PH.join at hk
    by_cases e : k = w.heap.size
    · subst e
      simp at hk
      subst hk
      exact heap_alloc_new w o
    · simp [e] at hk
      have := he k o' hk
      rw [Below.heap_alloc w o k (Array.getElem?_eq_some_iff.1 this).1]
      exact this
  · intro k o' hk
    unfold PH.join at hk
    by_cases e : k = w.heap.size
    · right; rw [e]; exact h.1.size
    · simp [e] at hk
      exact hd k o' hk
  · intro k
    by_cases e : k = w.heap.size
    · right; exact emb_lt he (by omega)
    · left; simp [e]
/-- A block of its own is written. -/
theorem SAT.put (h : SAT w0 O (blk b o :: L) w) (e1 : w'.os = w.os) (e2 : w'.tape = w.tape) (e3 : w'.output = w.output) (e4 : w'.heap.size = w.heap.size)
    (e5 : ∀ k, k ≠ b → w'.heap[k]? = w.heap[k]?) (e6 : w'.heap[b]? = some o') : SAT w0 O (blk b o' :: L) w' := by
  obtain ⟨g, he, hd, h1, h2, d, rfl, hb, hL⟩ := h.2
  have hOb : O b ∨ w0.heap.size ≤ b := hd b o (by unfold PH.join; rw [hb]; simp)
  refine ⟨h.1.to e1 e2 e3 (by omega) (fun k hk hk0 ho => e5 k ?_), ?_⟩
  · rintro rfl
    rcases hOb with h | h
    · exact ho h
    · omega
  refine ⟨PH.join (fun k => if k = b then some o' else none) h2, ?_, ?_, _, h2, ?_, rfl, rfl, hL⟩
  · intro k o2 hk
    unfold PH.join at hk
    by_cases e : k = b
    · subst e
      simp at hk
      subst hk
      exact e6
    · simp [e] at hk
      rw [e5 k e]
      refine he k o2 ?_
      unfold PH.join
      rw [hb]
      simp [e, hk]
  · intro k o2 hk
    unfold PH.join at hk
    by_cases e : k = b
    · subst e; exact hOb
    · simp [e] at hk
      refine hd k o2 ?_
      unfold PH.join
      rw [hb]
      simp [e, hk]
  · intro k
    by_cases e : k = b
    · right
      rcases d b with h | h
      · rw [hb] at h; simp at h
      · rw [e]; exact h
    · left; simp [e]

theorem sepL_tail {h : PH} (hh : sepL (L1 ++ L2) h) : ∃ g, (∀ k o, g k = some o → h k = some o) ∧ sepL L2 g := by
  obtain ⟨h1, h2, d, rfl, _, h3⟩ := sepL_append.1 hh
  refine ⟨h2, fun k o hk => ?_, h3⟩
  unfold PH.join
  rcases d k with e | e
  · rw [e]; exact hk
  · rw [e] at hk; cases hk
theorem SAT.drop (h : SAT w0 O (L1 ++ L2) w) : SAT w0 O L2 w := by
  obtain ⟨hk, g, he, hd, hL⟩ := h
  obtain ⟨g2, hs, h2⟩ := sepL_tail hL
  exact ⟨hk, g2, fun k o hk => he k o (hs k o hk), fun k o hk => hd k o (hs k o hk), h2⟩

/-- A call on some of what is owned: the footprint of the part. -/
theorem SAT.split (h : SAT w0 O (L1 ++ L2) w) : ∃ Oc : Nat → Prop, SAT w Oc L1 w ∧ (∀ R, Rd w0 O L2 R → Rd w Oc [] R) ∧
    (∀ L3 w', SAT w Oc L3 w' → SAT w0 O (L3 ++ L2) w') := by
  obtain ⟨hk, g, he, hd, hL⟩ := h
  obtain ⟨h1, h2, d, rfl, hL1, hL2⟩ := sepL_append.1 hL
  have hj1 : ∀ k o, h1 k = some o → PH.join h1 h2 k = some o := fun k o e => by unfold PH.join; rw [e]
  have hj2 : ∀ k o, h2 k = some o → PH.join h1 h2 k = some o := fun k o e => by
    unfold PH.join
    rcases d k with e' | e'
    · rw [e']; exact e
    · rw [e'] at e; cases e
  have hlt : ∀ k o, h2 k = some o → k < w.heap.size := fun k o e => (Array.getElem?_eq_some_iff.1 (he k o (hj2 k o e))).1
  have hO1 : ∀ k, h1 k ≠ none → O k ∨ w0.heap.size ≤ k := fun k e => by
    cases e' : h1 k with
    | none => exact absurd e' e
    | some o => exact hd k o (hj1 k o e')
  have hno : ∀ k o, h2 k = some o → ¬ (h1 k ≠ none) := fun k o e e' => by
    rcases d k with e2 | e2
    · exact e' e2
    · rw [e2] at e; cases e
  have hkept : ∀ w', KeptW w (fun k => h1 k ≠ none) w' → KeptW w0 O w' := fun w' hw => hk.to hw.os hw.tape hw.output hw.size (fun k hlt' hk0 ho => hw.block k hlt' (fun e => by
      rcases hO1 k e with h | h
      · exact ho h
      · omega))
  refine ⟨fun k => h1 k ≠ none, ⟨KeptW.refl _ _, h1, fun k o e => he k o (hj1 k o e), fun k o e => .inl (by show h1 k ≠ none; rw [e]; simp), hL1⟩, ?_, ?_⟩
  · intro R hR
    refine ⟨fun w' hw' => ?_⟩
    refine hR.h w' ⟨hkept w' hw'.1, h2, fun k o e => ?_, fun k o e => hd k o (hj2 k o e), hL2⟩
    rw [hw'.1.block k (hlt k o e) (hno k o e)]
    exact he k o (hj2 k o e)
  · rintro L3 w' ⟨hkw, g3, he3, hd3, hL3⟩
    have dd : PH.disj g3 h2 := by
      intro k
      cases e : g3 k with
      | none => exact .inl rfl
      | some o =>
        right
        rcases hd3 k o e with h | h
        · rcases d k with e2 | e2
          · exact absurd e2 h
          · exact e2
        · cases e2 : h2 k with
          | none => rfl
          | some o2 => have := hlt k o2 e2; omega
    refine ⟨hkept w' hkw, PH.join g3 h2, ?_, ?_, sepL_append.2 ⟨g3, h2, dd, rfl, hL3, hL2⟩⟩
    · intro k o e
      unfold PH.join at e
      cases e3 : g3 k with
      | some o3 => rw [e3] at e; cases e; exact he3 k o e3
      | none =>
        rw [e3] at e
        rw [hkw.block k (hlt k o e) (hno k o e)]
        exact he k o (hj2 k o e)
    · intro k o e
      unfold PH.join at e
      cases e3 : g3 k with
      | some o3 =>
        rw [e3] at e
        rcases hd3 k o3 e3 with h | h
        · exact hO1 k h
        · right; exact Nat.le_trans hk.size h
      | none => rw [e3] at e; exact hd k o (hj2 k o e)
theorem Rd.base {R : World → Prop} (h : Rd w0 O [] R) : Rd w0 O L R := ⟨fun w hw => h.h w (SAT.drop (L1 := L) (by rw [List.append_nil]; exact hw))⟩
theorem Rd.imp {R R' : World → Prop} (h : Rd w0 O L R) (hi : ∀ w, R w → R' w) : Rd w0 O L R' := ⟨fun w hw => hi w (h.h w hw)⟩
end
end Go.SL
