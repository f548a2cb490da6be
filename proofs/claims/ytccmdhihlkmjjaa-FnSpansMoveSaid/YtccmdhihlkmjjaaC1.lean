/- The plain law of spans: what impl's stretches say is what spec's looks say. -/
import Derived.Test.YtccmdhihlkmjjaaA10
import Derived.Test.YtccmdhihlkmjjaaB4
namespace Go.SL
open Go.RowKit Go.Proofs
/-- The letters of stretches, one by one. -/
def ex (g : List Stretch) : List Look := g.flatMap fun s => List.replicate s.many.toNat s.look
def WFs : List Stretch → Prop
  | [] => True
  | [s] => 0 < s.many
  | s :: t :: r => 0 < s.many ∧ eqLk t.look s.look = false ∧ WFs (t :: r)
def pr (g : List Stretch) : List (Look × Nat) := g.map fun s => (s.look, s.many.toNat)
theorem groups_rep (x : Look) (l : List Look) : ∀ n, groups (List.replicate n x ++ l) = pushN x n (groups l)
  | 0 => rfl
  | n + 1 => by
    have h : ∀ n g, pushN x n (push x g) = push x (pushN x n g) := by
      intro n
      induction n with
      | zero => intro g; rfl
      | succ n ih => intro g; exact ih _
    rw [List.replicate_succ, List.cons_append]
    simp only [groups, pushN]
    rw [groups_rep x l n, h]
theorem groups_ex : ∀ (g : List Stretch), WFs g → groups (ex g) = pr g
  | [], _ => rfl
  | [s], h => by
    simp only [ex, List.flatMap_cons, List.flatMap_nil, pr, List.map_cons, List.map_nil]
    rw [groups_rep]
    exact pushN_end (by simp only [WFs] at h; omega)
  | s :: t :: r, h => by
    obtain ⟨h1, h2, h3⟩ := h
    have ih := groups_ex (t :: r) h3
    simp only [ex, pr, List.flatMap_cons, List.map_cons] at ih ⊢
    rw [groups_rep, ih]
    exact pushN_other (by omega) h2
theorem ex_append (g h : List Stretch) : ex (g ++ h) = ex g ++ ex h := by simp [ex]
theorem wf_snoc : ∀ (g : List Stretch) (s : Stretch), WFs g → 0 < s.many → (∀ t, g.getLast? = some t → eqLk s.look t.look = false) → WFs (g ++ [s])
  | [], s, _, hs, _ => hs
  | [t], s, h, hs, hl => ⟨h, hl t rfl, hs⟩
  | a :: b :: r, s, h, hs, hl => ⟨h.1, h.2.1, wf_snoc (b :: r) s h.2.2 hs (fun t ht => hl t (by simpa using ht))⟩
theorem wf_init : ∀ (g : List Stretch) (s : Stretch), WFs (g ++ [s]) → WFs g ∧ 0 < s.many ∧ (∀ t, g.getLast? = some t → eqLk s.look t.look = false)
  | [], s, h => ⟨trivial, h, fun t ht => by simp at ht⟩
  | [t], s, h => ⟨h.1, h.2.2, fun u hu => by simp at hu; rw [← hu]; exact h.2.1⟩
  | a :: b :: r, s, h => by
    obtain ⟨h1, h2, h3⟩ := wf_init (b :: r) s h.2.2
    exact ⟨⟨h.1, h.2.1, h1⟩, h2, fun t ht => h3 t (by simpa using ht)⟩
theorem eqLk_comm (a b : Look) : eqLk a b = eqLk b a := by
  unfold eqLk
  rw [show (a.size == b.size) = (b.size == a.size) from Bool.beq_comm, show (a.mark == b.mark) = (b.mark == a.mark) from Bool.beq_comm]
theorem add_snoc (g : List Stretch) (s : Stretch) (x : Look) (n : Int) (hn : n ≠ 0) : addS (g ++ [s]) x n = match eqLk s.look x with
    | true => g ++ [⟨s.look, w64 (s.many + n)⟩]
    | false => g ++ [s, ⟨x, n⟩] := by
  have h1 : (g ++ [s]).getD ((g ++ [s]).length - 1) eStretch.d = s := by simp [List.getD_eq_getElem?_getD]
  have h2 : decide (0 < (g ++ [s]).length) = true := by simp
  unfold addS
  rw [decide_eq_false hn, h1, h2, Bool.true_and]
  cases eqLk s.look x with
  | true =>
    simp only [List.length_append, List.length_cons, List.length_nil, Nat.zero_add, Nat.add_sub_cancel]
    rw [List.set_append_right _ _ (Nat.le_refl _), Nat.sub_self]
    rfl
  | false => simp
theorem addS_ok {g : List Stretch} {x : Look} {n : Int} (hw : WFs g) (h0 : 0 ≤ n) (hb : ((ex g).length : Int) + n ≤ 1000000) : WFs (addS g x n) ∧ ex (addS g x n) = ex g ++ List.replicate n.toNat x := by
  by_cases hn : n = 0
  · subst hn
    simp [addS, hw]
  rcases List.eq_nil_or_concat g with rfl | ⟨g', s, rfl⟩
  · have : addS [] x n = [⟨x, n⟩] := by simp [addS, hn]
    rw [this]
    exact ⟨by simp only [WFs]; omega, by simp [ex]⟩
  rw [List.concat_eq_append] at *
  obtain ⟨h1, h2, h3⟩ := wf_init g' s hw
  have hb' : s.many + n ≤ 1000000 := by
    rw [ex_append] at hb
    simp [ex] at hb
    omega
  rw [add_snoc g' s x n hn]
  cases he : eqLk s.look x with
  | true =>
    have hx := eqLk_eq he
    subst hx
    have hw64 : w64 (s.many + n) = s.many + n := w64_in (by omega)
    refine ⟨wf_snoc g' _ h1 (by show 0 < w64 _; rw [hw64]; omega) h3, ?_⟩
    rw [ex_append, ex_append, List.append_assoc]
    congr 1
    simp only [ex, List.flatMap_cons, List.flatMap_nil, List.append_nil, hw64]
    rw [show (s.many + n).toNat = s.many.toNat + n.toNat by omega, ← List.replicate_append_replicate]
  | false =>
    refine ⟨?_, ?_⟩
    · show WFs (g' ++ [s, ⟨x, n⟩])
      rw [show g' ++ [s, ⟨x, n⟩] = (g' ++ [s]) ++ [⟨x, n⟩] by simp]
      refine wf_snoc _ _ hw (by show 0 < n; omega) fun t ht => ?_
      simp at ht
      rw [← ht, eqLk_comm]
      exact he
    · show ex (g' ++ [s, ⟨x, n⟩]) = _
      simp [ex_append, ex]
/-- Stretches of letters, all in number. -/
def Pos (l : List Stretch) : Prop := ∀ s ∈ l, 0 < s.many
theorem WFs.pos : ∀ {g : List Stretch}, WFs g → Pos g
  | [], _, _, h => by cases h
  | [s], h, u, hu => by rw [List.mem_singleton.1 hu]; exact h
  | s :: t :: r, h, u, hu => by
    rcases List.mem_cons.1 hu with rfl | hu
    · exact h.1
    · exact WFs.pos h.2.2 u hu
theorem rep_slice (x : Look) (m T F : Nat) : ((List.replicate m x).take T).drop F = List.replicate (min m T - F) x := by
  rw [List.take_replicate, List.drop_replicate, Nat.min_comm]
theorem partS_ok {fr to : Int} : ∀ (l : List Stretch) (a : Int) (g : List Stretch), Pos l → 0 ≤ a → a + (ex l).length ≤ 100000 → ((ex g).length : Int) + (ex l).length ≤ 100000 → 0 ≤ fr → fr ≤ 100000 → 0 ≤ to → to ≤ 100000 → WFs g →
    WFs (partS fr to l a g) ∧ ex (partS fr to l a g) = ex g ++ ((ex l).take (to - a).toNat).drop (fr - a).toNat
  | [], a, g, _, _, _, _, _, _, _, _, hw => ⟨hw, by simp [partS, ex]⟩
  | s :: l, a, g, hp, ha, hl, hg, h1, h2, h3, h4, hw => by
    have hs := hp s List.mem_cons_self
    have hex : ex (s :: l) = List.replicate s.many.toNat s.look ++ ex l := rfl
    have hlen : ((ex (s :: l)).length : Int) = s.many + (ex l).length := by rw [hex]; simp; omega
    rw [hlen] at hl hg
    have e1 : w64 (a + s.many) = a + s.many := w64_in (by omega)
    have hN : partN a fr to s = max 0 (min (a + s.many) to - max a fr) := by
      unfold partN
      rw [e1, w64_in (by omega)]
    have hN0 : 0 ≤ partN a fr to s ∧ partN a fr to s ≤ s.many := by rw [hN]; omega
    obtain ⟨q1, q2⟩ := addS_ok (x := s.look) (n := partN a fr to s) hw hN0.1 (by omega)
    have hlen2 : ((ex (addS g s.look (partN a fr to s))).length : Int) = (ex g).length + partN a fr to s := by rw [q2]; simp; omega
    obtain ⟨r1, r2⟩ := partS_ok l (a + s.many) (addS g s.look (partN a fr to s)) (fun u hu => hp u (List.mem_cons_of_mem _ hu)) (by omega) (by omega) (by omega) h1 h2 h3 h4 q1
    have e2 : partS fr to (s :: l) a g = partS fr to l (a + s.many) (addS g s.look (partN a fr to s)) := by simp only [partS, e1]
    rw [e2]
    refine ⟨r1, ?_⟩
    rw [r2, q2, hex, List.take_append, List.drop_append, List.length_take, List.length_replicate, rep_slice, List.append_assoc]
    congr 2
    · congr 1
      rw [hN]; omega
    · by_cases hT : s.many.toNat ≤ (to - a).toNat
      · rw [show (to - a).toNat - s.many.toNat = (to - (a + s.many)).toNat by omega, show (fr - a).toNat - min (to - a).toNat s.many.toNat = (fr - (a + s.many)).toNat by omega]
      · rw [show (to - a).toNat - s.many.toNat = 0 by omega, show (to - (a + s.many)).toNat = 0 by omega]
        simp
/-! how letters look -/
/-- Spans one behind the other, from b on. -/
def chain (b : Int) : List Span → Prop
  | [] => True
  | s :: l => b ≤ s.fr ∧ s.fr < s.to ∧ chain s.to l
theorem chain_low : ∀ {l : List Span} {b c : Int}, chain b l → c ≤ b → chain c l
  | [], _, _, _, _ => trivial
  | _ :: _, _, _, h, hc => ⟨Int.le_trans hc h.1, h.2⟩
theorem sAtL_low : ∀ {l : List Span} {b i : Int}, chain b l → (∀ s ∈ l, s.to ≤ 1000000) → 0 ≤ b → i < b → sAtL i l = (10, 0)
  | [], _, _, _, _, _, _ => rfl
  | s :: l, b, i, h, hb, h0, hi => by
    obtain ⟨h1, h2, h3⟩ := h
    have hs := hb s List.mem_cons_self
    have : inR i s.fr (w64 (s.to - 1)) = false := by
      rw [w64_in (by omega)]
      simp [inR]; omega
    simp only [sAtL, this]
    exact sAtL_low h3 (fun u hu => hb u (List.mem_cons_of_mem _ hu)) (by omega) (by omega)
theorem lookOf_out {s : Span} {l : List Span} {i : Nat} (h1 : s.to ≤ 1000000) (h0 : 0 ≤ s.fr) (h2 : s.fr < s.to) (hi : s.to ≤ i) : lookOf (s :: l) i = lookOf l i := by
  have : inR (i : Int) s.fr (w64 (s.to - 1)) = false := by
    rw [w64_in (by omega)]
    simp [inR]; omega
  simp only [lookOf, sAtL, this]
theorem lookOf_in {s : Span} {l : List Span} {i : Nat} (h1 : s.to ≤ 1000000) (h0 : 0 ≤ s.fr) (h2 : s.fr ≤ i) (hi : (i : Int) < s.to) : lookOf (s :: l) i = lookS s := by
  have : inR (i : Int) s.fr (w64 (s.to - 1)) = true := by
    rw [w64_in (by omega)]
    simp [inR]; omega
  simp only [lookOf, sAtL, this, lookS]
theorem lookOf_low {l : List Span} {b : Int} {i : Nat} (h : chain b l) (hb : ∀ s ∈ l, s.to ≤ 1000000) (h0 : 0 ≤ b) (hi : (i : Int) < b) : lookOf l i = ⟨10, 0⟩ := by
  simp only [lookOf, sAtL_low h hb h0 hi]
theorem sLooks_add (L : List Span) (a n : Nat) (x : Look) (h : ∀ i, a ≤ i → i < a + n → lookOf L i = x) : sLooks L (a + n) = sLooks L a ++ List.replicate n x := by
  induction n with
  | zero => simp
  | succ n ih =>
    rw [← Nat.add_assoc, sLooks_succ, ih (fun i h1 h2 => h i h1 (by omega)), h (a + n) (by omega) (by omega), List.replicate_succ', List.append_assoc]
theorem lof_ok (L : List Span) (c : Int) (hc : c ≤ 100000) : ∀ (l : List Span) (a : Int) (g : List Stretch), chain a l → (∀ s ∈ l, s.to ≤ c) → 0 ≤ a → a ≤ c → (∀ i : Nat, a ≤ i → lookOf L i = lookOf l i) → WFs g → ex g = sLooks L a.toNat →
    WFs (lof l a g).2 ∧ ex (lof l a g).2 = sLooks L (lof l a g).1.toNat ∧ 0 ≤ (lof l a g).1 ∧ (lof l a g).1 ≤ c ∧ (∀ i : Nat, (lof l a g).1 ≤ i → lookOf L i = ⟨10, 0⟩)
  | [], a, g, _, _, h0, hac, hL, hw, he => ⟨hw, he, h0, hac, fun i hi => hL i hi⟩
  | s :: l, a, g, hch, hb, h0, hac, hL, hw, he => by
    obtain ⟨h1, h2, h3⟩ := hch
    have hs := hb s List.mem_cons_self
    have hbl : ∀ u ∈ s :: l, u.to ≤ 1000000 := fun u hu => by have := hb u hu; omega
    have hlen : (ex g).length = a.toNat := by rw [he, sLooks_len]
    have w1 : w64 (s.fr - a) = s.fr - a := w64_in (by omega)
    have w2 : w64 (s.to - s.fr) = s.to - s.fr := w64_in (by omega)
    obtain ⟨p1, p2⟩ := addS_ok (x := ⟨10, 0⟩) (n := s.fr - a) hw (by omega) (by omega)
    have p3 : ex (addS g ⟨10, 0⟩ (s.fr - a)) = sLooks L s.fr.toNat := by
      rw [p2, he, show s.fr.toNat = a.toNat + (s.fr - a).toNat by omega]
      exact (sLooks_add L _ _ _ fun i hi1 hi2 => by
        rw [hL i (by omega)]
        exact lookOf_low (b := s.fr) ⟨Int.le_refl _, h2, h3⟩ hbl (by omega) (by omega)).symm
    have hlen2 : (ex (addS g ⟨10, 0⟩ (s.fr - a))).length = s.fr.toNat := by rw [p3, sLooks_len]
    obtain ⟨q1, q2⟩ := addS_ok (x := lookS s) (n := s.to - s.fr) p1 (by omega) (by omega)
    have q3 : ex (addS (addS g ⟨10, 0⟩ (s.fr - a)) (lookS s) (s.to - s.fr)) = sLooks L s.to.toNat := by
      rw [q2, p3, show s.to.toNat = s.fr.toNat + (s.to - s.fr).toNat by omega]
      exact (sLooks_add L _ _ _ fun i hi1 hi2 => by
        rw [hL i (by omega)]
        exact lookOf_in (by omega) (by omega) (by omega) (by omega)).symm
    have := lof_ok L c hc l s.to _ h3 (fun u hu => hb u (List.mem_cons_of_mem _ hu)) (by omega) hs (fun i hi => by rw [hL i (by omega)]; exact lookOf_out (by omega) (by omega) h2 hi) q1 q3
    simp only [lof, w1, w2]
    exact this
theorem allI_all {f : Nat → Bool} : ∀ {m i : Nat}, allI f m i = true → ∀ j, i ≤ j → j < i + m → f j = true
  | 0, i, _, j, h1, h2 => by omega
  | m + 1, i, h, j, h1, h2 => by
    simp only [allI, Bool.and_eq_true] at h
    by_cases e : j = i
    · rw [e]; exact h.1
    · exact allI_all h.2 j (by omega) (by omega)
theorem all_allI {f : Nat → Bool} : ∀ {m i : Nat}, (∀ j, i ≤ j → j < i + m → f j = true) → allI f m i = true
  | 0, _, _ => rfl
  | m + 1, i, h => by
    simp only [allI, Bool.and_eq_true]
    exact ⟨h i (Nat.le_refl _) (by omega), all_allI fun j h1 h2 => h j (by omega) (by omega)⟩
theorem chain_of {n : Int} (hn : 0 ≤ n ∧ n ≤ 100000) : ∀ (l : List Span) (b : Int), (∀ i, i < l.length → 0 ≤ (l.getD i eSpan.d).fr ∧ (l.getD i eSpan.d).fr < (l.getD i eSpan.d).to ∧ (l.getD i eSpan.d).to ≤ n ∧ (0 < i → (l.getD (i - 1) eSpan.d).to ≤ (l.getD i eSpan.d).fr)) → (∀ s l', l = s :: l' → b ≤ s.fr) → chain b l ∧ ∀ s ∈ l, s.to ≤ n
  | [], b, _, _ => ⟨trivial, fun _ h => by cases h⟩
  | s :: l, b, h, hb => by
    have h0 := h 0 (by simp)
    simp only [List.getD_cons_zero] at h0
    obtain ⟨p, q⟩ := chain_of hn l s.to (fun i hi => by
      have := h (i + 1) (by simpa using hi)
      simp only [List.getD_cons_succ] at this
      refine ⟨this.1, this.2.1, this.2.2.1, fun hp => ?_⟩
      have h4 := this.2.2.2 (by omega)
      rw [show i + 1 - 1 = (i - 1) + 1 by omega, List.getD_cons_succ] at h4
      exact h4) (fun u l' e => by
      subst e
      have := (h 1 (by simp)).2.2.2 (by omega)
      simpa using this)
    exact ⟨⟨hb s l rfl, h0.2.1, p⟩, fun u hu => by
      rcases List.mem_cons.1 hu with rfl | hu
      · exact h0.2.2.1
      · exact q u hu⟩
theorem sl6Ok_in {s : Span} {n : Int} (hn : 0 ≤ n ∧ n ≤ 100000) : sl6Ok s n = iOk s n := by
  by_cases h : 0 ≤ s.fr ∧ s.fr < n
  · have e1 : w64 (n - 1) = n - 1 := w64_in (by omega)
    have e2 : w64 (s.fr + 1) = s.fr + 1 := w64_in (by omega)
    simp only [sl6Ok, iOk, inR, e1, e2]
    rw [Bool.eq_iff_iff]
    simp only [Bool.and_eq_true, decide_eq_true_eq]
    omega
  · have e1 : w64 (n - 1) = n - 1 := w64_in (by omega)
    rw [Bool.eq_iff_iff]
    simp only [sl6Ok, iOk, inR, e1, Bool.and_eq_true, decide_eq_true_eq]
    omega
theorem SpansOk_eq (l : List Span) (n : Int) : iSpansOk l n = sSpansOk l n := by
  by_cases hn : 0 ≤ n ∧ n ≤ 80
  · have e : iAt l n = sAt l n := by
      funext i
      simp only [iAt, sAt, sl6Ok_in (s := l.getD i eSpan.d) (n := n) (by omega)]
    simp only [iSpansOk, sSpansOk, e, inR]
    rw [Bool.eq_iff_iff]
    simp only [Bool.and_eq_true, decide_eq_true_eq]
    constructor <;> (rintro ⟨h1, h2⟩; exact ⟨h1, by omega⟩)
  · have h1 : iSpansOk l n = false := by
      cases h : iSpansOk l n with
      | false => rfl
      | true =>
        simp only [iSpansOk, Bool.and_eq_true, decide_eq_true_eq] at h
        omega
    have h2 : sSpansOk l n = false := by
      cases h : sSpansOk l n with
      | false => rfl
      | true => exact absurd (ok_c h) hn
    rw [h1, h2]
theorem chain_ok {l : List Span} {n : Int} (h : sSpansOk l n = true) : chain 0 l ∧ ∀ s ∈ l, s.to ≤ n := by
  have hn := ok_c h
  simp only [sSpansOk, Bool.and_eq_true] at h
  refine chain_of (by omega) l 0 (fun i hi => ?_) (fun s l' e => ?_)
  · have := allI_all h.1 i (Nat.zero_le _) (by omega)
    simp only [sAt, sl6Ok_in (s := l.getD i eSpan.d) (n := n) (by omega), iOk, Bool.and_eq_true, Bool.or_eq_true, decide_eq_true_eq] at this
    omega
  · subst e
    have := allI_all h.1 0 (Nat.le_refl _) (by simp)
    simp only [sAt, List.getD_cons_zero, sl6Ok_in (s := s) (n := n) (by omega), iOk, Bool.and_eq_true, Bool.or_eq_true, decide_eq_true_eq] at this
    omega
theorem looksOf_ok {l : List Span} {c : Int} (h : sSpansOk l c = true) : WFs (looksOf l c) ∧ ex (looksOf l c) = sLooks l c.toNat := by
  have hn := ok_c h
  obtain ⟨h1, h2⟩ := chain_ok h
  obtain ⟨p1, p2, p3, p4, p5⟩ := lof_ok l c (by omega) l 0 [] h1 h2 (by omega) hn.1 (fun _ _ => rfl) trivial rfl
  have hlen : (ex (lof l 0 []).2).length = (lof l 0 []).1.toNat := by rw [p2, sLooks_len]
  have w1 : w64 (c - (lof l 0 []).1) = c - (lof l 0 []).1 := w64_in (by omega)
  unfold looksOf
  rw [w1]
  obtain ⟨q1, q2⟩ := addS_ok (x := ⟨10, 0⟩) (n := c - (lof l 0 []).1) p1 (by omega) (by omega)
  refine ⟨q1, ?_⟩
  rw [q2, p2]
  generalize (lof l 0 []).1 = a at *
  rw [show c.toNat = a.toNat + (c - a).toNat by omega]
  exact (sLooks_add l _ _ _ fun i hi _ => p5 i (by omega)).symm
/-- impl.looks.spans, as a list. -/
def iSp : Int → List Stretch → List Span
  | _, [] => []
  | a, s :: l => match eqLk s.look ⟨10, 0⟩ with
    | true => iSp (w64 (a + s.many)) l
    | false => ⟨a, w64 (a + s.many), s.look.size, s.look.mark⟩ :: iSp (w64 (a + s.many)) l
theorem iSp_eq : ∀ (l : List Stretch) (a : Nat), Pos l → (a : Int) + (ex l).length ≤ 100000 → iSp a l = spansOf a (pr l)
  | [], _, _, _ => rfl
  | s :: l, a, hp, hb => by
    have hs := hp s List.mem_cons_self
    have hlen : ((ex (s :: l)).length : Int) = s.many + (ex l).length := by simp [ex]; omega
    rw [hlen] at hb
    have e1 : w64 ((a : Int) + s.many) = ((a + s.many.toNat : Nat) : Int) := by rw [w64_in (by omega)]; omega
    have ih := iSp_eq l (a + s.many.toNat) (fun u hu => hp u (List.mem_cons_of_mem _ hu)) (by omega)
    simp only [iSp, pr, List.map_cons, spansOf, e1]
    rw [ih]
    have : eqLk s.look ⟨10, 0⟩ = (decide (s.look.size = 10) && decide (s.look.mark = 0)) := by simp [eqLk, Bool.beq_eq_decide_eq]
    rw [this]
    cases (decide (s.look.size = 10) && decide (s.look.mark = 0)) <;> rfl
theorem iSp_spans {g : List Stretch} (h : WFs g) (hb : (ex g).length ≤ 100000) : iSp 0 g = sSpans (ex g) := by
  unfold sSpans
  rw [groups_ex g h]
  exact iSp_eq g 0 h.pos (by omega)
theorem atS_eq : ∀ (l : List Stretch) (k : Nat), Pos l → k ≤ 100000 → (ex l).length ≤ 100000 → atS l (k : Int) = (ex l).getD k ⟨10, 0⟩
  | [], k, _, _, _ => by simp [atS, ex]
  | s :: l, k, hp, hk0, hb => by
    have hs := hp s List.mem_cons_self
    have hex : ex (s :: l) = List.replicate s.many.toNat s.look ++ ex l := rfl
    have hlen : ((ex (s :: l)).length : Int) = s.many + (ex l).length := by rw [hex]; simp; omega
    simp only [atS]
    rw [hex]
    by_cases hk : (k : Int) < s.many
    · rw [decide_eq_true hk]
      simp only [List.getD_eq_getElem?_getD]
      rw [List.getElem?_append_left (by simp; omega), List.getElem?_replicate, if_pos (by omega)]
      rfl
    · rw [decide_eq_false hk]
      simp only
      rw [w64_in (by omega), show (k : Int) - s.many = ((k - s.many.toNat : Nat) : Int) by omega, atS_eq l _ (fun u hu => hp u (List.mem_cons_of_mem _ hu)) (by omega) (by omega)]
      simp only [List.getD_eq_getElem?_getD]
      rw [List.getElem?_append_right (by simp; omega)]
      simp
def iMoveOk (l : List Span) (c a n : Int) : Bool := iSpansOk l c && (decide (0 ≤ a) && (decide (a ≤ c) && (decide (n ≤ w64 (80 - c)) && decide (w64 (a - c) ≤ n))))
def iMoveG (was : List Stretch) (a n : Int) : List Stretch := match decide (0 < n) with
  | true => addS (partS 0 a was 0 []) (match decide (0 < a) with
    | true => atS was (w64 (a - 1))
    | false => ⟨10, 0⟩) n
  | false => partS 0 a was 0 []
def iMove (was : List Stretch) (c a n : Int) : List Stretch := partS (w64 (a - min n 0)) c was 0 (iMoveG was a n)
def iSpansMove (l : List Span) (c a n : Int) : List Span := match iMoveOk l c a n with
  | true => iSp 0 (iMove (looksOf l c) c a n)
  | false => []
theorem iMoveOk_eq (l : List Span) (c a n : Int) : iMoveOk l c a n = sMoveOk l c a n := by
  unfold iMoveOk sMoveOk
  rw [SpansOk_eq]
  cases h : sSpansOk l c with
  | false => rfl
  | true =>
    have hc := ok_c h
    by_cases ha : 0 ≤ a ∧ a ≤ c
    · rw [w64_in (n := c - a) (by omega), w64_in (n := 0 - (c - a)) (by omega), w64_in (n := 80 - c) (by omega), w64_in (n := a - c) (by omega)]
      rw [Bool.true_and, Bool.true_and, Bool.eq_iff_iff]
      simp only [inR, Bool.and_eq_true, decide_eq_true_eq]
      omega
    · rw [Bool.true_and, Bool.true_and, Bool.eq_iff_iff]
      simp only [inR, Bool.and_eq_true, decide_eq_true_eq]
      omega
theorem iMoveG_ok {l : List Span} {c a n : Int} (h : sMoveOk l c a n = true) : WFs (iMoveG (looksOf l c) a n) ∧ ex (iMoveG (looksOf l c) a n) = (sLooks l c.toNat).take a.toNat ++ List.replicate n.toNat (sMoveLook (sLooks l c.toNat) a.toNat) := by
  have hn := ok_n h
  have hs : sSpansOk l c = true := by simp only [sMoveOk, Bool.and_eq_true] at h; exact h.1
  obtain ⟨h1, h2⟩ := looksOf_ok hs
  have hlen : (ex (looksOf l c)).length = c.toNat := by rw [h2, sLooks_len]
  obtain ⟨p1, p2⟩ := partS_ok (fr := 0) (to := a) (looksOf l c) 0 [] h1.pos (by omega) (by omega) (by simp [ex] at *; omega) (by omega) (by omega) (by omega) (by omega) trivial
  have p3 : ex (partS 0 a (looksOf l c) 0 []) = (sLooks l c.toNat).take a.toNat := by
    rw [p2, h2]
    simp [ex]
  have hl3 : ((ex (partS 0 a (looksOf l c) 0 [])).length : Int) = a := by rw [p3, List.length_take, sLooks_len]; omega
  unfold iMoveG
  by_cases hp : 0 < n
  · rw [decide_eq_true hp]
    simp only
    have hx : (match decide (0 < a) with | true => atS (looksOf l c) (w64 (a - 1)) | false => ⟨10, 0⟩) = sMoveLook (sLooks l c.toNat) a.toNat := by
      by_cases ha : 0 < a
      · have : 0 < a.toNat := by omega
        simp only [sMoveLook, decide_eq_true ha, decide_eq_true this]
        rw [w64_in (by omega), show a - 1 = ((a.toNat - 1 : Nat) : Int) by omega, atS_eq _ _ h1.pos (by omega) (by omega), h2]
        have hl : a.toNat - 1 < (sLooks l c.toNat).length := by rw [sLooks_len]; omega
        simp [List.getD_eq_getElem?_getD, List.getElem?_eq_getElem hl]
      · have : ¬ 0 < a.toNat := by omega
        simp only [sMoveLook, decide_eq_false ha, decide_eq_false this]
    rw [hx]
    obtain ⟨q1, q2⟩ := addS_ok (x := sMoveLook (sLooks l c.toNat) a.toNat) (n := n) p1 (by omega) (by omega)
    exact ⟨q1, by rw [q2, p3]⟩
  · rw [decide_eq_false hp]
    refine ⟨p1, ?_⟩
    rw [p3, show n.toNat = 0 by omega]
    simp
theorem iSpansMove_eq (l : List Span) (c a n : Int) : iSpansMove l c a n = sSpansMove l c a n := by
  unfold iSpansMove sSpansMove
  rw [iMoveOk_eq]
  cases h : sMoveOk l c a n with
  | false => rfl
  | true =>
    have hn := ok_n h
    have hs : sSpansOk l c = true := by simp only [sMoveOk, Bool.and_eq_true] at h; exact h.1
    obtain ⟨h1, h2⟩ := looksOf_ok hs
    have hlen : (ex (looksOf l c)).length = c.toNat := by rw [h2, sLooks_len]
    obtain ⟨g1, g2⟩ := iMoveG_ok h
    have hlg : ((ex (iMoveG (looksOf l c) a n)).length : Int) = a + n.toNat := by rw [g2]; simp [sLooks_len]; omega
    have e1 : w64 (a - min n 0) = a - min n 0 := w64_in (by omega)
    obtain ⟨p1, p2⟩ := partS_ok (fr := a - min n 0) (to := c) (looksOf l c) 0 (iMoveG (looksOf l c) a n) h1.pos (by omega) (by omega) (by omega) (by omega) (by omega) (by omega) (by omega) g1
    have p3 : ex (iMove (looksOf l c) c a n) = sMove (sLooks l c.toNat) a.toNat n := by
      unfold iMove
      rw [e1, p2, g2, h2, Int.sub_zero, Int.sub_zero]
      rw [List.take_of_length_le (i := c.toNat) (by rw [sLooks_len]; exact Nat.le_refl _)]
      unfold sMove
      by_cases hp : n < 0
      · rw [decide_eq_true hp, show n.toNat = 0 by omega, show a - min n 0 = a - n by omega, show ((a.toNat : Int) - n).toNat = (a - n).toNat by omega]
        simp
      · rw [decide_eq_false hp, show (a - min n 0).toNat = a.toNat by omega]
    have hl3 : (ex (iMove (looksOf l c) c a n)).length ≤ 100000 := by
      have := sMove_len (l := sLooks l c.toNat) (a := a.toNat) (n := n) (by rw [sLooks_len]; omega) (by rw [sLooks_len]; omega)
      rw [sLooks_len] at this
      rw [p3]; omega
    have hw : WFs (iMove (looksOf l c) c a n) := by unfold iMove; rw [e1]; exact p1
    simp only
    rw [iSp_spans hw hl3, p3]
end Go.SL
