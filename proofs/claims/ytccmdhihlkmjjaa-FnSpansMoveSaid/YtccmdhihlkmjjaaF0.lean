/- The plain law of FnSpansMove: spans of looks say just these looks, they are no more than the spans that the looks came of, and a move back gives what was. -/
import Derived.Test.YtccmdhihlkmjjaaC1
import Derived.Test.YtccmdhihlkmjjaaF1
namespace Go.SL
open Go.RowKit Go.Proofs
def npl (x : Look) : Bool := !(decide (x.size = 10) && decide (x.mark = 0))
def b01 (b : Bool) : Nat := match b with
  | true => 1
  | false => 0
/-- How many runs that are not plain begin, p being ahead. -/
def starts (p : Look) : List Look → Nat
  | [] => 0
  | x :: l => b01 (npl x && !eqLk p x) + starts x l
def cnp : List (Look × Nat) → Nat
  | [] => 0
  | p :: g => b01 (npl p.1) + cnp g
theorem eqLk_no {x y : Look} (h : ¬ x = y) : eqLk x y = false := by
  cases hh : eqLk x y with
  | false => rfl
  | true => exact absurd (eqLk_eq hh) h
theorem npl_plain {x : Look} (h : npl x = true) : eqLk ⟨10, 0⟩ x = false := by
  refine eqLk_no fun e => ?_
  subst e
  cases h
theorem groups_cnp : ∀ l : List Look, cnp (groups l) = starts ⟨10, 0⟩ l
  | [] => rfl
  | [x] => by
    simp only [groups, push, cnp, starts]
    cases h : npl x with
    | false => rfl
    | true => rw [npl_plain h]; rfl
  | x :: y :: l => by
    have ih := groups_cnp (y :: l)
    obtain ⟨n, r, hg⟩ := push_head y (groups l)
    rw [show groups (x :: y :: l) = push x (push y (groups l)) from rfl, hg]
    rw [show groups (y :: l) = push y (groups l) from rfl, hg] at ih
    simp only [starts] at ih ⊢
    have hx : b01 (npl x && !eqLk ⟨10, 0⟩ x) = b01 (npl x) := by
      cases h : npl x with
      | false => rfl
      | true => rw [npl_plain h]; rfl
    have hy : b01 (npl y && !eqLk ⟨10, 0⟩ y) = b01 (npl y) := by
      cases h : npl y with
      | false => rfl
      | true => rw [npl_plain h]; rfl
    rw [hx]
    rw [hy] at ih
    simp only [push]
    cases h : eqLk y x with
    | true =>
      have := eqLk_eq h
      subst this
      simp only [cnp] at ih ⊢
      rw [eqLk_refl]
      simp only [Bool.not_true, Bool.and_false, b01] at ih ⊢
      omega
    | false =>
      simp only [cnp] at ih ⊢
      rw [eqLk_comm x y, h]
      simp only [Bool.not_false, Bool.and_true] at ih ⊢
      omega
theorem npl_spans (x : Look) : (decide (x.size = 10) && decide (x.mark = 0)) = !npl x := by simp [npl]
theorem spansOf_cnp : ∀ (g : List (Look × Nat)) (i : Nat), (spansOf i g).length = cnp g
  | [], _ => rfl
  | (x, n) :: r, i => by
    simp only [spansOf, cnp, List.length_append, spansOf_cnp r, npl_spans]
    cases npl x <;> rfl
theorem sSpans_starts (l : List Look) : (sSpans l).length = starts ⟨10, 0⟩ l := by rw [sSpans, spansOf_cnp, groups_cnp]
def unr (g : List (Look × Nat)) : List Look := g.flatMap fun p => List.replicate p.2 p.1
theorem unr_cons (p : Look × Nat) (g : List (Look × Nat)) : unr (p :: g) = List.replicate p.2 p.1 ++ unr g := by simp [unr]
theorem unr_push (x : Look) (g : List (Look × Nat)) : unr (push x g) = x :: unr g := by
  rcases g with _ | ⟨⟨y, n⟩, r⟩
  · rfl
  · simp only [push]
    cases h : eqLk y x with
    | true =>
      have := eqLk_eq h
      subst this
      simp [unr_cons, List.replicate_succ]
    | false => simp [unr_cons]
theorem unr_groups : ∀ l : List Look, unr (groups l) = l
  | [] => rfl
  | x :: l => by rw [groups, unr_push, unr_groups l]
theorem push_pos (x : Look) {g : List (Look × Nat)} (h : ∀ p ∈ g, 0 < p.2) : ∀ p ∈ push x g, 0 < p.2 := by
  rcases g with _ | ⟨⟨y, n⟩, r⟩
  · simp [push]
  · simp only [push]
    intro p hp
    split at hp
    · rcases List.mem_cons.1 hp with rfl | hp
      · simp
      · exact h p (List.mem_cons_of_mem _ hp)
    · rcases List.mem_cons.1 hp with rfl | hp
      · simp
      · exact h p hp
theorem groups_pos : ∀ l : List Look, ∀ p ∈ groups l, 0 < p.2
  | [] => by simp [groups]
  | x :: l => push_pos x (groups_pos l)
theorem groups_mem {l : List Look} {p : Look × Nat} (h : p ∈ groups l) : p.1 ∈ l := by
  have h0 := groups_pos l p h
  have : p.1 ∈ unr (groups l) := by
    simp only [unr, List.mem_flatMap]
    exact ⟨p, h, by simp; omega⟩
  rwa [unr_groups] at this
theorem spansOf_ok : ∀ (g : List (Look × Nat)) (i : Nat), (∀ p ∈ g, 0 < p.2) → chain i (spansOf i g) ∧ (∀ s ∈ spansOf i g, s.to ≤ ((i + (unr g).length : Nat) : Int) ∧ ∃ p ∈ g, p.1 = lookS s ∧ npl p.1 = true)
  | [], _, _ => ⟨trivial, fun _ h => by cases h⟩
  | (x, n) :: r, i, h => by
    have hn := h (x, n) List.mem_cons_self
    obtain ⟨p1, p2⟩ := spansOf_ok r (i + n) fun p hp => h p (List.mem_cons_of_mem _ hp)
    simp only [spansOf, npl_spans, unr_cons, List.length_append, List.length_replicate]
    have p2' : ∀ s ∈ spansOf (i + n) r, s.to ≤ ((i + (n + (unr r).length) : Nat) : Int) ∧ ∃ p ∈ (x, n) :: r, p.1 = lookS s ∧ npl p.1 = true := fun s hs => by
      obtain ⟨a, p, b, c⟩ := p2 s hs
      exact ⟨by omega, p, List.mem_cons_of_mem _ b, c⟩
    cases hx : npl x with
    | false => exact ⟨chain_low (by simpa using p1) (by omega), by simpa using p2'⟩
    | true =>
      refine ⟨⟨Int.le_refl _, by show (i : Int) < ((i + n : Nat) : Int); omega, p1⟩, fun s hs => ?_⟩
      rcases List.mem_cons.1 hs with rfl | hs
      · exact ⟨by show ((i + n : Nat) : Int) ≤ _; omega, (x, n), List.mem_cons_self, rfl, hx⟩
      · exact p2' s hs
theorem lookOf_spansOf : ∀ (g : List (Look × Nat)) (i j : Nat), (∀ p ∈ g, 0 < p.2) → i + (unr g).length ≤ 100000 → i ≤ j → lookOf (spansOf i g) j = (unr g).getD (j - i) ⟨10, 0⟩
  | [], _, _, _, _, _ => by simp [spansOf, unr, lookOf, sAtL]
  | (x, n) :: r, i, j, h, hb, hj => by
    have hn := h (x, n) List.mem_cons_self
    have hr := fun p hp => h p (List.mem_cons_of_mem (x, n) hp)
    simp only [unr_cons, List.length_append, List.length_replicate] at hb
    obtain ⟨p1, p2⟩ := spansOf_ok r (i + n) hr
    have ih := lookOf_spansOf r (i + n) j hr (by omega)
    have hto : ∀ s ∈ spansOf (i + n) r, s.to ≤ 1000000 := fun s hs => by have := (p2 s hs).1; omega
    have hin : ∀ k, k < n → (unr ((x, n) :: r)).getD k ⟨10, 0⟩ = x := fun k hk => by
      rw [unr_cons, List.getD_eq_getElem?_getD, List.getElem?_append_left (by simpa using hk)]
      simp [hk]
    have hout : ∀ k, n ≤ k → (unr ((x, n) :: r)).getD k ⟨10, 0⟩ = (unr r).getD (k - n) ⟨10, 0⟩ := fun k hk => by
      rw [unr_cons, List.getD_eq_getElem?_getD, List.getElem?_append_right (by simpa using hk), List.getD_eq_getElem?_getD]
      simp
    simp only [spansOf, npl_spans]
    cases hx : npl x with
    | false =>
      simp only [Bool.not_false, List.nil_append]
      have hxe : x = ⟨10, 0⟩ := by
        cases x
        simp [npl] at hx
        simp [hx]
      by_cases hjn : j < i + n
      · rw [hin (j - i) (by omega), hxe, lookOf_low (b := ((i + n : Nat) : Int)) p1 hto (by omega) (by omega)]
      · rw [ih (by omega), hout (j - i) (by omega)]
        congr 1
        omega
    | true =>
      simp only [Bool.not_true, List.singleton_append]
      by_cases hjn : j < i + n
      · rw [hin (j - i) (by omega), lookOf_in (by show ((i + n : Nat) : Int) ≤ _; omega) (by show (0 : Int) ≤ (i : Int); omega) (by show (i : Int) ≤ _; omega) (by show (j : Int) < ((i + n : Nat) : Int); omega)]
        rfl
      · rw [lookOf_out (by show ((i + n : Nat) : Int) ≤ _; omega) (by show (0 : Int) ≤ (i : Int); omega) (by show (i : Int) < ((i + n : Nat) : Int); omega) (by show ((i + n : Nat) : Int) ≤ (j : Int); omega), ih (by omega), hout (j - i) (by omega)]
        congr 1
        omega
theorem sLooks_sSpans {M : List Look} (h : M.length ≤ 100000) : sLooks (sSpans M) M.length = M := by
  refine List.ext_getElem (by simp [sLooks]) fun j h1 h2 => ?_
  simp only [sLooks, List.getElem_map, List.getElem_range, sSpans]
  rw [lookOf_spansOf _ 0 j (groups_pos M) (by rw [unr_groups]; omega) (Nat.zero_le _), unr_groups, Nat.sub_zero, List.getD_eq_getElem?_getD, List.getElem?_eq_getElem h2]
  rfl
/-! ### how many -/
theorem starts_cons (p x : Look) (l : List Look) : starts p l ≤ starts p (x :: l) := by
  simp only [starts]
  cases l with
  | nil => simp [starts]
  | cons y l =>
    simp only [starts]
    cases hy : npl y with
    | false => simp [b01]
    | true =>
      by_cases h1 : p = y
      · subst h1
        rw [eqLk_refl]
        simp only [Bool.not_true, Bool.and_false, b01]
        omega
      · by_cases h2 : x = y
        · subst h2
          rw [eqLk_refl, eqLk_no h1, hy]
          simp [b01]
        · rw [eqLk_no h1, eqLk_no h2]
          simp [b01]
theorem starts_drop (p : Look) : ∀ (k : Nat) (l : List Look), starts p (l.drop k) ≤ starts p l
  | 0, _ => by simp
  | _ + 1, [] => by simp
  | k + 1, x :: l => by
    rw [List.drop_succ_cons]
    exact Nat.le_trans (starts_drop p k l) (starts_cons p x l)
def lastD (p : Look) : List Look → Look
  | [] => p
  | x :: l => lastD x l
theorem starts_append : ∀ (l1 l2 : List Look) (p : Look), starts p (l1 ++ l2) = starts p l1 + starts (lastD p l1) l2
  | [], _, _ => by simp [starts, lastD]
  | x :: l1, l2, p => by
    simp only [List.cons_append, starts, lastD, starts_append l1 l2 x]
    omega
theorem starts_rep (p : Look) (l : List Look) : ∀ n, starts p (List.replicate n p ++ l) = starts p l
  | 0 => rfl
  | n + 1 => by
    simp only [List.replicate_succ, List.cons_append, starts, eqLk_refl, starts_rep p l n]
    simp [b01]
theorem lastD_take : ∀ (l : List Look) (a : Nat) (p d : Look), a < l.length → lastD p (l.take (a + 1)) = l.getD a d
  | [], _, _, _, h => by simp at h
  | x :: l, 0, _, _, _ => by simp [lastD]
  | x :: l, a + 1, p, d, h => by
    rw [List.take_succ_cons, lastD, lastD_take l a x d (by simpa using h), List.getD_cons_succ]
theorem moveLook_eq {l : List Look} {a : Nat} (h : a ≤ l.length) : sMoveLook l a = lastD ⟨10, 0⟩ (l.take a) := by
  unfold sMoveLook
  cases a with
  | zero => simp [lastD]
  | succ a =>
    rw [decide_eq_true (by omega)]
    simp only
    rw [lastD_take l a _ eLook.d (by omega)]
    rfl
theorem starts_move {l : List Look} {a : Nat} {n : Int} (ha : a ≤ l.length) : starts ⟨10, 0⟩ (sMove l a n) ≤ starts ⟨10, 0⟩ l := by
  have e : starts ⟨10, 0⟩ l = starts ⟨10, 0⟩ (l.take a) + starts (lastD ⟨10, 0⟩ (l.take a)) (l.drop a) := by
    rw [← starts_append, List.take_append_drop]
  unfold sMove
  by_cases h : n < 0
  · rw [decide_eq_true h]
    simp only
    rw [starts_append, e, show ((a : Int) - n).toNat = a + (-n).toNat by omega, ← List.drop_drop]
    have := starts_drop (lastD ⟨10, 0⟩ (l.take a)) (-n).toNat (l.drop a)
    omega
  · rw [decide_eq_false h]
    simp only
    rw [List.append_assoc, starts_append, moveLook_eq ha, starts_rep, e]
    exact Nat.le_refl _
theorem starts_any (p q x : Look) (l : List Look) : starts p (x :: l) ≤ 1 + starts x l := by
  simp only [starts]
  cases (npl x && !eqLk p x) <;> simp [b01]
theorem starts_rep2 (x : Look) (l : List Look) : ∀ (n : Nat) (p : Look), starts p (List.replicate n x ++ l) ≤ b01 (npl x) + max (starts p l) (starts x l)
  | 0, p => by simp; omega
  | n + 1, p => by
    rw [List.replicate_succ, List.cons_append]
    simp only [starts]
    rw [starts_rep]
    cases npl x with
    | false => simp [b01]; omega
    | true =>
      cases eqLk p x <;> simp [b01] <;> omega
def cs : List Look → Nat
  | [] => 0
  | x :: l => b01 (npl x) + cs l
theorem starts_ex : ∀ (g : List Stretch) (p : Look), starts p (ex g) ≤ cs (g.map (·.look))
  | [], _ => by simp [ex, starts, cs]
  | s :: g, p => by
    have h1 := starts_rep2 s.look (ex g) s.many.toNat p
    have h2 := starts_ex g p
    have h3 := starts_ex g s.look
    have : ex (s :: g) = List.replicate s.many.toNat s.look ++ ex g := by simp [ex]
    rw [this]
    simp only [List.map_cons, cs]
    omega
theorem cs_append : ∀ (l m : List Look), cs (l ++ m) = cs l + cs m
  | [], _ => by simp [cs]
  | x :: l, m => by simp only [List.cons_append, cs, cs_append l m]; omega
theorem set_same : ∀ (g : List Stretch) (i : Nat) (m : Int), (g.set i ⟨(g.getD i eStretch.d).look, m⟩).map (·.look) = g.map (·.look)
  | [], _, _ => rfl
  | s :: g, 0, m => by simp
  | s :: g, i + 1, m => by
    rw [List.set_cons_succ, List.getD_cons_succ, List.map_cons, List.map_cons, set_same g i m]
theorem addS_cs (g : List Stretch) (x : Look) (n : Int) : cs ((addS g x n).map (·.look)) ≤ cs (g.map (·.look)) + b01 (npl x) := by
  unfold addS
  split
  · omega
  · split
    · rw [set_same]; omega
    · rw [List.map_append, cs_append]
      simp [cs]
theorem b01_le (b : Bool) : b01 b ≤ 1 := by cases b <;> simp [b01]
theorem lof_cs : ∀ (l : List Span) (a : Int) (g : List Stretch), cs ((lof l a g).2.map (·.look)) ≤ cs (g.map (·.look)) + l.length
  | [], _, _ => by simp [lof]
  | s :: l, a, g => by
    have h1 := lof_cs l s.to (addS (addS g ⟨10, 0⟩ (w64 (s.fr - a))) (lookS s) (w64 (s.to - s.fr)))
    have h2 := addS_cs (addS g ⟨10, 0⟩ (w64 (s.fr - a))) (lookS s) (w64 (s.to - s.fr))
    have h3 := addS_cs g ⟨10, 0⟩ (w64 (s.fr - a))
    have h4 := b01_le (npl (lookS s))
    have h5 : b01 (npl ⟨10, 0⟩) = 0 := rfl
    simp only [lof, List.length_cons]
    omega
theorem starts_sLooks {l : List Span} {c : Int} (h : sSpansOk l c = true) : starts ⟨10, 0⟩ (sLooks l c.toNat) ≤ l.length := by
  obtain ⟨_, h2⟩ := looksOf_ok h
  rw [← h2]
  refine Nat.le_trans (starts_ex _ _) ?_
  unfold looksOf
  have h1 := addS_cs (lof l 0 []).2 ⟨10, 0⟩ (w64 (c - (lof l 0 []).1))
  have h2 := lof_cs l 0 []
  have h5 : b01 (npl ⟨10, 0⟩) = 0 := rfl
  simp only [List.map_nil, cs] at h2
  omega
/-! ### they are ok -/
def vLk (x : Look) : Prop := (1 ≤ x.size ∧ x.size ≤ 40) ∧ (0 ≤ x.mark ∧ x.mark ≤ 9)
theorem vLk_plain : vLk ⟨10, 0⟩ := by unfold vLk; decide
theorem vLk_spans {l : List Span} {c : Int} (h : sSpansOk l c = true) : ∀ s ∈ l, vLk (lookS s) := by
  have hn := ok_c h
  intro s hs
  obtain ⟨i, hi, rfl⟩ := List.getElem_of_mem hs
  simp only [sSpansOk, Bool.and_eq_true] at h
  have := allI_all h.1 i (Nat.zero_le _) (by omega)
  have e : l.getD i eSpan.d = l[i] := by rw [List.getD_eq_getElem?_getD, List.getElem?_eq_getElem hi]; rfl
  simp only [sAt, e, sl6Ok_in (s := l[i]) (n := c) (by omega), iOk, Bool.and_eq_true, Bool.or_eq_true, decide_eq_true_eq] at this
  show (1 ≤ (l[i]).size ∧ (l[i]).size ≤ 40) ∧ (0 ≤ (l[i]).mark ∧ (l[i]).mark ≤ 9)
  omega
theorem vLk_lookOf : ∀ (l : List Span) (i : Nat), (∀ s ∈ l, vLk (lookS s)) → vLk (lookOf l i)
  | [], _, _ => vLk_plain
  | s :: l, i, h => by
    unfold lookOf
    simp only [sAtL]
    split
    · exact h s List.mem_cons_self
    · exact vLk_lookOf l i fun u hu => h u (List.mem_cons_of_mem _ hu)
theorem vLk_move {l : List Look} {a : Nat} {n : Int} (hal : a ≤ l.length) (h : ∀ x ∈ l, vLk x) : ∀ x ∈ sMove l a n, vLk x := by
  intro x hx
  unfold sMove at hx
  split at hx
  · rcases List.mem_append.1 hx with hx | hx
    · exact h x (List.mem_of_mem_take hx)
    · exact h x (List.mem_of_mem_drop hx)
  · rcases List.mem_append.1 hx with hx | hx
    · rcases List.mem_append.1 hx with hx | hx
      · exact h x (List.mem_of_mem_take hx)
      · have := List.eq_of_mem_replicate hx
        subst this
        unfold sMoveLook
        split
        · rename_i ha
          rw [decide_eq_true_eq] at ha
          rw [List.getD_eq_getElem?_getD]
          cases hq : l[a - 1]? with
          | none => have := List.getElem?_eq_none_iff.1 hq; omega
          | some y => exact h y (List.mem_of_getElem? hq)
        · exact vLk_plain
    · exact h x (List.mem_of_mem_drop hx)
theorem ok_of {l : List Span} {n : Int} (hn : 0 ≤ n ∧ n ≤ 80) (hl : l.length ≤ 12) (hc : ∀ s ∈ l, s.to ≤ n ∧ vLk (lookS s)) (h : chain 0 l) : sSpansOk l n = true := by
  have key : ∀ (l : List Span) (b : Int), 0 ≤ b → chain b l → (∀ s ∈ l, s.to ≤ n ∧ vLk (lookS s)) → ∀ j, j < l.length → sAt l n j = true ∧ b ≤ (l.getD j eSpan.d).fr := by
    intro l
    induction l with
    | nil => intro b _ _ _ j hj; simp at hj
    | cons s l ih =>
      intro b hb hch hc j hj
      obtain ⟨c1, c2, c3⟩ := hch
      have hs := hc s List.mem_cons_self
      have hv : (1 ≤ s.size ∧ s.size ≤ 40) ∧ (0 ≤ s.mark ∧ s.mark ≤ 9) := hs.2
      cases j with
      | zero =>
        simp only [sAt, List.getD_cons_zero, sl6Ok_in (s := s) (n := n) (by omega), iOk, Bool.and_eq_true, Bool.or_eq_true, decide_eq_true_eq]
        exact ⟨⟨by omega, .inl trivial⟩, c1⟩
      | succ j =>
        have hj' : j < l.length := by simpa using hj
        obtain ⟨q1, q2⟩ := ih s.to (by omega) c3 (fun u hu => hc u (List.mem_cons_of_mem _ hu)) j hj'
        simp only [sAt, List.getD_cons_succ, Bool.and_eq_true, Bool.or_eq_true, decide_eq_true_eq] at q1 ⊢
        refine ⟨⟨q1.1, .inr ?_⟩, by omega⟩
        cases j with
        | zero => simp at q2 ⊢; exact q2
        | succ j =>
          have := q1.2.resolve_left (by omega)
          simpa using this
  simp only [sSpansOk, Bool.and_eq_true, inR_eq, decide_eq_true_eq]
  exact ⟨all_allI fun j _ hj => (key l 0 (Int.le_refl _) h hc j (by omega)).1, hl, hn⟩
theorem ok_up {l : List Span} {n m : Int} (h : sSpansOk l n = true) (h1 : n ≤ m) (h2 : m ≤ 80) : sSpansOk l m = true := by
  obtain ⟨c1, c2⟩ := chain_ok h
  have hl : l.length ≤ 12 := by
    simp only [sSpansOk, Bool.and_eq_true, decide_eq_true_eq] at h
    exact h.2.1
  have := ok_c h
  exact ok_of (by omega) hl (fun s hs => ⟨Int.le_trans (c2 s hs) h1, vLk_spans h s hs⟩) c1
theorem iLookAt_eq : ∀ (l : List Span) (i : Nat), (∀ s ∈ l, 0 ≤ s.to) → (∀ s ∈ l, s.to ≤ 1000000) → iLookAt i l = lookOf l i
  | [], _, _, _ => rfl
  | s :: l, i, h0, h1 => by
    have ih := iLookAt_eq l i (fun u hu => h0 u (List.mem_cons_of_mem _ hu)) (fun u hu => h1 u (List.mem_cons_of_mem _ hu))
    have a0 := h0 s List.mem_cons_self
    have a1 := h1 s List.mem_cons_self
    have e : inR (i : Int) s.fr (w64 (s.to - 1)) = (decide (s.fr ≤ i) && decide ((i : Int) < s.to)) := by
      rw [w64_in (by omega), Bool.eq_iff_iff]
      simp only [inR, Bool.and_eq_true, decide_eq_true_eq]
      omega
    unfold lookOf at ih ⊢
    simp only [iLookAt, sAtL, e]
    cases (decide (s.fr ≤ (i : Int)) && decide ((i : Int) < s.to)) with
    | true => rfl
    | false => exact ih
theorem chain_pos : ∀ {l : List Span} {b : Int}, 0 ≤ b → chain b l → ∀ s ∈ l, 0 ≤ s.to
  | [], _, _, _, _, h => by cases h
  | s :: l, b, hb, h, u, hu => by
    obtain ⟨h1, h2, h3⟩ := h
    rcases List.mem_cons.1 hu with rfl | hu
    · omega
    · exact chain_pos (b := s.to) (by omega) h3 u hu
/-- What SpanAt says of spans that are ok. -/
theorem iSpanAt_eq {l : List Span} {n : Int} (h : sSpansOk l n = true) (i : Nat) : iSpanAt l i = lookOf l i := by
  have hn := ok_c h
  have h80 := ok_up h (m := 80) hn.2 (by omega)
  obtain ⟨c1, c2⟩ := chain_ok h
  unfold iSpanAt
  rw [SpansOk_eq, h80]
  exact iLookAt_eq l i (chain_pos (Int.le_refl _) c1) fun s hs => by have := c2 s hs; omega
theorem getD_sLooks {l : List Span} {n j : Nat} (h : j < n) (d : Look) : (sLooks l n).getD j d = lookOf l j := by
  rw [List.getD_eq_getElem?_getD]
  simp [sLooks, h]
def mvd (l : List Span) (n a k : Int) : List Look := sMove (sLooks l n.toNat) a.toNat k
section
variable {l : List Span} {n a k : Int}
theorem mvd_len (h : sMoveOk l n a k = true) : ((mvd l n a k).length : Int) = n + k := by
  have hn := ok_n h
  have := sMove_len (l := sLooks l n.toNat) (a := a.toNat) (n := k) (by rw [sLooks_len]; omega) (by rw [sLooks_len]; omega)
  rw [sLooks_len] at this
  unfold mvd
  omega
theorem sSpansMove_is (h : sMoveOk l n a k = true) : sSpansMove l n a k = sSpans (mvd l n a k) := by
  unfold sSpansMove
  rw [h]
  rfl
theorem moved_ok (h : sMoveOk l n a k = true) : sSpansOk (sSpansMove l n a k) (n + k) = true := by
  have hn := ok_n h
  have hs : sSpansOk l n = true := by simp only [sMoveOk, Bool.and_eq_true] at h; exact h.1
  have hl12 : l.length ≤ 12 := by
    simp only [sSpansOk, Bool.and_eq_true, decide_eq_true_eq] at hs
    exact hs.2.1
  have hlen := mvd_len h
  rw [sSpansMove_is h]
  have hM : (sSpans (mvd l n a k)).length ≤ 12 := by
    rw [sSpans_starts]
    have h1 := starts_move (l := sLooks l n.toNat) (a := a.toNat) (n := k) (by rw [sLooks_len]; omega)
    have h2 := starts_sLooks hs
    unfold mvd
    omega
  obtain ⟨p1, p2⟩ := spansOf_ok (groups (mvd l n a k)) 0 (groups_pos _)
  rw [unr_groups] at p2
  refine ok_of (by omega) hM (fun s hs' => ?_) p1
  obtain ⟨q1, p, q2, q3, q4⟩ := p2 s hs'
  refine ⟨by omega, ?_⟩
  rw [← q3]
  have hv : ∀ x ∈ sLooks l n.toNat, vLk x := fun x hx => by
    simp only [sLooks, List.mem_map] at hx
    obtain ⟨i, _, rfl⟩ := hx
    exact vLk_lookOf l i (vLk_spans hs)
  exact vLk_move (by rw [sLooks_len]; omega) hv _ (groups_mem q2)
theorem moved_looks (h : sMoveOk l n a k = true) : sLooks (sSpansMove l n a k) (n + k).toNat = mvd l n a k := by
  have hn := ok_n h
  have hlen := mvd_len h
  rw [sSpansMove_is h, show (n + k).toNat = (mvd l n a k).length by omega]
  exact sLooks_sSpans (by omega)
/-- What SpanAt says behind a move. -/
theorem at_moved (h : sMoveOk l n a k = true) {i : Nat} (hi : (i : Int) < n + k) : iSpanAt (sSpansMove l n a k) i = (mvd l n a k).getD i ⟨10, 0⟩ := by
  rw [iSpanAt_eq (moved_ok h), ← moved_looks h, getD_sLooks (by omega)]
/-- Where a letter was. -/
theorem mvd_at (h : sMoveOk l n a k = true) {i : Nat} (hi : (i : Int) < n + k) : (mvd l n a k).getD i ⟨10, 0⟩ =
    if k < 0 then (if a ≤ i then lookOf l (i - k).toNat else lookOf l i) else if (i : Int) < a then lookOf l i else if (i : Int) < a + k then (if a = 0 then ⟨10, 0⟩ else lookOf l (a - 1).toNat) else lookOf l (i - k).toNat := by
  have hn := ok_n h
  have hL : (sLooks l n.toNat).length = n.toNat := sLooks_len _ _
  have hg : ∀ j : Nat, (j : Int) < n → (sLooks l n.toNat)[j]? = some (lookOf l j) := fun j hj => by
    have : j < n.toNat := by omega
    simp [sLooks, this]
  unfold mvd sMove
  rw [List.getD_eq_getElem?_getD]
  by_cases hk : k < 0
  · rw [decide_eq_true hk, if_pos hk]
    simp only
    split
    · rename_i hai
      rw [List.getElem?_append_right (by rw [List.length_take, hL]; omega), List.getElem?_drop, List.length_take, hL, show (↑a.toNat - k).toNat + (i - min a.toNat n.toNat) = (↑i - k).toNat by omega, hg _ (by omega)]
      rfl
    · rw [List.getElem?_append_left (by rw [List.length_take, hL]; omega), List.getElem?_take_of_lt (by omega), hg _ (by omega)]
      rfl
  · rw [decide_eq_false hk, if_neg hk]
    simp only
    rw [List.append_assoc]
    split
    · rw [List.getElem?_append_left (by rw [List.length_take, hL]; omega), List.getElem?_take_of_lt (by omega), hg _ (by omega)]
      rfl
    · rename_i hai
      rw [List.getElem?_append_right (by rw [List.length_take, hL]; omega), List.length_take, hL]
      split
      · rw [List.getElem?_append_left (by rw [List.length_replicate]; omega), List.getElem?_replicate, if_pos (by omega)]
        show sMoveLook _ _ = _
        unfold sMoveLook
        split
        · rename_i h1
          rw [decide_eq_true_eq] at h1
          rw [if_neg (by omega), List.getD_eq_getElem?_getD, hg _ (by omega), show a.toNat - 1 = (a - 1).toNat by omega]
          rfl
        · rename_i h1
          rw [decide_eq_false_iff_not] at h1
          rw [if_pos (by omega)]
      · rw [List.getElem?_append_right (by rw [List.length_replicate]; omega), List.length_replicate, List.getElem?_drop, show a.toNat + (i - min a.toNat n.toNat - k.toNat) = (↑i - k).toNat by omega, hg _ (by omega)]
        rfl
theorem moved_back (h : sMoveOk l n a k = true) (hk : 0 ≤ k) : sSpansMove (sSpansMove l n a k) (n + k) a (-k) = iPlain l n := by
  have hn := ok_n h
  have hs : sSpansOk l n = true := by simp only [sMoveOk, Bool.and_eq_true] at h; exact h.1
  have hb : sMoveOk (sSpansMove l n a k) (n + k) a (-k) = true := by
    simp only [sMoveOk, Bool.and_eq_true, inR_eq]
    rw [w64_in (n := n + k - a) (by omega), w64_in (by omega), w64_in (by omega)]
    exact ⟨moved_ok h, by omega, by omega⟩
  rw [sSpansMove_is hb]
  have hL : (sLooks l n.toNat).length = n.toNat := sLooks_len _ _
  have e : mvd (sSpansMove l n a k) (n + k) a (-k) = sLooks l n.toNat := by
    rw [show mvd (sSpansMove l n a k) (n + k) a (-k) = sMove (sLooks (sSpansMove l n a k) (n + k).toNat) a.toNat (-k) from rfl, moved_looks h]
    have hM : mvd l n a k = (sLooks l n.toNat).take a.toNat ++ (List.replicate k.toNat (sMoveLook (sLooks l n.toNat) a.toNat) ++ (sLooks l n.toNat).drop a.toNat) := by
      unfold mvd sMove
      rw [decide_eq_false (by omega), ← List.append_assoc]
    have ht : (mvd l n a k).take a.toNat = (sLooks l n.toNat).take a.toNat := by
      rw [hM, List.take_left' (by rw [List.length_take, hL]; omega)]
    have hd : (mvd l n a k).drop (a.toNat + k.toNat) = (sLooks l n.toNat).drop a.toNat := by
      rw [hM, ← List.drop_drop, List.drop_left' (by rw [List.length_take, hL]; omega), List.drop_left' (by simp)]
    by_cases hk0 : k = 0
    · subst hk0
      have : sMove (mvd l n a 0) a.toNat (-0) = mvd l n a 0 := by
        unfold sMove
        rw [decide_eq_false (by omega)]
        simp
      rw [this, hM]
      simp
    · rw [show sMove (mvd l n a k) a.toNat (-k) = (mvd l n a k).take a.toNat ++ (mvd l n a k).drop (a.toNat + k.toNat) by
        unfold sMove
        rw [decide_eq_true (by omega)]
        simp only
        congr 2
        omega, ht, hd, List.take_append_drop]
  rw [e]
  obtain ⟨h1, h2⟩ := looksOf_ok hs
  unfold iPlain
  rw [SpansOk_eq, hs]
  show _ = iSp 0 (looksOf l n)
  rw [iSp_spans h1 (by rw [h2, hL]; omega), h2]
end
end Go.SL
