/- Regions whose order is drawn; the rules with all side conditions found by themselves. -/
import Derived.Test.YtccmdhihlkmjjaaSl6
import Derived.OrdersHeld
import Derived.StillTail
namespace Go.SL
open Go.RowKit

section
variable {P : Program} {ops : Array Oper} {Q : Exit → Act → World → Prop} {md : Region.Mode}
/-- Whatever order is picked, S (which may hang on what has come up) holds behind every operation. -/
def wpAnyG (P : Program) (md : Region.Mode) (ops : Array Oper) (Q : Exit → Act → World → Prop) (S : Array Bool → World → Prop) : Nat → Array Bool → Act → World → Prop
  | 0, listed, a, w => Region.ready md ops listed = [] ∧ Q .normal a w
  | fuel + 1, listed, a, w =>
    (Region.ready md ops listed = [] → Q .normal a w) ∧
    ∀ i ∈ Region.ready md ops listed, wpW P ops Q i (fun a' w' => S (listed.setIfInBounds i true) w' ∧ wpAnyG P md ops Q S fuel (listed.setIfInBounds i true) a' w') a w
theorem wpAny_of_G {S : Array Bool → World → Prop} {ro : Option Nat} (hd : ro = none ∨ ∀ o ∈ ops, ∀ c, o.op ≠ .defer c) : ∀ (fuel : Nat) (listed : Array Bool) (a : Act) (w : World), wpAnyG P md ops Q S fuel listed a w → wpAnyIn (fen ro) 0 P md ops Q fuel listed a w
  | 0, _, _, _, h => h
  | fuel + 1, _, _, _, h => ⟨h.1, fun i hi => wpW_in hd (wpW_mono (fun a' w' h' => wpAny_of_G hd fuel _ a' w' h'.2) (h.2 i hi))⟩
theorem wpAnyG_mono' {S S' : Array Bool → World → Prop} {s : Nat} (hS : ∀ listed w, listed.getD s false = true → S' listed w → S listed w) : ∀ (fuel : Nat) (listed : Array Bool) (a : Act) (w : World), listed.getD s false = true → wpAnyG P md ops Q S' fuel listed a w → wpAnyG P md ops Q S fuel listed a w
  | 0, _, _, _, _, h => h
  | fuel + 1, _, _, _, hl, h => ⟨h.1, fun i hi => wpW_mono (fun a' w' h' => ⟨hS _ _ (getD_set_true hl) h'.1, wpAnyG_mono' hS fuel _ a' w' (getD_set_true hl) h'.2⟩) (h.2 i hi)⟩
theorem wpAnyG_mono {S S' : Array Bool → World → Prop} (hS : ∀ listed w, S' listed w → S listed w) : ∀ (fuel : Nat) (listed : Array Bool) (a : Act) (w : World), wpAnyG P md ops Q S' fuel listed a w → wpAnyG P md ops Q S fuel listed a w
  | 0, _, _, _, h => h
  | fuel + 1, _, _, _, h => ⟨h.1, fun i hi => wpW_mono (fun a' w' h' => ⟨hS _ _ h'.1, wpAnyG_mono hS fuel _ a' w' h'.2⟩) (h.2 i hi)⟩
theorem _root_.Go.YieldsIf.toW {T : World → Prop} {i : Nat} {oi : Oper} {v : Value} {a : Act} {w : World} {K : Act → World → Prop} (hy : YieldsIf P ops T oi v a) (hi : ops[i]? = some oi) (hT : T w) (hK : K (a.put oi.dst v) w) : wpW P ops Q i K a w := by
  have h := hy.wpOp (Q := Q) (K := K) hi hT hK
  unfold wpOp at h
  unfold wpW
  rw [hi] at h ⊢
  simp only at h ⊢
  split
  · rename_i hw
    rw [if_pos hw] at h
    rcases hy with ⟨h1, h2⟩ | ⟨h1, h2⟩
    · refine .inl ?_
      unfold Oper.wp
      rw [h2 w hT]
      exact hK
    · rw [h1] at hw; cases hw
  · rename_i hw
    rw [if_neg hw] at h
    exact h
theorem wpW_putIf {S : World → Prop} {j : Nat} {oi oj : Oper} {v : Value} (hj : ops[j]? = some oj) (hap : oi.apart ops oj = true) (hsi : ∀ cs b, oi.op ≠ .select cs b) (hsj : ∀ cs b, oj.op ≠ .select cs b)
    (hQ : ∀ c a w, Q (.panic c) (a.put oi.dst v) w → Q (.panic c) a w) {K : Act → World → Prop} {a : Act} {w : World} (hy : YieldsIf P ops S oi v a) (h : wpW P ops Q j K (a.put oi.dst v) w) :
    wpW P ops Q j (fun a' w' => YieldsIf P ops S oi v a' ∧ K (a'.put oi.dst v) w') a w := by
  obtain ⟨h1, h2, h3⟩ := Oper.apart_spec hap
  have keep : ∀ u, YieldsIf P ops S oi v (a.put oj.dst u) := fun u => hy.of_same (execOp_put oi hsi a oj.dst u h3) (wanted_put oi a oj.dst u h3)
  unfold wpW at *
  simp only [hj] at *
  rw [wanted_put oj a oi.dst v h1] at h
  split
  · rename_i hw
    rw [if_pos hw] at h
    rcases h with h | ⟨l, f, tmps, assign, body, w', e1, e2⟩
    · refine .inl ?_
      unfold Oper.wp at h ⊢
      rw [execOp_put oj hsj a oi.dst v h1] at h
      generalize (execOp a.eval oj).run P w = r at *
      cases r with
      | ok n w' =>
        cases n <;> simp only [Oper.upon] at h ⊢
        case value u => exact ⟨keep u, by rw [← Act.put_comm a v u h2]; exact h⟩
        case skip => exact ⟨keep _, by rw [← Act.put_comm a v undef h2]; exact h⟩
        case defer d =>
          refine ⟨(hy.of_same (a' := { a with defers := d :: a.defers }) rfl rfl).of_same (execOp_put oi hsi _ oj.dst undef h3) (wanted_put oi _ oj.dst undef h3), ?_⟩
          rw [← Act.put_comm _ v undef h2, ← Act.put_defers]
          exact h
        case enter f args =>
          refine Calls.mono h fun e w'' he => ?_
          cases e with
          | returned u => exact ⟨keep u, by rw [← Act.put_comm a v u h2]; exact he⟩
          | panicked c => exact hQ _ _ _ he
          | outgrown => exact he
        case row row args => exact Rows.mono h fun u w'' he => ⟨keep u, by rw [← Act.put_comm a v u h2]; exact he⟩
      | halt x w' =>
        cases x <;> simp only [Oper.upon] at h ⊢
        case panic u => exact hQ _ _ _ h
    · rw [execOp_put oj hsj a oi.dst v h1] at e1
      refine .inr ⟨l, f, tmps, assign, body, w', e1, RoundIn.mono e2 ?_⟩
      rintro e w'' ⟨u, rfl, hk⟩
      exact ⟨u, rfl, keep u, by rw [← Act.put_comm a v u h2]; exact hk⟩
  · rename_i hw
    rw [if_neg hw] at h
    exact ⟨keep _, by rw [← Act.put_comm a v undef h2]; exact h⟩
/-- What has come up is closed under what had to come ahead. -/
def Closed (md : Region.Mode) (ops : Array Oper) (listed : Array Bool) : Prop :=
  listed.size = ops.size ∧ ∀ j oj, ops[j]? = some oj → listed.getD j false = true → ∀ e ∈ oj.after, Region.binds md e = true → listed.getD e.on false = true
theorem Closed.set {listed : Array Bool} {i : Nat} (h : Closed md ops listed) (hi : i ∈ Region.ready md ops listed) : Closed md ops (listed.setIfInBounds i true) := by
  obtain ⟨_, oi, hoi, hall⟩ := mem_ready.1 hi
  refine ⟨by simp [h.1], fun j oj hj hl e he hb => ?_⟩
  by_cases hij : i = j
  · subst hij
    have : oj = oi := Option.some.inj (hj.symm.trans hoi)
    subst this
    exact getD_set_true (hall e he hb)
  · rw [getD_set_ne false hij] at hl
    exact getD_set_true (h.2 j oj hj hl e he hb)
theorem wpAnyG_first {S : Array Bool → World → Prop} {T : World → Prop} {i : Nat} {oi : Oper} {v : Value} (hi : ops[i]? = some oi) (hsel : ∀ (j : Nat) (o : Oper) cs b, ops[j]? = some o → o.op ≠ .select cs b)
    (hQ : ∀ c a w, Q (.panic c) (a.put oi.dst v) w → Q (.panic c) a w)
    (hT : ∀ listed w, Closed md ops listed → listed.getD i true = false → S listed w → T w) (hm : ∀ listed w, S listed w ↔ S (listed.setIfInBounds i true) w) :
    ∀ (fuel : Nat) (listed : Array Bool) (a : Act) (w : World), Closed md ops listed →
      (∀ j oj, ops[j]? = some oj → j ≠ i → listed.getD j true = false → (∀ e ∈ oj.after, Region.binds md e = true → e.on ≠ i) → oi.apart ops oj = true) →
      i ∈ Region.ready md ops listed → YieldsIf P ops T oi v a → S listed w →
      wpAnyG P md ops Q S fuel (listed.setIfInBounds i true) (a.put oi.dst v) w → wpAnyG P md ops Q S (fuel + 1) listed a w := by
  intro fuel
  induction fuel with
  | zero =>
    intro listed a w hc _ hr hy hS H
    refine ⟨fun h => (by rw [h] at hr; cases hr), fun j hj => ?_⟩
    by_cases hji : j = i
    · subst hji; exact hy.toW hi (hT _ _ hc (mem_ready.1 hr).1 hS) ⟨(hm _ _).1 hS, H⟩
    · have := ready_mono hj hji
      rw [H.1] at this
      cases this
  | succ fuel ih =>
    intro listed a w hc hfree hr hy hS H
    refine ⟨fun h => (by rw [h] at hr; cases hr), fun j hj => ?_⟩
    by_cases hji : j = i
    · subst hji; exact hy.toW hi (hT _ _ hc (mem_ready.1 hr).1 hS) ⟨(hm _ _).1 hS, H⟩
    · have h1 := H.2 j (ready_mono hj hji)
      obtain ⟨hjun, oj, hoj, hall⟩ := mem_ready.1 hj
      have hnot : ∀ e ∈ oj.after, Region.binds md e = true → e.on ≠ i := fun e he hb heq => by
        have h1 := hall e he hb
        have h0 := (mem_ready.1 hr).1
        rw [heq] at h1
        rcases Nat.lt_or_ge i listed.size with h' | h'
        · simp [h'] at h0 h1; rw [h0] at h1; cases h1
        · simp [Array.getElem?_eq_none h'] at h1
      have h2 := wpW_putIf hoj (hfree j oj hoj hji hjun hnot) (fun cs b => hsel i oi cs b hi) (fun cs b => hsel j oj cs b hoj) hQ hy h1
      have hri : i ∈ Region.ready md ops (listed.setIfInBounds j true) := ready_mono hr (fun e => hji e.symm)
      have hfree' : ∀ k ok, ops[k]? = some ok → k ≠ i → (listed.setIfInBounds j true).getD k true = false →
          (∀ e ∈ ok.after, Region.binds md e = true → e.on ≠ i) → oi.apart ops ok = true := fun k ok hk hki hun hno => by
        refine hfree k ok hk hki ?_ hno
        by_cases hjk : j = k
        · subst hjk; exact hjun
        · rw [getD_set_ne true hjk] at hun; exact hun
      refine wpW_mono (fun a' w' h3 => ?_) h2
      have hS' : S (listed.setIfInBounds j true) w' := (hm _ _).2 (by rw [Array.setIfInBounds_comm _ _ hji]; exact h3.2.1)
      refine ⟨hS', ih (listed.setIfInBounds j true) a' w' (hc.set hj) hfree' (ready_mono hr (Ne.symm hji)) h3.1 hS' ?_⟩
      rw [Array.setIfInBounds_comm _ _ hji]
      exact h3.2.2
end

/-! ### the judgement -/
/-- What the world is known to hold within a region: L0 as long as number s.1 has not come up, L1 as long as s.2 has not (all the while, if that is 1000). -/
def SS (x : Cx) (L0 L1 : List HP) (s : Nat × Nat) (listed : Array Bool) (w : World) : Prop := SAT x.w0 x.O [] w ∧ (listed.getD s.1 true = false → SAT x.w0 x.O L0 w) ∧ ((Nat.beq s.2 1000 || !(listed.getD s.2 true)) = true → SAT x.w0 x.O L1 w)
/-- Those that have come up, the last one first, as marks. -/
def marks (m : Nat) : List Nat → Array Bool
  | [] => Array.replicate m false
  | i :: dl => (marks m dl).setIfInBounds i true
/-! ### what is asked of a region once -/
def bindsA (e : Edge) : Bool :=
  match e.ground with
  | .textOnly _ => false
  | .gcOnly _ => false
  | _ => true
theorem bindsA_eq (e : Edge) : bindsA e = Region.binds .any e := by
  unfold bindsA Region.binds
  cases e.ground <;> rfl
def edgeTo (i : Nat) : List Edge → Bool
  | [] => false
  | e :: es => match Nat.beq e.on i with
    | true => (match bindsA e with
      | true => true
      | false => edgeTo i es)
    | false => edgeTo i es
def isDst (t : Nat) : Option Tmp → Bool
  | some d => Nat.beq d t
  | none => false
/-- Number t is given by no operation but by those that these edges name, and by number j. -/
def writersOk (t j : Nat) (es : List Edge) : Nat → List Oper → Bool
  | _, [] => true
  | i, o :: l => match isDst t o.dst with
    | false => writersOk t j es (i + 1) l
    | true => (Nat.beq i j || (edgeTo i es || edgeTo j o.after.toList)) && writersOk t j es (i + 1) l
def looksOk (l : List Oper) (j : Nat) (es : List Edge) : List Tmp → Bool
  | [] => true
  | t :: ts => writersOk t j es 0 l && looksOk l j es ts
def dstOnce (d j : Nat) : Nat → List Oper → Bool
  | _, [] => true
  | i, o :: l => match isDst d o.dst with
    | false => dstOnce d j (i + 1) l
    | true => Nat.beq i j && dstOnce d j (i + 1) l
def dstOk (l : List Oper) (j : Nat) : Option Tmp → Bool
  | none => true
  | some d => dstOnce d j 0 l
def edgesIn (n : Nat) : List Edge → Bool
  | [] => true
  | e :: es => Nat.blt e.on n && edgesIn n es
def pairsOk (l : List Oper) (n : Nat) : Nat → List Oper → Bool
  | _, [] => true
  | j, o :: r => (dstOk l j o.dst && (looksOk l j o.after.toList (o.looksAt l.toArray) && edgesIn n o.after.toList)) && pairsOk l n (j + 1) r
def stat (l : List Oper) : Bool := Region.noSelect l.toArray && (Nat.ble l.length 100 && pairsOk l l.length 0 l)
theorem edgeTo_no {i : Nat} : ∀ {es : List Edge}, (∀ e ∈ es, Region.binds .any e = true → e.on ≠ i) → edgeTo i es = false
  | [], _ => rfl
  | e :: es, h => by
    have ih := edgeTo_no (i := i) (es := es) (fun e' he => h e' (List.mem_cons_of_mem _ he))
    simp only [edgeTo]
    split
    · rename_i hb
      split
      · rename_i hq
        rw [bindsA_eq] at hq
        exact absurd (Nat.eq_of_beq_eq_true hb) (h e List.mem_cons_self hq)
      · exact ih
    · exact ih
theorem writersOk_at {t j : Nat} {es : List Edge} : ∀ {l : List Oper} {b k : Nat} {o : Oper}, writersOk t j es b l = true → l[k]? = some o → o.dst = some t → b + k = j ∨ edgeTo (b + k) es = true ∨ edgeTo j o.after.toList = true
  | [], _, _, _, _, h, _ => by simp at h
  | p :: l, b, 0, o, h, hk, hd => by
    simp only [List.getElem?_cons_zero, Option.some.injEq] at hk
    subst hk
    simp only [writersOk, hd, isDst, Nat.beq_refl, Bool.and_eq_true, Bool.or_eq_true] at h
    exact h.1.imp (fun e => Nat.eq_of_beq_eq_true e) fun e => e
  | p :: l, b, k + 1, o, h, hk, hd => by
    simp only [List.getElem?_cons_succ] at hk
    have h' : writersOk t j es (b + 1) l = true := by
      simp only [writersOk] at h
      split at h
      · exact h
      · simp only [Bool.and_eq_true] at h
        exact h.2
    have := writersOk_at h' hk hd
    rwa [show b + 1 + k = b + (k + 1) by omega] at this
theorem dstOnce_at {d j : Nat} : ∀ {l : List Oper} {b k : Nat} {o : Oper}, dstOnce d j b l = true → l[k]? = some o → o.dst = some d → b + k = j
  | [], _, _, _, _, h, _ => by simp at h
  | p :: l, b, 0, o, h, hk, hd => by
    simp only [List.getElem?_cons_zero, Option.some.injEq] at hk
    subst hk
    simp only [dstOnce, hd, isDst, Nat.beq_refl, Bool.and_eq_true] at h
    exact Nat.eq_of_beq_eq_true h.1
  | p :: l, b, k + 1, o, h, hk, hd => by
    simp only [List.getElem?_cons_succ] at hk
    have h' : dstOnce d j (b + 1) l = true := by
      simp only [dstOnce] at h
      split at h
      · exact h
      · simp only [Bool.and_eq_true] at h
        exact h.2
    have := dstOnce_at h' hk hd
    omega
theorem looksOk_at {l : List Oper} {j : Nat} {es : List Edge} {t : Tmp} : ∀ {ts : List Tmp}, looksOk l j es ts = true → t ∈ ts → writersOk t j es 0 l = true
  | [], _, h => by cases h
  | u :: ts, h, ht => by
    simp only [looksOk, Bool.and_eq_true] at h
    rcases List.mem_cons.1 ht with rfl | ht
    · exact h.1
    · exact looksOk_at h.2 ht
theorem pairsOk_at {l : List Oper} {n : Nat} : ∀ {r : List Oper} {b k : Nat} {o : Oper}, pairsOk l n b r = true → r[k]? = some o → dstOk l (b + k) o.dst = true ∧ looksOk l (b + k) o.after.toList (o.looksAt l.toArray) = true ∧ edgesIn n o.after.toList = true
  | [], _, _, _, _, h => by simp at h
  | p :: r, b, 0, o, h, hk => by
    simp only [List.getElem?_cons_zero, Option.some.injEq] at hk
    subst hk
    simp only [pairsOk, Bool.and_eq_true] at h
    exact ⟨h.1.1, h.1.2.1, h.1.2.2⟩
  | p :: r, b, k + 1, o, h, hk => by
    simp only [List.getElem?_cons_succ] at hk
    simp only [pairsOk, Bool.and_eq_true] at h
    have := pairsOk_at h.2 hk
    rwa [show b + 1 + k = b + (k + 1) by omega] at this
theorem edgesIn_at {n : Nat} : ∀ {es : List Edge} {e : Edge}, edgesIn n es = true → e ∈ es → e.on < n
  | [], _, _, h => by cases h
  | p :: es, e, h, he => by
    simp only [edgesIn, Bool.and_eq_true, Nat.blt_eq] at h
    rcases List.mem_cons.1 he with rfl | he
    · exact h.1
    · exact edgesIn_at h.2 he
theorem stat_apart {l : List Oper} {i j : Nat} {oi oj : Oper} (h : stat l = true) (hi : l[i]? = some oi) (hj : l[j]? = some oj) (hne : j ≠ i)
    (h1 : ∀ e ∈ oj.after, Region.binds .any e = true → e.on ≠ i) (h2 : ∀ e ∈ oi.after, Region.binds .any e = true → e.on ≠ j) : oi.apart l.toArray oj = true := by
  simp only [stat, Bool.and_eq_true] at h
  have hpi := pairsOk_at h.2.2 hi
  have hpj := pairsOk_at h.2.2 hj
  rw [Nat.zero_add] at hpi hpj
  have e1 : edgeTo i oj.after.toList = false := edgeTo_no fun e he => h1 e (by simpa using he)
  have e2 : edgeTo j oi.after.toList = false := edgeTo_no fun e he => h2 e (by simpa using he)
  unfold Oper.apart
  rw [Bool.and_eq_true]
  constructor
  · cases hd : oi.dst with
    | none => rfl
    | some d =>
      simp only [Bool.and_eq_true, Bool.not_eq_true', bne_iff_ne, ne_eq]
      constructor
      · cases hc : (oj.looksAt l.toArray).contains d with
        | false => rfl
        | true =>
          have := writersOk_at (looksOk_at hpj.2.1 (by simpa using hc)) hi hd
          rw [Nat.zero_add, e1, e2] at this
          exact absurd (this.resolve_right (by simp)) (Ne.symm hne)
      · intro he
        have h3 := hpj.1
        rw [he] at h3
        have := dstOnce_at h3 hi hd
        omega
  · cases hd : oj.dst with
    | none => rfl
    | some d =>
      simp only [Bool.not_eq_true']
      cases hc : (oi.looksAt l.toArray).contains d with
      | false => rfl
      | true =>
        have := writersOk_at (looksOk_at hpi.2.1 (by simpa using hc)) hj hd
        rw [Nat.zero_add, e1, e2] at this
        exact absurd (this.resolve_right (by simp)) hne
structure AJ (P : Program) (x : Cx) (E : List (Nat × Value)) (L L0 L1 : List HP) (s : Nat × Nat) (l : List Oper) (fuel : Nat) (dl : List Nat) (k : List Fr) : Prop where
  h : stat l = true → ∀ a w, EnvOK x.n x.ds E a → SAT x.w0 x.O L w → SS x L0 L1 s (marks l.length dl) w → Closed .any l.toArray (marks l.length dl) → wpAnyG P .any l.toArray (post P x k) (SS x L0 L1 s) fuel (marks l.length dl) a w
theorem iAJ {P : Program} {x : Cx} {E : List (Nat × Value)} {L L0 L1 : List HP} {s : Nat × Nat} {l : List Oper} {fuel : Nat} {dl : List Nat} {k : List Fr} (h : AJ P x E L L0 L1 s l fuel dl k) : AJ P x E L L0 L1 s l fuel dl k := h
def memN (i : Nat) : List Nat → Bool
  | [] => false
  | j :: l => match Nat.beq i j with
    | true => true
    | false => memN i l
/-- Functions that may write what is owned. -/
def effs : List Nat := [25, 28, 32, 33, 40, 41, 44]
def isEff : Op → Bool
  | .call { callee := .value (.func f), .. } => memN f effs
  | .call { callee := .value (.tmp _), .. } => true
  | .store .. | .mapUpdate .. | .insert .. | .entryStore .. => true
  | .call { callee := .builtin .append, .. } => true
  | .call { callee := .builtin .copy, .. } => true
  | .call { callee := .builtin .clear, .. } => true
  | _ => false
def isAct : Op → Bool
  | .box .. | .alloc .. | .buildSlice .. | .makeSlice .. | .makeMap .. | .store .. | .mapUpdate .. | .insert .. | .entryStore .. | .mapEntry .. => true
  | .call { callee := .builtin .len, .. } => false
  | .call { callee := .builtin .cap, .. } => false
  | .call { callee := .builtin .max, .. } => false
  | .call { callee := .builtin .min, .. } => false
  | .call _ => true
  | _ => false
def nums : List Nat := [0, 1, 2, 3, 4, 5, 6, 7, 8, 9, 10, 11, 12, 13, 14, 15, 16, 17, 18, 19, 20, 21, 22, 23, 24, 25, 26, 27, 28, 29, 30, 31, 32, 33, 34, 35, 36, 37, 38, 39, 40, 41, 42, 43, 44, 45, 46, 47, 48, 49, 50, 51, 52, 53, 54, 55, 56, 57, 58, 59, 60, 61, 62, 63, 64, 65, 66, 67, 68, 69, 70, 71, 72, 73, 74, 75, 76, 77, 78, 79, 80, 81, 82, 83, 84, 85, 86, 87, 88, 89, 90, 91, 92, 93, 94, 95, 96, 97, 98, 99]
/-- The first effect's number (how many operations there are, if there is none). -/
def firstEff : List Nat → List Oper → Option Nat
  | i :: _, [] => some i
  | i :: is, o :: l => match isEff o.op with
    | true => some i
    | false => firstEff is l
  | [], _ => none
def countO : List Nat → List Oper → Option Nat
  | i :: _, [] => some i
  | _ :: is, _ :: l => countO is l
  | [], _ => none
def mem (i : Nat) : List Nat → Bool
  | [] => false
  | j :: l => match Nat.beq i j with
    | true => true
    | false => mem i l
def allIn : List Edge → List Nat → Bool
  | [], _ => true
  | e :: es, dl => match bindsA e with
    | true => match mem e.on dl with
      | true => allIn es dl
      | false => false
    | false => allIn es dl
/-- The next plain (b = false) operation that can come up, or the next that acts. -/
def nextP (b : Bool) (dl : List Nat) : List Nat → List Oper → Option (Nat × Oper)
  | i :: is, o :: l => match mem i dl with
    | true => nextP b dl is l
    | false => match Bool.xor b (isAct o.op) with
      | true => nextP b dl is l
      | false => match allIn o.after.toList dl with
        | true => some (i, o)
        | false => nextP b dl is l
  | _, _ => none
/-- The next guarded one. -/
def nextG (dl : List Nat) : List Nat → List Oper → Option (Nat × Oper)
  | i :: is, o :: l => match mem i dl with
    | true => nextG dl is l
    | false => match o.guard with
      | none => nextG dl is l
      | some _ => match allIn o.after.toList dl with
        | true => some (i, o)
        | false => nextG dl is l
  | _, _ => none
def selL (b : Bool) (L0 L1 : List HP) : List HP :=
  match b with
  | true => L0
  | false => L1
/-- Number s waits for number i. -/
def waitsAny (g : Nat → Bool) (i : Nat) : List Edge → Bool
  | [] => false
  | e :: es => match bindsA e with
    | false => waitsAny g i es
    | true => match Nat.beq e.on i with
      | true => true
      | false => match Nat.blt i e.on with
        | false => waitsAny g i es
        | true => match g e.on with
          | true => true
          | false => waitsAny g i es
theorem waitsAny_spec {g : Nat → Bool} {i : Nat} : ∀ {es : List Edge}, waitsAny g i es = true → ∃ e ∈ es, bindsA e = true ∧ (Nat.beq e.on i = true ∨ g e.on = true)
  | [], h => by cases h
  | e :: es, h => by
    have next : waitsAny g i es = true → ∃ e' ∈ e :: es, bindsA e' = true ∧ (Nat.beq e'.on i = true ∨ g e'.on = true) := fun h => by
      obtain ⟨e', h1, h2⟩ := waitsAny_spec h
      exact ⟨e', List.mem_cons_of_mem _ h1, h2⟩
    simp only [waitsAny] at h
    split at h
    · exact next h
    · rename_i hb
      split at h
      · rename_i hq
        exact ⟨e, List.mem_cons_self, hb, .inl hq⟩
      · split at h
        · exact next h
        · split at h
          · rename_i hg
            exact ⟨e, List.mem_cons_self, hb, .inr hg⟩
          · exact next h
def waits (l : List Oper) : Nat → Nat → Nat → Bool
  | 0, _, _ => false
  | f + 1, s, i => match nth l s with
    | some o => waitsAny (fun t => waits l f t i) i o.after.toList
    | none => false
theorem waits_listed {l : List Oper} {listed : Array Bool} {i : Nat} (hc : Closed .any l.toArray listed) (hi : listed.getD i true = false) : ∀ (f s : Nat), waits l f s i = true → listed.getD s true = false := by
  intro f
  induction f with
  | zero => intro s h; cases h
  | succ f ih =>
    intro s h
    unfold waits at h
    split at h
    · rename_i o ho
      rw [nth_eq] at ho
      have ho' : l.toArray[s]? = some o := by simpa using ho
      obtain ⟨e, he, hb⟩ := waitsAny_spec h
      rw [bindsA_eq] at hb
      have hlt : s < listed.size := by rw [hc.1]; exact (Array.getElem?_eq_some_iff.1 ho').1
      cases hs : listed.getD s false with
      | false => exact getD_in hlt hs
      | true =>
        have h1 := hc.2 s o ho' hs e (by simpa using he) hb.1
        rcases hb.2 with h2 | h2
        · rw [Nat.eq_of_beq_eq_true h2] at h1
          rw [getD_both hi] at h1
          cases h1
        · rw [getD_both (ih _ h2)] at h1
          cases h1
    · cases h
section
variable {P : Program} {x : Cx} {E : List (Nat × Value)} {L L0 L1 L2 : List HP} {k : List Fr} {ops : Array Oper} {l : List Oper} {s : Nat × Nat} {fuel i : Nat} {dl : List Nat} {v u : Value} {op : Op} {ty : TypeId} {d : Tmp} {pos : String} {aft : Array Edge}
class Wide (P : Program) : Prop where
  h : P.follows .mixedOrders = true
theorem J.drawAt (s : Nat × Nat) (L1 : List HP) [hW : Wide P] {id : Nat} (h : AJ P x E L L L1 s l l.length [] k) (he : Ent L L1) (hst : stat l = true) (hd : noDef x.ro l = true := by rfl) : J P x E L (.region id l.toArray true) k :=
  ⟨fun a w hE hS => by
    refine wpIn_region_any hW.h (wpAny_of_G (S := SS x L L1 s) ((noDef_spec hd).imp (fun e => e) fun h o ho => h o (by simpa using ho)) _ _ _ _ ?_)
    have hS' : SAT x.w0 x.O L { w with drawn := w.drawn + 1 } := hS.same rfl rfl rfl rfl
    have hsz : l.toArray.size = l.length := by simp
    rw [hsz]
    refine h.h hst a _ hE hS' ⟨hS'.ent Ent.nil, fun _ => hS', fun _ => hS'.ent he⟩ ⟨by simp [marks], fun j oj _ hl => ?_⟩
    exfalso
    have : (marks l.length []).getD j false = false := getD_replicate_false _ _
    rw [this] at hl
    cases hl⟩
theorem countO_eq : ∀ (l : List Oper) (is : List Nat) (b m : Nat), (∀ j i, is[j]? = some i → i = b + j) → countO is l = some m → m = b + l.length
  | [], [], _, _, _, h => by cases h
  | [], i :: is, b, m, hi, h => by
    have := hi 0 i rfl
    injection h with h
    simp only [List.length_nil]
    omega
  | _ :: _, [], _, _, _, h => by cases h
  | _ :: l, _ :: is, b, m, hi, h => by
    have := countO_eq l is (b + 1) m (fun j i hj => by have := hi (j + 1) i hj; omega) h
    simp only [List.length_cons]
    omega
theorem nums_get (j i : Nat) (h : nums[j]? = some i) : i = 0 + j := by
  have e : nums = List.range 100 := by decide +kernel
  rw [e] at h
  have := List.getElem?_eq_some_iff.1 h
  obtain ⟨h1, h2⟩ := this
  simp at h2
  omega
/-- The next effect, those that have come up left aside (1000: none). -/
def nextEff (dl : List Nat) : List Nat → List Oper → Option Nat
  | i :: is, o :: l => match mem i dl with
    | true => nextEff dl is l
    | false => match isEff o.op with
      | true => some i
      | false => nextEff dl is l
  | _, _ => some 1000
/-- Functions that turn nothing but a drawing's reader. -/
def rdrs : List Nat := [32, 33, 40, 41, 44]
def isRdr : Op → Bool
  | .call { callee := .value (.func f), .. } => memN f rdrs
  | _ => false
/-- 0: no effect, 1: a reader's, 2: another. -/
def effKind (l : List Oper) (s : Nat) : Nat :=
  match nth l s with
  | none => 0
  | some o => match isRdr o.op with
    | true => 1
    | false => 2
def effEnd (dl : List Nat) (l : List Oper) (s : Nat) : Option Nat :=
  match effKind l s with
  | 1 => nextEff (s :: dl) nums l
  | _ => some 1000
/-- What a reader's effect leaves. -/
structure Keep (L L' : List HP) : Prop where
  h : Ent L L'
theorem ent_cons {p : HP} {L L' : List HP} (h : Ent L L') : Ent (p :: L) (p :: L') := Ent.pick Pick.here h
theorem ent_drop {p : HP} {L L' : List HP} (h : Ent L L') : Ent (p :: L) L' := by
  obtain ⟨L1, h1⟩ := h.h
  refine ⟨p :: L1, fun g hg => ?_⟩
  obtain ⟨g1, g2, d, e, hp, hL⟩ := hg
  exact ⟨g1, g2, d, e, hp, h1 g2 hL⟩
theorem Keep.nil : Keep [] [] := ⟨Ent.nil⟩
theorem Keep.blk {b : Nat} {o : Obj} {L L' : List HP} (h : Keep L L') : Keep (SL.blk b o :: L) (SL.blk b o :: L') := ⟨ent_cons h.h⟩
theorem Keep.row {α : Type} {q : Enc α} {e : TypeId} {v : Value} {xs : List α} {L L' : List HP} (h : Keep L L') : Keep (SL.row q e v xs :: L) (SL.row q e v xs :: L') := ⟨ent_cons h.h⟩
theorem Keep.drop {p : HP} {L L' : List HP} (h : Keep L L') : Keep (p :: L) L' := ⟨ent_drop h.h⟩
structure KeepIf (c : Nat) (L L' : List HP) : Prop where
  h : Ent L L'
theorem KeepIf.k0 : KeepIf 0 L L := ⟨Ent.refl⟩
theorem KeepIf.k1 (h : Keep L L1) : KeepIf 1 L L1 := ⟨h.h⟩
theorem KeepIf.k2 : KeepIf 2 L [] := ⟨Ent.nil⟩
/-- The usual: what the region's first effect may turn is known up to it. -/
theorem J.draw [hW : Wide P] {id m s e : Nat} {Lx : List HP} (h : AJ P x E L L Lx (s, e) l m [] k) (hm : countO nums l = some m := by rfl) (_hs : nextEff [] nums l = some s := by rfl) (_he : effEnd [] l s = some e := by rfl) (hL : KeepIf (effKind l s) L Lx := by first | exact KeepIf.k0 | exact KeepIf.k2 | (apply KeepIf.k1; (repeat (first | exact Keep.nil | apply Keep.blk | apply Keep.row | apply Keep.drop)); done) | fail) (hst : stat l = true := by decide +kernel) (hd : noDef x.ro l = true := by rfl) : J P x E L (.region id l.toArray true) k := by
  have hm' := countO_eq l nums 0 m nums_get hm
  rw [Nat.zero_add] at hm'
  exact J.drawAt (s, e) Lx (by rw [← hm']; exact h) hL.h hst hd
theorem nextP_spec {b : Bool} {dl : List Nat} {i : Nat} {o : Oper} : ∀ {is : List Nat} {l : List Oper}, nextP b dl is l = some (i, o) → mem i dl = false ∧ allIn o.after.toList dl = true
  | [], _, h => by simp [nextP] at h
  | _ :: _, [], h => by simp [nextP] at h
  | k :: is, p :: l, h => by
    simp only [nextP] at h
    split at h
    · exact nextP_spec h
    · rename_i hm
      split at h
      · exact nextP_spec h
      · split at h
        · rename_i ha
          simp only [Option.some.injEq, Prod.mk.injEq] at h
          obtain ⟨rfl, rfl⟩ := h
          exact ⟨hm, ha⟩
        · exact nextP_spec h
theorem nextG_spec {dl : List Nat} {i : Nat} {o : Oper} : ∀ {is : List Nat} {l : List Oper}, nextG dl is l = some (i, o) → mem i dl = false ∧ allIn o.after.toList dl = true
  | [], _, h => by simp [nextG] at h
  | _ :: _, [], h => by simp [nextG] at h
  | k :: is, p :: l, h => by
    simp only [nextG] at h
    split at h
    · exact nextG_spec h
    · rename_i hm
      split at h
      · exact nextG_spec h
      · split at h
        · rename_i ha
          simp only [Option.some.injEq, Prod.mk.injEq] at h
          obtain ⟨rfl, rfl⟩ := h
          exact ⟨hm, ha⟩
        · exact nextG_spec h
theorem marks_size (m : Nat) : ∀ (dl : List Nat), (marks m dl).size = m
  | [] => by simp [marks]
  | _ :: dl => by simp [marks, marks_size m dl]
theorem mem_marks {m s : Nat} (hs : s < m) : ∀ (dl : List Nat), mem s dl = true → (marks m dl).getD s false = true
  | [], h => by cases h
  | i :: dl, h => by
    simp only [mem] at h
    split at h
    · rename_i hb
      have := Nat.eq_of_beq_eq_true hb
      subst this
      have hlt : s < (marks m dl).size := by rw [marks_size]; exact hs
      simp [marks, hlt]
    · exact getD_set_true (mem_marks hs dl h)
theorem marks_mem {m s : Nat} : ∀ (dl : List Nat), (marks m dl).getD s false = true → mem s dl = true
  | [], h => by rw [show marks m [] = Array.replicate m false from rfl, getD_replicate_false] at h; cases h
  | i :: dl, h => by
    simp only [mem]
    split
    · rfl
    · rename_i hb
      refine marks_mem (m := m) dl ?_
      rw [show marks m (i :: dl) = (marks m dl).setIfInBounds i true from rfl, getD_set_ne false (fun e => by rw [e, Nat.beq_refl] at hb; cases hb)] at h
      exact h
theorem allIn_at {dl : List Nat} : ∀ {es : List Edge} {e : Edge}, allIn es dl = true → e ∈ es → bindsA e = true → mem e.on dl = true
  | [], _, _, h, _ => by cases h
  | p :: es, e, h, he, hb => by
    simp only [allIn] at h
    rcases List.mem_cons.1 he with rfl | he
    · rw [hb] at h
      simp only at h
      split at h
      · assumption
      · cases h
    · refine allIn_at (es := es) ?_ he hb
      split at h
      · split at h
        · exact h
        · cases h
      · exact h
theorem allIn_of {dl : List Nat} : ∀ {es : List Edge}, (∀ e ∈ es, bindsA e = true → mem e.on dl = true) → allIn es dl = true
  | [], _ => rfl
  | p :: es, h => by
    have ih := allIn_of (dl := dl) (es := es) fun e he => h e (List.mem_cons_of_mem _ he)
    simp only [allIn]
    split
    · rename_i hb
      rw [h p List.mem_cons_self hb]
      exact ih
    · exact ih
theorem ready_of {i : Nat} {o : Oper} (hst : stat l = true) (hi : l[i]? = some o) (hm : mem i dl = false) (ha : allIn o.after.toList dl = true) : i ∈ Region.ready .any l.toArray (marks l.length dl) := by
  simp only [stat, Bool.and_eq_true] at hst
  have hp := (pairsOk_at hst.2.2 hi).2.2
  have hlt : i < l.length := (List.getElem?_eq_some_iff.1 hi).1
  refine mem_ready.2 ⟨?_, o, by simpa using hi, fun e he hb => ?_⟩
  · refine getD_in (by rw [marks_size]; exact hlt) ?_
    cases h : (marks l.length dl).getD i false with
    | false => rfl
    | true => rw [marks_mem dl h] at hm; cases hm
  · have he' : e ∈ o.after.toList := by simpa using he
    exact mem_marks (edgesIn_at hp he') dl (allIn_at ha he' (by rw [bindsA_eq]; exact hb))
/-- All that can come up. -/
def readyL (dl : List Nat) : List Nat → List Oper → List Nat
  | i :: is, o :: l => match mem i dl with
    | true => readyL dl is l
    | false => match allIn o.after.toList dl with
      | true => i :: readyL dl is l
      | false => readyL dl is l
  | _, _ => []
theorem readyL_at {dl : List Nat} : ∀ {l : List Oper} {is : List Nat} {b k : Nat} {o : Oper}, (∀ j, j < l.length → is[j]? = some (b + j)) → l[k]? = some o → mem (b + k) dl = false → allIn o.after.toList dl = true → b + k ∈ readyL dl is l
  | [], _, _, _, _, _, h, _, _ => by simp at h
  | p :: l, [], _, _, _, hi, _, _, _ => by have := hi 0 (by simp); simp at this
  | p :: l, i :: is, b, 0, o, hi, hk, hm, ha => by
    simp only [List.getElem?_cons_zero, Option.some.injEq] at hk
    subst hk
    have h0 := hi 0 (by simp)
    simp only [List.getElem?_cons_zero, Option.some.injEq] at h0
    subst h0
    have hm' : mem i dl = false := hm
    simp [readyL, hm', ha]
  | p :: l, i :: is, b, k + 1, o, hi, hk, hm, ha => by
    simp only [List.getElem?_cons_succ] at hk
    have h := readyL_at (l := l) (is := is) (b := b + 1) (k := k) (o := o) (dl := dl) (fun j hj => by
      have := hi (j + 1) (by simp; omega)
      simp only [List.getElem?_cons_succ] at this
      rw [this]; congr 1; omega) hk (by rw [show b + 1 + k = b + (k + 1) by omega]; exact hm) ha
    rw [show b + 1 + k = b + (k + 1) by omega] at h
    simp only [readyL]
    split
    · exact h
    · split
      · exact List.mem_cons_of_mem _ h
      · exact h
theorem nums_at {j : Nat} (h : j < 100) : nums[j]? = some (0 + j) := by
  have e : nums = List.range 100 := by decide +kernel
  rw [e, Nat.zero_add]
  simp [h]
theorem ready_sub {i : Nat} (hst : stat l = true) (h : i ∈ Region.ready .any l.toArray (marks l.length dl)) : i ∈ readyL dl nums l := by
  simp only [stat, Bool.and_eq_true] at hst
  have hn := Nat.le_of_ble_eq_true hst.2.1
  obtain ⟨h0, o, ho, hall⟩ := mem_ready.1 h
  have ho' : l[i]? = some o := by simpa using ho
  have := readyL_at (dl := dl) (is := nums) (b := 0) (k := i) (o := o) (l := l) (fun j hj => nums_at (by omega)) ho' (by
    rw [Nat.zero_add]
    cases hm : mem i dl with
    | false => rfl
    | true =>
      have hlt : i < l.length := (List.getElem?_eq_some_iff.1 ho').1
      have := mem_marks hlt dl hm
      rw [getD_both h0] at this
      cases this) (allIn_of fun e he hb => marks_mem dl (hall e (by simpa using he) (by rw [← bindsA_eq]; exact hb)))
  rwa [Nat.zero_add] at this
theorem ready_nil (hst : stat l = true) (h : readyL dl nums l = []) : Region.ready .any l.toArray (marks l.length dl) = [] :=
  List.eq_nil_iff_forall_not_mem.2 fun i hi => by
    have := ready_sub hst hi
    rw [h] at this
    cases this
theorem AJ.done (h : JK P x E L k) (hr : readyL dl nums l = [] := by decide +kernel) : AJ P x E L L0 L1 s l fuel dl k :=
  ⟨fun hst a w hE hS _ _ => by
    have hr := ready_nil hst hr
    cases fuel with
    | zero => exact ⟨hr, h.h a w hE hS⟩
    | succ n => exact ⟨fun _ => h.h a w hE hS, by rw [hr]; simp⟩⟩
theorem post_panic {c : List PanicEntry} {a : Act} {w : World} : ∀ {k : List Fr}, post P x k (.panic c) a w ↔ x.Q0 (.panic c) a w
  | [] => Iff.rfl
  | .code _ :: k => post_panic (k := k)
  | .loop _ :: k => post_panic (k := k)
  | .blk _ :: k => post_panic (k := k)
theorem post_panic_put (c : List PanicEntry) (a : Act) (w : World) (d : Option Tmp) (u : Value) (h : post P x k (.panic c) (a.put d u) w) : post P x k (.panic c) a w := by
  rw [post_panic] at h ⊢
  exact x.pan c a w d u h
theorem AJ.taken {o : Oper} {T : World → Prop} (hi : l[i]? = some o) (hma : mem i dl = false ∧ allIn o.after.toList dl = true) (h4 : Nat.beq i s.1 = false) (h5 : Nat.beq i s.2 = false) (hd : okD x.n o.dst = true)
    (hT : ∀ listed w, Closed .any l.toArray listed → listed.getD i true = false → SS x L0 L1 s listed w → T w) (hy : ∀ a, EnvOK x.n x.ds E a → YieldsIf P l.toArray T o v a) (hk : AJ P x (putE o.dst v E) L L0 L1 s l fuel (i :: dl) k) : AJ P x E L L0 L1 s l (fuel + 1) dl k := by
  have hne : i ≠ s.1 := fun e => by rw [← e, Nat.beq_refl] at h4; cases h4
  have hne2 : i ≠ s.2 := fun e => by rw [← e, Nat.beq_refl] at h5; cases h5
  refine ⟨fun hst a w hE hS hSS hc => ?_⟩
  have hm : ∀ listed w, SS x L0 L1 s listed w ↔ SS x L0 L1 s (listed.setIfInBounds i true) w := fun listed w => by
    unfold SS
    rw [getD_set_ne true hne, getD_set_ne true hne2]
  have hr : i ∈ Region.ready .any l.toArray (marks l.length dl) := ready_of hst hi hma.1 hma.2
  have hi' : l.toArray[i]? = some o := by simpa using hi
  have hns : Region.noSelect l.toArray = true := by
    simp only [stat, Bool.and_eq_true] at hst
    exact hst.1
  refine wpAnyG_first hi' (Region.noSelect_spec hns) (fun c a w => post_panic_put c a w _ _) hT hm fuel (marks l.length dl) a w hc (fun j oj hj hji hun hno => ?_) hr (hy a hE) hSS
    (hk.h hst _ w (hE.put hd) hS ((hm _ _).1 hSS) (hc.set hr))
  refine stat_apart hst hi (by simpa using hj) hji hno fun e he hb heq => ?_
  obtain ⟨_, o2, ho2, hall⟩ := mem_ready.1 hr
  have : o2 = o := Option.some.inj (ho2.symm.trans hi')
  subst this
  have := hall e he hb
  rw [heq, getD_both hun] at this
  cases this
/-- Which of the phases an operation sees: 0, 1, or none. -/
def selC (l : List Oper) (s : Nat × Nat) (i : Nat) : Option Nat := match waits l 9 s.1 i with
  | true => some 0
  | false => match Nat.beq s.2 1000 with
    | true => some 1
    | false => match waits l 9 s.2 i with
      | true => some 1
      | false => some 2
def selN (c : Nat) (L0 L1 : List HP) : List HP := match c with
  | 0 => L0
  | 1 => L1
  | _ => []
inductive Sel : Nat → List HP → List HP → List HP → Prop
  | z {L0 L1 : List HP} : Sel 0 L0 L1 L0
  | o {L0 L1 : List HP} : Sel 1 L0 L1 L1
  | n {L0 L1 : List HP} : Sel 2 L0 L1 []
theorem Sel.eq {c : Nat} {L0 L1 Lc : List HP} (h : Sel c L0 L1 Lc) : selN c L0 L1 = Lc := by cases h <;> rfl
theorem SS.pick {c : Nat} (hsc : selC l s i = some c) : ∀ listed w, Closed .any l.toArray listed → listed.getD i true = false → SS x L0 L1 s listed w → SAT x.w0 x.O (selN c L0 L1) w := by
  intro listed w hc hl hSS
  unfold selC at hsc
  split at hsc
  · rename_i hw
    cases hsc
    exact hSS.2.1 (waits_listed hc hl 9 s.1 hw)
  · split at hsc
    · rename_i hb
      cases hsc
      exact hSS.2.2 (by rw [hb]; rfl)
    · split at hsc
      · rename_i hb _ hw2
        cases hsc
        exact hSS.2.2 (by rw [waits_listed hc hl 9 s.2 hw2, hb]; rfl)
      · cases hsc
        exact hSS.1
/-- A plain operation of the region, taken first. -/
theorem AJ.take {c : Nat} {Lc : List HP} (hk : AJ P x ((d, v) :: E) L L0 L1 s l fuel (i :: dl) k) (hnx : nextP false dl nums l = some (i, ⟨some d, op, ty, pos, aft, none⟩) := by rfl) (hi : nth l i = some ⟨some d, op, ty, pos, aft, none⟩ := by rfl)
 (hsc : selC l s i = some c := by rfl) (hse : Sel c L0 L1 Lc := by first | with_reducible exact Sel.z | with_reducible exact Sel.o | exact Sel.n) (hps : PS P x E Lc op ty v := by first | ((with_reducible apply iPload); first | exact PS.load | exact PS.loadA | exact PS.loadH | exact PS.loadE | exact PS.loadM | exact PS.loadEA | fail) | ((with_reducible apply iPmove); first | exact PS.move | fail) | ((with_reducible apply iPbinOp); first | exact PS.cmp | exact PS.inc | exact PS.ar | exact PS.arW | exact PS.rem | exact PS.quo | exact PS.xor | exact PS.eqA | exact PS.neA | exact PS.eqS | exact PS.neS | fail) | ((with_reducible apply iPindexAddr); first | exact PS.index | exact PS.indexZ | exact PS.indexM | fail) | ((with_reducible apply iPfieldAddr); first | exact PS.fieldB | exact PS.fieldP | exact PS.fieldE | fail) | ((with_reducible apply iPcall); first | exact PS.len | exact PS.lenS | exact PS.mn | exact PS.mx | fail) | ((with_reducible apply iPunOp); first | exact PS.notT | exact PS.notF | exact PS.not | exact PS.neg | exact PS.negW | fail) | ((with_reducible apply iPassign); first | exact PS.assign | fail) | ((with_reducible apply iPpick); first | exact PS.pickT | exact PS.pickF | fail) | ((with_reducible apply iPextract); first | exact PS.extract | fail) | ((with_reducible apply iPconvert); first | exact PS.convB | exact PS.conv | exact PS.convW | fail) | ((with_reducible apply iPnilCheck); first | exact PS.nilP | fail) | ((with_reducible apply iPbuild); first | exact PS.build | fail) | ((with_reducible apply iPslice); first | exact PS.sliceHN | exact PS.sliceLN | exact PS.sliceH | exact PS.sliceL | exact PS.sliceLH | fail) | ((with_reducible apply iPmakeFunc); first | exact PS.makeFunc | fail) | fail) (h4 : Nat.beq i s.1 = false := by rfl) (h5 : Nat.beq i s.2 = false := by rfl) (hd : Nat.blt d x.n = true := by rfl) : AJ P x E L L0 L1 s l (fuel + 1) dl k :=
  AJ.taken (o := ⟨some d, op, ty, pos, aft, none⟩) (T := SAT x.w0 x.O Lc) (by rw [← nth_eq]; exact hi) (nextP_spec hnx) h4 h5 hd (hse.eq ▸ SS.pick hsc) (fun a hE => .inl ⟨by simp [Region.wanted], fun w hw => hps.h a w _ _ _ _ hE hw⟩) hk
theorem AJ.takeY {j c : Nat} {b : Bool} {Lc : List HP} (hk : AJ P x ((d, v) :: E) L L0 L1 s l fuel (i :: dl) k) (hnx : nextP false dl nums l = some (i, ⟨some d, op, ty, pos, aft, some (j, b)⟩) := by rfl) (hi : nth l i = some ⟨some d, op, ty, pos, aft, some (j, b)⟩ := by rfl)
    (hg : gval l.toArray E j = some u := by rfl) (hu : u = .bool b := by with_reducible rfl)
 (hsc : selC l s i = some c := by rfl) (hse : Sel c L0 L1 Lc := by first | with_reducible exact Sel.z | with_reducible exact Sel.o | exact Sel.n) (hps : PS P x E Lc op ty v := by first | ((with_reducible apply iPload); first | exact PS.load | exact PS.loadA | exact PS.loadH | exact PS.loadE | exact PS.loadM | exact PS.loadEA | fail) | ((with_reducible apply iPmove); first | exact PS.move | fail) | ((with_reducible apply iPbinOp); first | exact PS.cmp | exact PS.inc | exact PS.ar | exact PS.arW | exact PS.rem | exact PS.quo | exact PS.xor | exact PS.eqA | exact PS.neA | exact PS.eqS | exact PS.neS | fail) | ((with_reducible apply iPindexAddr); first | exact PS.index | exact PS.indexZ | exact PS.indexM | fail) | ((with_reducible apply iPfieldAddr); first | exact PS.fieldB | exact PS.fieldP | exact PS.fieldE | fail) | ((with_reducible apply iPcall); first | exact PS.len | exact PS.lenS | exact PS.mn | exact PS.mx | fail) | ((with_reducible apply iPunOp); first | exact PS.notT | exact PS.notF | exact PS.not | exact PS.neg | exact PS.negW | fail) | ((with_reducible apply iPassign); first | exact PS.assign | fail) | ((with_reducible apply iPpick); first | exact PS.pickT | exact PS.pickF | fail) | ((with_reducible apply iPextract); first | exact PS.extract | fail) | ((with_reducible apply iPconvert); first | exact PS.convB | exact PS.conv | exact PS.convW | fail) | ((with_reducible apply iPnilCheck); first | exact PS.nilP | fail) | ((with_reducible apply iPbuild); first | exact PS.build | fail) | ((with_reducible apply iPslice); first | exact PS.sliceHN | exact PS.sliceLN | exact PS.sliceH | exact PS.sliceL | exact PS.sliceLH | fail) | ((with_reducible apply iPmakeFunc); first | exact PS.makeFunc | fail) | fail) (h4 : Nat.beq i s.1 = false := by rfl) (h5 : Nat.beq i s.2 = false := by rfl) (hd : Nat.blt d x.n = true := by rfl) : AJ P x E L L0 L1 s l (fuel + 1) dl k :=
  AJ.taken (o := ⟨some d, op, ty, pos, aft, some (j, b)⟩) (T := SAT x.w0 x.O Lc) (by rw [← nth_eq]; exact hi) (nextP_spec hnx) h4 h5 hd (hse.eq ▸ SS.pick hsc) (fun a hE => .inl ⟨by simp [Region.wanted, yielded_of hE (hu ▸ hg)], fun w hw => hps.h a w _ _ _ _ hE hw⟩) hk
theorem AJ.takeN {j : Nat} {b t : Bool} (hk : AJ P x ((d, undef) :: E) L L0 L1 s l fuel (i :: dl) k) (hnx : nextG dl nums l = some (i, ⟨some d, op, ty, pos, aft, some (j, b)⟩) := by rfl) (hi : nth l i = some ⟨some d, op, ty, pos, aft, some (j, b)⟩ := by rfl)
    (hg : gval l.toArray E j = some u := by rfl) (hu : u = .bool t := by with_reducible rfl) (hn : t = !b := by rfl) (h4 : Nat.beq i s.1 = false := by rfl) (h5 : Nat.beq i s.2 = false := by rfl) (hd : Nat.blt d x.n = true := by rfl) : AJ P x E L L0 L1 s l (fuel + 1) dl k :=
  AJ.taken (o := ⟨some d, op, ty, pos, aft, some (j, b)⟩) (T := fun _ => True) (by rw [← nth_eq]; exact hi) (nextG_spec hnx) h4 h5 hd (fun _ _ _ _ _ => trivial) (fun a hE => .inr ⟨by simp [Region.wanted, yielded_of hE (hu ▸ hg), hn], rfl⟩) hk
theorem AJ.takeNd {j : Nat} {b t : Bool} (hk : AJ P x E L L0 L1 s l fuel (i :: dl) k) (hnx : nextG dl nums l = some (i, ⟨none, op, ty, pos, aft, some (j, b)⟩) := by rfl) (hi : nth l i = some ⟨none, op, ty, pos, aft, some (j, b)⟩ := by rfl)
    (hg : gval l.toArray E j = some u := by rfl) (hu : u = .bool t := by with_reducible rfl) (hn : t = !b := by rfl) (h4 : Nat.beq i s.1 = false := by rfl) (h5 : Nat.beq i s.2 = false := by rfl) : AJ P x E L L0 L1 s l (fuel + 1) dl k :=
  AJ.taken (o := ⟨none, op, ty, pos, aft, some (j, b)⟩) (T := fun _ => True) (v := undef) (by rw [← nth_eq]; exact hi) (nextG_spec hnx) h4 h5 rfl (fun _ _ _ _ _ => trivial) (fun a hE => .inr ⟨by simp [Region.wanted, yielded_of hE (hu ▸ hg), hn], rfl⟩) hk
theorem AJ.takeU {d : Option Tmp} {j : Nat} {b : Bool} (hk : AJ P x (putE d undef E) L L0 L1 s l fuel (i :: dl) k) (hnx : nextG dl nums l = some (i, ⟨d, op, ty, pos, aft, some (j, b)⟩) := by rfl) (hi : nth l i = some ⟨d, op, ty, pos, aft, some (j, b)⟩ := by rfl)
    (hg : gval l.toArray E j = some u := by rfl) (hu : u = undef := by with_reducible rfl) (h4 : Nat.beq i s.1 = false := by rfl) (h5 : Nat.beq i s.2 = false := by rfl) (hd : okD x.n d = true := by rfl) : AJ P x E L L0 L1 s l (fuel + 1) dl k :=
  AJ.taken (o := ⟨d, op, ty, pos, aft, some (j, b)⟩) (T := fun _ => True) (v := undef) (by rw [← nth_eq]; exact hi) (nextG_spec hnx) h4 h5 hd (fun _ _ _ _ _ => trivial) (fun a hE => .inr ⟨by simp [Region.wanted, yielded_u hE (hu ▸ hg)], rfl⟩) hk
/-- Nothing acts any more. -/
theorem AJ.calm (h : AJ P x E L L L (1000, 1000) l fuel dl k) (he0 : Ent L L0) (he1 : Ent L L1) : AJ P x E L L0 L1 s l fuel dl k :=
  ⟨fun hst a w hE hS _ hc => wpAnyG_mono (S' := SS x L L (1000, 1000)) (fun _ _ h => ⟨h.1, fun _ => (h.2.2 rfl).ent he0, fun _ => (h.2.2 rfl).ent he1⟩) _ _ _ _ (h.h hst a w hE hS ⟨hS.ent Ent.nil, fun _ => hS, fun _ => hS⟩ hc)⟩
theorem AJ.takeNS {d : Option Tmp} {j : Nat} {b t : Bool} (hk : AJ P x (putE d undef E) L L L (1000, 1000) l fuel (i :: dl) k) (hnx : nextG dl nums l = some (i, ⟨d, op, ty, pos, aft, some (j, b)⟩) := by rfl) (hi : nth l i = some ⟨d, op, ty, pos, aft, some (j, b)⟩ := by rfl)
    (hg : gval l.toArray E j = some u := by rfl) (hu : u = .bool t := by with_reducible rfl) (hn : t = !b := by rfl) (_hs : Nat.beq i s.1 = true := by rfl) (h4 : Nat.beq i 1000 = false := by rfl) (he0 : Ent L L0 := by ((repeat (first | exact Ent.nil | ((with_reducible apply iERow); refine Ent.rowL ?_) | ((with_reducible apply iEBox); first | refine Ent.boxL ?_ | refine Ent.box2L ?_) | ((with_reducible apply iEBlk); refine Ent.blkS ?_) | refine Ent.any ?_ | with_reducible exact Ent.refl)); first | done | fail)) (he1 : Ent L L1 := by ((repeat (first | exact Ent.nil | ((with_reducible apply iERow); refine Ent.rowL ?_) | ((with_reducible apply iEBox); first | refine Ent.boxL ?_ | refine Ent.box2L ?_) | ((with_reducible apply iEBlk); refine Ent.blkS ?_) | refine Ent.any ?_ | with_reducible exact Ent.refl)); first | done | fail)) (hd : okD x.n d = true := by rfl) : AJ P x E L L0 L1 s l (fuel + 1) dl k :=
  AJ.calm (AJ.taken (o := ⟨d, op, ty, pos, aft, some (j, b)⟩) (T := fun _ => True) (by rw [← nth_eq]; exact hi) (nextG_spec hnx) h4 h4 hd (fun _ _ _ _ _ => trivial) (fun a hE => .inr ⟨by simp [Region.wanted, yielded_of hE (hu ▸ hg), hn], rfl⟩) hk) he0 he1
/-- A guard that is not decided. -/
theorem AJ.split {o : Oper} {j : Nat} {b' t : Bool} {p q : Prop} (h1 : p → AJ P x ((d, .bool true) :: E) L L0 L1 s l fuel dl k) (h2 : q → AJ P x ((d, .bool false) :: E) L L0 L1 s l fuel dl k)
    (_hn : nextG dl nums l = some (i, o) := by rfl) (_hg : o.guard = some (j, b') := by rfl) (hv : gval l.toArray E j = some (.bool t) := by rfl) (hd : gdst l.toArray j = some d := by rfl) (hb : BT t p q := by first | exact BT.dec | exact BT.beq | exact BT.bne | exact BT.not BT.dec | exact BT.not BT.beq | exact BT.not BT.bne | exact BT.not BT.any | exact BT.any | fail) (_hu : Und t := by ((fail_if_success (first | with_reducible exact Und.lt | with_reducible exact Und.lf)); exact Und.mk)) : AJ P x E L L0 L1 s l fuel dl k :=
  ⟨fun hst a w hE hS hSS hc => by
    have hl : lookup E d = some (.bool t) := by
      unfold gval at hv
      unfold gdst at hd
      cases ho : l.toArray[j]? with
      | none => rw [ho] at hv; cases hv
      | some o =>
        rw [ho] at hv hd
        simp only at hv hd
        rw [hd] at hv
        exact hv
    have hs : ∀ t', t = t' → EnvOK x.n x.ds ((d, .bool t') :: E) a := fun t' e => ⟨hE.size, hE.defers, fun s v hv => by
      simp only [lookup] at hv
      split at hv
      · rename_i hb
        injection hv with hv
        rw [← hv, Nat.eq_of_beq_eq_true hb, ← e]
        exact hE.get d _ hl
      · exact hE.get s v hv⟩
    cases ht : t with
    | true => exact (h1 (hb.yes ht)).h hst a w (hs true ht) hS hSS hc
    | false => exact (h2 (hb.no ht)).h hst a w (hs false ht) hS hSS hc⟩
/-- Number i is run: nothing but it can come up. -/
structure AO (P : Program) (x : Cx) (E : List (Nat × Value)) (L L0 L1 : List HP) (s : Nat × Nat) (l : List Oper) (fuel : Nat) (dl : List Nat) (k : List Fr) (i : Nat) (d : Option Tmp) (op : Op) (ty : TypeId) : Prop where
  h : ∃ K, AS P x E L op ty K ∧ ∀ v L2, K v L2 → (((Nat.beq i s.1 || mem s.1 dl) = false → Ent L2 L0) ∧ ((Nat.beq i s.2 || mem s.2 dl) = false → Ent L2 L1)) ∧ AJ P x (putE d v E) L2 L0 L1 s l fuel (i :: dl) k
theorem iAO {P : Program} {x : Cx} {E : List (Nat × Value)} {L L0 L1 : List HP} {s : Nat × Nat} {l : List Oper} {fuel : Nat} {dl : List Nat} {k : List Fr} {i : Nat} {d : Option Tmp} {ty : TypeId} {op : Op} (h : AO P x E L L0 L1 s l fuel dl k i d op ty) : AO P x E L L0 L1 s l fuel dl k i d op ty := h
theorem iAstore {P : Program} {x : Cx} {E : List (Nat × Value)} {L L0 L1 : List HP} {s : Nat × Nat} {l : List Oper} {fuel : Nat} {dl : List Nat} {k : List Fr} {i : Nat} {d : Option Tmp} {ty : TypeId} {a0 : TypeId} {a1 : Operand} {a2 : Operand} (h : AO P x E L L0 L1 s l fuel dl k i d (.store a0 a1 a2) ty) : AO P x E L L0 L1 s l fuel dl k i d (.store a0 a1 a2) ty := h
theorem iAcall {P : Program} {x : Cx} {E : List (Nat × Value)} {L L0 L1 : List HP} {s : Nat × Nat} {l : List Oper} {fuel : Nat} {dl : List Nat} {k : List Fr} {i : Nat} {d : Option Tmp} {ty : TypeId} {a0 : Call} (h : AO P x E L L0 L1 s l fuel dl k i d (.call a0) ty) : AO P x E L L0 L1 s l fuel dl k i d (.call a0) ty := h
theorem iAbox {P : Program} {x : Cx} {E : List (Nat × Value)} {L L0 L1 : List HP} {s : Nat × Nat} {l : List Oper} {fuel : Nat} {dl : List Nat} {k : List Fr} {i : Nat} {d : Option Tmp} {ty : TypeId} {a0 : TypeId} {a1 : Operand} (h : AO P x E L L0 L1 s l fuel dl k i d (.box a0 a1) ty) : AO P x E L L0 L1 s l fuel dl k i d (.box a0 a1) ty := h
theorem iAalloc {P : Program} {x : Cx} {E : List (Nat × Value)} {L L0 L1 : List HP} {s : Nat × Nat} {l : List Oper} {fuel : Nat} {dl : List Nat} {k : List Fr} {i : Nat} {d : Option Tmp} {ty : TypeId} {a0 : TypeId} (h : AO P x E L L0 L1 s l fuel dl k i d (.alloc a0) ty) : AO P x E L L0 L1 s l fuel dl k i d (.alloc a0) ty := h
theorem iAbuildSlice {P : Program} {x : Cx} {E : List (Nat × Value)} {L L0 L1 : List HP} {s : Nat × Nat} {l : List Oper} {fuel : Nat} {dl : List Nat} {k : List Fr} {i : Nat} {d : Option Tmp} {ty : TypeId} {a0 : TypeId} {a1 : Nat} {a2 : Array (Nat × Operand)} (h : AO P x E L L0 L1 s l fuel dl k i d (.buildSlice a0 a1 a2) ty) : AO P x E L L0 L1 s l fuel dl k i d (.buildSlice a0 a1 a2) ty := h
theorem iAmakeSlice {P : Program} {x : Cx} {E : List (Nat × Value)} {L L0 L1 : List HP} {s : Nat × Nat} {l : List Oper} {fuel : Nat} {dl : List Nat} {k : List Fr} {i : Nat} {d : Option Tmp} {ty : TypeId} {a0 : TypeId} {a1 : Operand} {a2 : Operand} (h : AO P x E L L0 L1 s l fuel dl k i d (.makeSlice a0 a1 a2) ty) : AO P x E L L0 L1 s l fuel dl k i d (.makeSlice a0 a1 a2) ty := h
theorem AO.as {d : Option Tmp} {K : Value → List HP → Prop} (h : AS P x E L op ty K)
    (hk : ∀ v L2, K v L2 → (((Nat.beq i s.1 || mem s.1 dl) = false → Ent L2 L0) ∧ ((Nat.beq i s.2 || mem s.2 dl) = false → Ent L2 L1)) ∧ AJ P x (putE d v E) L2 L0 L1 s l fuel (i :: dl) k) : AO P x E L L0 L1 s l fuel dl k i d op ty := ⟨K, h, hk⟩
theorem AO.step {d : Option Tmp} {L2 : List HP} (hk : AJ P x (putE d v E) L2 L0 L1 s l fuel (i :: dl) k) (he0 : (Nat.beq i s.1 || mem s.1 dl) = false → Ent L2 L0 := by first | (intro e; exact absurd e (by decide)) | (intro _; ((repeat (first | exact Ent.nil | ((with_reducible apply iERow); refine Ent.rowS ?_) | ((with_reducible apply iEBox); first | refine Ent.boxS ?_ | refine Ent.box2S ?_) | ((with_reducible apply iEBlk); refine Ent.blkS ?_) | refine Ent.any ?_ | with_reducible exact Ent.refl)); first | done | fail)) | fail) (he1 : (Nat.beq i s.2 || mem s.2 dl) = false → Ent L2 L1 := by first | (intro e; exact absurd e (by decide)) | (intro _; ((repeat (first | exact Ent.nil | ((with_reducible apply iERow); refine Ent.rowS ?_) | ((with_reducible apply iEBox); first | refine Ent.boxS ?_ | refine Ent.box2S ?_) | ((with_reducible apply iEBlk); refine Ent.blkS ?_) | refine Ent.any ?_ | with_reducible exact Ent.refl)); first | done | fail)) | fail) :
    (((Nat.beq i s.1 || mem s.1 dl) = false → Ent L2 L0) ∧ ((Nat.beq i s.2 || mem s.2 dl) = false → Ent L2 L1)) ∧ AJ P x (putE d v E) L2 L0 L1 s l fuel (i :: dl) k := ⟨⟨he0, he1⟩, hk⟩
/-- What the rules ask of number i that is run. -/
def okS (l : List Oper) (dl : List Nat) (i : Nat) (s : Nat × Nat) : Bool := (Nat.blt s.1 l.length || !(mem s.1 dl)) && ((Nat.blt s.2 l.length || !(mem s.2 dl)) && (!(mem 1000 dl) && !(Nat.beq i 1000)))
theorem not_yet {s i : Nat} {listed : Array Bool} (hsz : listed = marks l.length dl) (hi : i < l.length) (hsm : (Nat.blt s l.length || !(mem s dl)) = true) (hs : (listed.setIfInBounds i true).getD s true = false) : (Nat.beq i s || mem s dl) = false := by
  subst hsz
  cases hb : Nat.beq i s with
  | false =>
    rw [Bool.false_or]
    cases hmm : mem s dl with
    | false => rfl
    | true =>
      rw [hmm] at hsm
      simp at hsm
      have h1 := mem_marks hsm dl hmm
      have h2 := getD_set_true (i := i) h1
      rw [getD_both hs] at h2
      cases h2
  | true =>
    rw [← Nat.eq_of_beq_eq_true hb] at hs
    have hlt : i < (marks l.length dl).size := by rw [marks_size]; exact hi
    simp [hlt] at hs
theorem ss_run {L2 : List HP} {w' : World} (hi : i < l.length) (hsm : okS l dl i s = true) (hS' : SAT x.w0 x.O L2 w') (he0 : (Nat.beq i s.1 || mem s.1 dl) = false → Ent L2 L0) (he1 : (Nat.beq i s.2 || mem s.2 dl) = false → Ent L2 L1) : SS x L0 L1 s ((marks l.length dl).setIfInBounds i true) w' := by
  simp only [okS, Bool.and_eq_true, Bool.not_eq_true'] at hsm
  obtain ⟨h1, h2, h4, h3⟩ := hsm
  refine ⟨hS'.ent Ent.nil, fun hs => hS'.ent (he0 (not_yet rfl hi h1 hs)), fun hs => hS'.ent (he1 ?_)⟩
  simp only [Bool.or_eq_true, Bool.not_eq_true'] at hs
  rcases hs with hs | hs
  · rw [Nat.eq_of_beq_eq_true hs, h3, h4]
    rfl
  · exact not_yet rfl hi h2 hs
theorem AJ.act0 {d : Option Tmp} {g : Option (Nat × Bool)} (h : AO P x E L L0 L1 s l fuel dl k i d op ty) (hi0 : nth l i = some ⟨d, op, ty, pos, aft, g⟩) (hma : mem i dl = false ∧ allIn aft.toList dl = true) (hr : readyL dl nums l = [i])
    (hg : ∀ a, EnvOK x.n x.ds E a → Region.wanted ⟨d, op, ty, pos, aft, g⟩ (yielded l.toArray a.tmps) = true) (hd : okD x.n d = true) (hsm : okS l dl i s = true) : AJ P x E L L0 L1 s l (fuel + 1) dl k :=
  ⟨fun hst a w hE hS hSS hc => by
    obtain ⟨K, hA, hk⟩ := h.h
    have hi : l.toArray[i]? = some ⟨d, op, ty, pos, aft, g⟩ := by rw [nth_eq] at hi0; simpa using hi0
    refine ⟨fun h0 => (by have := ready_of hst (by simpa using hi) hma.1 hma.2; rw [h0] at this; cases this), fun j hj => ?_⟩
    have hri := hj
    have hj := ready_sub hst hj
    rw [hr] at hj
    have hji : j = i := by simpa using hj
    subst hji
    unfold wpW
    simp only [hi]
    rw [if_pos (hg a hE)]
    refine hA.h a w _ _ _ _ _ _ hE hS fun v L2 w' hv hS' => ?_
    obtain ⟨⟨he0, he1⟩, hA⟩ := hk v L2 hv
    have hss : SS x L0 L1 s ((marks l.length dl).setIfInBounds j true) w' := ss_run (by simpa using (Array.getElem?_eq_some_iff.1 hi).1) hsm hS' he0 he1
    exact ⟨hss, hA.h hst _ w' (hE.put hd) hS' hss (hc.set hri)⟩⟩
theorem AJ.sel {d : Option Tmp} (h : AO P x E L L0 L1 s l fuel dl k i d op ty)
    (hnx : nextP true dl nums l = some (i, ⟨d, op, ty, pos, aft, none⟩) := by rfl) (hi0 : nth l i = some ⟨d, op, ty, pos, aft, none⟩ := by rfl) (hr : readyL dl nums l = [i] := by decide +kernel) (hd : okD x.n d = true := by rfl) (hsm : okS l dl i s = true := by decide +kernel) : AJ P x E L L0 L1 s l (fuel + 1) dl k :=
  AJ.act0 h hi0 (nextP_spec hnx) hr (fun _ _ => by simp [Region.wanted]) hd hsm
theorem AJ.selY {j0 : Nat} {b0 : Bool} {d : Option Tmp} (h : AO P x E L L0 L1 s l fuel dl k i d op ty)
    (hnx : nextP true dl nums l = some (i, ⟨d, op, ty, pos, aft, some (j0, b0)⟩) := by rfl) (hi0 : nth l i = some ⟨d, op, ty, pos, aft, some (j0, b0)⟩ := by rfl) (hg : gval l.toArray E j0 = some u := by rfl) (hu : u = .bool b0 := by with_reducible rfl)
    (hr : readyL dl nums l = [i] := by decide +kernel) (hd : okD x.n d = true := by rfl) (hsm : okS l dl i s = true := by decide +kernel) : AJ P x E L L0 L1 s l (fuel + 1) dl k :=
  AJ.act0 h hi0 (nextP_spec hnx) hr (fun _ hE => by simp [Region.wanted, yielded_of hE (hu ▸ hg)]) hd hsm
/-- Behind an effect: what is owned now is known up to the next one. -/
theorem AJ.rebase {s e s' e' : Nat} {L1' : List HP} (h : AJ P x E L L L1' (s', e') l fuel dl k) (hm : mem s dl = true := by rfl) (_hs : nextEff dl nums l = some s' := by rfl) (_he : effEnd dl l s' = some e' := by rfl) (hL : KeepIf (effKind l s') L L1' := by first | exact KeepIf.k0 | exact KeepIf.k2 | (apply KeepIf.k1; (repeat (first | exact Keep.nil | apply Keep.blk | apply Keep.row | apply Keep.drop)); done) | fail)
    (h1 : L1 = [] ∨ (Nat.beq e s' = true ∧ Nat.beq e 1000 = false ∧ Ent L L1) ∨ (Nat.beq e' 1000 = true ∧ Ent L1' L1) := by first | exact .inl rfl | exact .inr (.inl ⟨rfl, rfl, by ((repeat (first | exact Ent.nil | ((with_reducible apply iERow); refine Ent.rowS ?_) | ((with_reducible apply iEBox); first | refine Ent.boxS ?_ | refine Ent.box2S ?_) | ((with_reducible apply iEBlk); refine Ent.blkS ?_) | refine Ent.any ?_ | with_reducible exact Ent.refl)); first | done | fail)⟩) | exact .inr (.inr ⟨rfl, by ((repeat (first | exact Ent.nil | ((with_reducible apply iERow); refine Ent.rowS ?_) | ((with_reducible apply iEBox); first | refine Ent.boxS ?_ | refine Ent.box2S ?_) | ((with_reducible apply iEBlk); refine Ent.blkS ?_) | refine Ent.any ?_ | with_reducible exact Ent.refl)); first | done | fail)⟩) | fail) (hlt : Nat.blt s l.length = true := by rfl) : AJ P x E L L0 L1 (s, e) l fuel dl k :=
  ⟨fun hst a w hE hS hSS hc => by
    have hlt' : s < l.length := by simpa [Nat.blt_eq] using hlt
    refine wpAnyG_mono' (S' := SS x L L1' (s', e')) (s := s) (fun listed w hl h => ⟨h.1, fun h0 => ?_, fun h0 => ?_⟩) _ _ _ _ (mem_marks hlt' dl hm) (h.h hst a w hE hS ⟨hS.ent Ent.nil, fun _ => hS, fun _ => hS.ent hL.h⟩ hc)
    · rw [getD_both h0] at hl
      cases hl
    · rcases h1 with rfl | ⟨h1, h2, h3⟩ | ⟨h1, h2⟩
      · exact h.1
      rotate_left
      · exact (h.2.2 (by show (Nat.beq e' 1000 || _) = true; rw [h1]; rfl)).ent h2
      · rw [h2, Bool.false_or, Nat.eq_of_beq_eq_true h1] at h0
        exact (h.2.1 (by simpa using h0)).ent h3⟩
/-- Not alike as they stand (a mark alone). -/
inductive NeL (L L' : List HP) : Prop
  | mk : NeL L L'
theorem NeL.same : NeL L L := .mk
/-- What has been made since is known, too. -/
theorem AJ.regain {s e : Nat} {L1' : List HP} (h : AJ P x E L L L1' (s, e) l fuel dl k) (_hm : mem s dl = false := by rfl) (_hn : NeL L L0 := by ((fail_if_success (with_reducible exact NeL.same)); exact NeL.mk)) (hL : KeepIf (effKind l s) L L1' := by first | exact KeepIf.k0 | exact KeepIf.k2 | (apply KeepIf.k1; (repeat (first | exact Keep.nil | apply Keep.blk | apply Keep.row | apply Keep.drop)); done) | fail) (h0 : Ent L L0 := by ((repeat (first | exact Ent.nil | ((with_reducible apply iERow); refine Ent.rowS ?_) | ((with_reducible apply iEBox); first | refine Ent.boxS ?_ | refine Ent.box2S ?_) | ((with_reducible apply iEBlk); refine Ent.blkS ?_) | refine Ent.any ?_ | with_reducible exact Ent.refl)); first | done | fail)) (h1 : Ent L1' L1 := by ((repeat (first | exact Ent.nil | ((with_reducible apply iERow); refine Ent.rowS ?_) | ((with_reducible apply iEBox); first | refine Ent.boxS ?_ | refine Ent.box2S ?_) | ((with_reducible apply iEBlk); refine Ent.blkS ?_) | refine Ent.any ?_ | with_reducible exact Ent.refl)); first | done | fail)) : AJ P x E L L0 L1 (s, e) l fuel dl k :=
  ⟨fun hst a w hE hS _ hc => wpAnyG_mono (S' := SS x L L1' (s, e)) (fun _ _ h => ⟨h.1, fun q => (h.2.1 q).ent h0, fun q => (h.2.2 q).ent h1⟩) _ _ _ _ (h.h hst a w hE hS ⟨hS.ent Ent.nil, fun _ => hS, fun _ => hS.ent hL.h⟩ hc)⟩
/-- The second acting one that can come up. -/
def nextA (skip : Nat) (dl : List Nat) : List Nat → List Oper → Option (Nat × Oper)
  | i :: is, o :: l => match Nat.beq i skip with
    | true => nextA skip dl is l
    | false => match mem i dl with
      | true => nextA skip dl is l
      | false => match isAct o.op with
        | false => nextA skip dl is l
        | true => match allIn o.after.toList dl with
          | true => some (i, o)
          | false => nextA skip dl is l
  | _, _ => none
/-- Two that act, in either order. -/
theorem AJ.sel2 {d d' : Option Tmp} {j : Nat} {op' : Op} {ty' : TypeId} {pos' : String} {aft' : Array Edge} (h : AO P x E L L0 L1 s l fuel dl k i d op ty) (h' : AO P x E L L0 L1 s l fuel dl k j d' op' ty')
    (hnx : nextP true dl nums l = some (i, ⟨d, op, ty, pos, aft, none⟩) := by rfl) (_hn' : nextA i dl nums l = some (j, ⟨d', op', ty', pos', aft', none⟩) := by rfl) (hi0 : nth l i = some ⟨d, op, ty, pos, aft, none⟩ := by rfl) (hj0 : nth l j = some ⟨d', op', ty', pos', aft', none⟩ := by rfl)
    (hr : readyL dl nums l = [i, j] := by decide +kernel) (hd : okD x.n d = true := by rfl) (hd' : okD x.n d' = true := by rfl) (hsm : okS l dl i s = true := by decide +kernel) (hsm' : okS l dl j s = true := by decide +kernel) : AJ P x E L L0 L1 s l (fuel + 1) dl k := by
  have one : ∀ {i : Nat} {d : Option Tmp} {op : Op} {ty : TypeId} {pos : String} {aft : Array Edge}, AO P x E L L0 L1 s l fuel dl k i d op ty → nth l i = some ⟨d, op, ty, pos, aft, none⟩ → i ∈ Region.ready .any l.toArray (marks l.length dl) → okD x.n d = true → okS l dl i s = true → stat l = true →
      ∀ a w, EnvOK x.n x.ds E a → SAT x.w0 x.O L w → Closed .any l.toArray (marks l.length dl) → wpW P l.toArray (post P x k) i (fun a' w' => SS x L0 L1 s ((marks l.length dl).setIfInBounds i true) w' ∧ wpAnyG P .any l.toArray (post P x k) (SS x L0 L1 s) fuel ((marks l.length dl).setIfInBounds i true) a' w') a w := by
    intro i d op ty pos aft h hi0 hri hd hsm hst a w hE hS hc
    obtain ⟨K, hA, hk⟩ := h.h
    have hi : l.toArray[i]? = some ⟨d, op, ty, pos, aft, none⟩ := by rw [nth_eq] at hi0; simpa using hi0
    unfold wpW
    simp only [hi]
    rw [if_pos (by simp [Region.wanted])]
    refine hA.h a w _ _ _ _ _ _ hE hS fun v L2 w' hv hS' => ?_
    obtain ⟨⟨he0, he1⟩, hA⟩ := hk v L2 hv
    have hss : SS x L0 L1 s ((marks l.length dl).setIfInBounds i true) w' := ss_run (by simpa using (Array.getElem?_eq_some_iff.1 hi).1) hsm hS' he0 he1
    exact ⟨hss, hA.h hst _ w' (hE.put hd) hS' hss (hc.set hri)⟩
  refine ⟨fun hst a w hE hS hSS hc => ⟨fun h0 => (by have := ready_of hst (i := i) (by rw [← nth_eq]; exact hi0) (nextP_spec hnx).1 (nextP_spec hnx).2; rw [h0] at this; cases this), fun i0 hi0' => ?_⟩⟩
  have hm := ready_sub hst hi0'
  rw [hr] at hm
  simp only [List.mem_cons, List.not_mem_nil, or_false] at hm
  rcases hm with rfl | rfl
  · exact one h hi0 hi0' hd hsm hst a w hE hS hc
  · exact one h' hj0 hi0' hd' hsm' hst a w hE hS hc
/-! ### loops -/
theorem J.loopI {c : Code} {ι : Type} (Inv : ι → Prop) (μ : ι → Nat) (E' : ι → List (Nat × Value)) (L' : ι → List HP) (i : ι) (hi : Inv i)
    (hs : ∀ i, Inv i → (∀ j, Inv j → μ j < μ i → JL P x (E' j) (L' j) c k) → J P x (E' i) (L' i) c (.loop c :: k)) (hE : sub (E' i) E := by repeat (first | exact sub.nil | refine sub.cons (by rfl) ?_)) (hL : Ent L (L' i) := by ((repeat (first | exact Ent.nil | ((with_reducible apply iERow); refine Ent.rowL ?_) | ((with_reducible apply iEBox); first | refine Ent.boxL ?_ | refine Ent.box2L ?_) | ((with_reducible apply iEBlk); refine Ent.blkS ?_) | refine Ent.any ?_ | with_reducible exact Ent.refl)); first | done | fail)) : J P x E L (.loop c) k := by
  have key : ∀ m i, μ i = m → Inv i → JL P x (E' i) (L' i) c k := by
    intro m
    induction m using Nat.strongRecOn with
    | _ m ih => exact fun i hm hi => JL.round (hs i hi fun j hj hlt => ih (μ j) (hm ▸ hlt) j rfl hj)
  exact J.loop (JL.ent hL (JL.weaken hE (key _ i rfl hi)))
theorem JL.use {c : Code} {E' : List (Nat × Value)} {L' : List HP} (h : JL P x E' L' c k) (hE : sub E' E := by repeat (first | exact sub.nil | refine sub.cons (by rfl) ?_)) (hL : Ent L L' := by ((repeat (first | exact Ent.nil | ((with_reducible apply iERow); refine Ent.rowL ?_) | ((with_reducible apply iEBox); first | refine Ent.boxL ?_ | refine Ent.box2L ?_) | ((with_reducible apply iEBlk); refine Ent.blkS ?_) | refine Ent.any ?_ | with_reducible exact Ent.refl)); first | done | fail)) : JL P x E L c k := JL.ent hL (JL.weaken hE h)
theorem J.retB {rs : List ResultVar} {b b' : Bool} (he : b = b') (hR : x.R = Ends x.w0 x.O (fun _ : Unit => Value.bool b') (fun _ => []) (fun _ => True) := by rfl) (hf : x.fn.results = rs.toArray := by rfl) (hv : resV E rs = some [.bool b] := by rfl) (hq : x.Q0 = bodyPost P x.fn x.R := by rfl) (hds : x.ds = [] := by rfl) : J P x E L .ret k := by
  subst he
  exact J.ret (vs := [.bool b]) (fun w hS => hR ▸ ends () trivial rfl Ent.nil w hS) hf hv hq hds
theorem JK.finB {rs : List ResultVar} {b b' : Bool} (he : b = b') (hR : x.R = Ends x.w0 x.O (fun _ : Unit => Value.bool b') (fun _ => []) (fun _ => True) := by rfl) (hf : x.fn.results = rs.toArray := by rfl) (hv : resV E rs = some [.bool b] := by rfl) (hq : x.Q0 = bodyPost P x.fn x.R := by rfl) (hds : x.ds = [] := by rfl) : JK P x E L [] := by
  subst he
  exact JK.fin (vs := [.bool b]) (fun w hS => hR ▸ ends () trivial rfl Ent.nil w hS) hf hv hq hds
theorem toNat1 (i : Nat) : ((i : Int) - 1).toNat = i - 1 := by omega
def allI (f : Nat → Bool) : Nat → Nat → Bool
  | 0, _ => true
  | m + 1, i => f i && allI f m (i + 1)
theorem allI_step {f : Nat → Bool} {n i : Nat} (h : i < n) : allI f (n - i) i = (f i && allI f (n - (i + 1)) (i + 1)) := by
  rw [show n - i = (n - (i + 1)) + 1 by omega]
  rfl
theorem allI_end {f : Nat → Bool} {n i : Nat} (h : n ≤ i) : allI f (n - i) i = true := by
  rw [show n - i = 0 by omega]
  rfl
theorem allI_on {f : Nat → Bool} {n i : Nat} {a r : Bool} (hm : a = (allI f (n - i) i && r)) (h : i < n) (hf : f i = true) : a = (allI f (n - (i + 1)) (i + 1) && r) := by rw [hm, allI_step h, hf, Bool.true_and]
theorem allI_off {f : Nat → Bool} {n i : Nat} {a r : Bool} (hm : a = (allI f (n - i) i && r)) (h : i < n) (hf : f i = false) : false = a := by rw [hm, allI_step h, hf, Bool.false_and, Bool.false_and]
theorem allI_fin {f : Nat → Bool} {n i : Nat} {a b r : Bool} (hm : a = (allI f (n - i) i && r)) (h : n ≤ i) (hf : b = r) : b = a := by rw [hm, allI_end h, hf, Bool.true_and]
/-! ### plain operations, whatever they are -/
theorem OJ.p {rest : List Oper} (hk : OJ P x ((d, v) :: E) L ops rest k) (h : PS P x E L op ty v := by first | ((with_reducible apply iPload); first | exact PS.load | exact PS.loadA | exact PS.loadH | exact PS.loadE | exact PS.loadM | exact PS.loadEA | fail) | ((with_reducible apply iPmove); first | exact PS.move | fail) | ((with_reducible apply iPbinOp); first | exact PS.cmp | exact PS.inc | exact PS.ar | exact PS.arW | exact PS.rem | exact PS.quo | exact PS.xor | exact PS.eqA | exact PS.neA | exact PS.eqS | exact PS.neS | fail) | ((with_reducible apply iPindexAddr); first | exact PS.index | exact PS.indexZ | exact PS.indexM | fail) | ((with_reducible apply iPfieldAddr); first | exact PS.fieldB | exact PS.fieldP | exact PS.fieldE | fail) | ((with_reducible apply iPcall); first | exact PS.len | exact PS.lenS | exact PS.mn | exact PS.mx | fail) | ((with_reducible apply iPunOp); first | exact PS.notT | exact PS.notF | exact PS.not | exact PS.neg | exact PS.negW | fail) | ((with_reducible apply iPassign); first | exact PS.assign | fail) | ((with_reducible apply iPpick); first | exact PS.pickT | exact PS.pickF | fail) | ((with_reducible apply iPextract); first | exact PS.extract | fail) | ((with_reducible apply iPconvert); first | exact PS.convB | exact PS.conv | exact PS.convW | fail) | ((with_reducible apply iPnilCheck); first | exact PS.nilP | fail) | ((with_reducible apply iPbuild); first | exact PS.build | fail) | ((with_reducible apply iPslice); first | exact PS.sliceHN | exact PS.sliceLN | exact PS.sliceH | exact PS.sliceL | exact PS.sliceLH | fail) | ((with_reducible apply iPmakeFunc); first | exact PS.makeFunc | fail) | fail) (hd : Nat.blt d x.n = true := by rfl) : OJ P x E L ops (⟨some d, op, ty, pos, aft, none⟩ :: rest) k := OJ.ps h hk hd
end
end Go.SL
