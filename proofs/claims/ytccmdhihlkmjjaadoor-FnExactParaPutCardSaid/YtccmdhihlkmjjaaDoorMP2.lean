/- Parts of the proof (joined by program). -/
import Derived.Test.YtccmdhihlkmjjaaDoorMP1
import Derived.OrdersHeld
import Derived.StillTail
import Derived.Laws.StructEq
import Derived.Laws.Slices
import Derived.Laws.MakeOwn
import Derived.RangeFuncRecord
/- Regions whose order is drawn; the rules with all side conditions found by themselves. -/
set_option linter.unusedVariables false
set_option linter.unusedSimpArgs false
namespace Go.SL
open Go.RowKit

section
variable {P : Program} {ops : Array Oper} {Q : Exit → Act → World → Prop} {md : Region.Mode}
/-- Whatever order is picked, S (which may hang on what has come up) holds behind every operation. -/
def wpAnyG (P : Program) (md : Region.Mode) (ops : Array Oper) (Q : Exit → Act → World → Prop) (S : Array Bool → World → Prop) : Nat → Array Bool → Act → World → Prop
  | 0, listed, a, w => Region.ready md ops listed = [] ∧ Q .normal a w
  | fuel + 1, listed, a, w =>
    (Region.ready md ops listed = [] → Q .normal a w) ∧
    ∀ i ∈ Region.ready md ops listed, wpW P ops Q i (fun a' w' => S (listed.setIfInBounds i true) w' ∧ wpAnyG P md ops Q S fuel (listed.setIfInBounds i true) a' w') a w
theorem wpAny_of_G {S : Array Bool → World → Prop} {ro : Option Nat} (hd : ro = none ∨ ∀ o ∈ ops, ∀ c, o.op ≠ .defer c) : ∀ (fuel : Nat) (listed : Array Bool) (a : Act) (w : World), wpAnyG P md ops Q S fuel listed a w → wpAnyIn (fen ro) 0 P md ops Q fuel listed a w
  | 0, _, _, _, h => h
  | fuel + 1, _, _, _, h => ⟨h.1, fun i hi => wpW_in hd (wpW_mono (fun a' w' h' => wpAny_of_G hd fuel _ a' w' h'.2) (h.2 i hi))⟩
theorem wpAnyG_mono' {S S' : Array Bool → World → Prop} {s : Nat} (hS : ∀ listed w, listed.getD s false = true → S' listed w → S listed w) : ∀ (fuel : Nat) (listed : Array Bool) (a : Act) (w : World), listed.getD s false = true → wpAnyG P md ops Q S' fuel listed a w → wpAnyG P md ops Q S fuel listed a w
  | 0, _, _, _, _, h => h
  | fuel + 1, _, _, _, hl, h => ⟨h.1, fun i hi => wpW_mono (fun a' w' h' => ⟨hS _ _ (getD_set_true hl) h'.1, wpAnyG_mono' hS fuel _ a' w' (getD_set_true hl) h'.2⟩) (h.2 i hi)⟩
theorem wpAnyG_mono {S S' : Array Bool → World → Prop} (hS : ∀ listed w, S' listed w → S listed w) : ∀ (fuel : Nat) (listed : Array Bool) (a : Act) (w : World), wpAnyG P md ops Q S' fuel listed a w → wpAnyG P md ops Q S fuel listed a w
  | 0, _, _, _, h => h
  | fuel + 1, _, _, _, h => ⟨h.1, fun i hi => wpW_mono (fun a' w' h' => ⟨hS _ _ h'.1, wpAnyG_mono hS fuel _ a' w' h'.2⟩) (h.2 i hi)⟩
theorem _root_.Go.YieldsIf.toW {T : World → Prop} {i : Nat} {oi : Oper} {v : Value} {a : Act} {w : World} {K : Act → World → Prop} (hy : YieldsIf P ops T oi v a) (hi : ops[i]? = some oi) (hT : T w) (hK : K (a.put oi.dst v) w) : wpW P ops Q i K a w := by
  have h := hy.wpOp (Q := Q) (K := K) hi hT hK
  unfold wpOp at h
  unfold wpW
  rw [hi] at h ⊢
  simp only at h ⊢
  split
  · rename_i hw
    rw [if_pos hw] at h
    rcases hy with ⟨h1, h2⟩ | ⟨h1, h2⟩
    · refine .inl ?_
      unfold Oper.wp
      rw [h2 w hT]
      exact hK
    · rw [h1] at hw; cases hw
  · rename_i hw
    rw [if_neg hw] at h
    exact h
theorem wpW_putIf {S : World → Prop} {j : Nat} {oi oj : Oper} {v : Value} (hj : ops[j]? = some oj) (hap : oi.apart ops oj = true) (hsi : ∀ cs b, oi.op ≠ .select cs b) (hsj : ∀ cs b, oj.op ≠ .select cs b)
    (hQ : ∀ c a w, Q (.panic c) (a.put oi.dst v) w → Q (.panic c) a w) {K : Act → World → Prop} {a : Act} {w : World} (hy : YieldsIf P ops S oi v a) (h : wpW P ops Q j K (a.put oi.dst v) w) :
    wpW P ops Q j (fun a' w' => YieldsIf P ops S oi v a' ∧ K (a'.put oi.dst v) w') a w := by
  obtain ⟨h1, h2, h3⟩ := Oper.apart_spec hap
  have keep : ∀ u, YieldsIf P ops S oi v (a.put oj.dst u) := fun u => hy.of_same (execOp_put oi hsi a oj.dst u h3) (wanted_put oi a oj.dst u h3)
  unfold wpW at *
  simp only [hj] at *
  rw [wanted_put oj a oi.dst v h1] at h
  split
  · rename_i hw
    rw [if_pos hw] at h
    rcases h with h | ⟨l, f, tmps, assign, body, w', e1, e2⟩
    · refine .inl ?_
      unfold Oper.wp at h ⊢
      rw [execOp_put oj hsj a oi.dst v h1] at h
      generalize (execOp a.eval oj).run P w = r at *
      cases r with
      | ok n w' =>
        cases n <;> simp only [Oper.upon] at h ⊢
        case value u => exact ⟨keep u, by rw [← Act.put_comm a v u h2]; exact h⟩
        case skip => exact ⟨keep _, by rw [← Act.put_comm a v undef h2]; exact h⟩
        case defer d =>
          refine ⟨(hy.of_same (a' := { a with defers := d :: a.defers }) rfl rfl).of_same (execOp_put oi hsi _ oj.dst undef h3) (wanted_put oi _ oj.dst undef h3), ?_⟩
          rw [← Act.put_comm _ v undef h2, ← Act.put_defers]
          exact h
        case enter f args =>
          refine Calls.mono h fun e w'' he => ?_
          cases e with
          | returned u => exact ⟨keep u, by rw [← Act.put_comm a v u h2]; exact he⟩
          | panicked c => exact hQ _ _ _ he
          | outgrown => exact he
        case row row args => exact Rows.mono h fun u w'' he => ⟨keep u, by rw [← Act.put_comm a v u h2]; exact he⟩
      | halt x w' =>
        cases x <;> simp only [Oper.upon] at h ⊢
        case panic u => exact hQ _ _ _ h
    · rw [execOp_put oj hsj a oi.dst v h1] at e1
      refine .inr ⟨l, f, tmps, assign, body, w', e1, RoundIn.mono e2 ?_⟩
      rintro e w'' ⟨u, rfl, hk⟩
      exact ⟨u, rfl, keep u, by rw [← Act.put_comm a v u h2]; exact hk⟩
  · rename_i hw
    rw [if_neg hw] at h
    exact ⟨keep _, by rw [← Act.put_comm a v undef h2]; exact h⟩
/-- What has come up is closed under what had to come ahead. -/
def Closed (md : Region.Mode) (ops : Array Oper) (listed : Array Bool) : Prop :=
  listed.size = ops.size ∧ ∀ j oj, ops[j]? = some oj → listed.getD j false = true → ∀ e ∈ oj.after, Region.binds md e = true → listed.getD e.on false = true
theorem Closed.set {listed : Array Bool} {i : Nat} (h : Closed md ops listed) (hi : i ∈ Region.ready md ops listed) : Closed md ops (listed.setIfInBounds i true) := by
  obtain ⟨_, oi, hoi, hall⟩ := mem_ready.1 hi
  refine ⟨by simp [h.1], fun j oj hj hl e he hb => ?_⟩
  by_cases hij : i = j
  · subst hij
    have : oj = oi := Option.some.inj (hj.symm.trans hoi)
    subst this
    exact getD_set_true (hall e he hb)
  · rw [getD_set_ne false hij] at hl
    exact getD_set_true (h.2 j oj hj hl e he hb)
theorem wpAnyG_first {S : Array Bool → World → Prop} {T : World → Prop} {i : Nat} {oi : Oper} {v : Value} (hi : ops[i]? = some oi) (hsel : ∀ (j : Nat) (o : Oper) cs b, ops[j]? = some o → o.op ≠ .select cs b)
    (hQ : ∀ c a w, Q (.panic c) (a.put oi.dst v) w → Q (.panic c) a w)
    (hT : ∀ listed w, Closed md ops listed → listed.getD i true = false → S listed w → T w) (hm : ∀ listed w, S listed w ↔ S (listed.setIfInBounds i true) w) :
    ∀ (fuel : Nat) (listed : Array Bool) (a : Act) (w : World), Closed md ops listed →
      (∀ j oj, ops[j]? = some oj → j ≠ i → listed.getD j true = false → (∀ e ∈ oj.after, Region.binds md e = true → e.on ≠ i) → oi.apart ops oj = true) →
      i ∈ Region.ready md ops listed → YieldsIf P ops T oi v a → S listed w →
      wpAnyG P md ops Q S fuel (listed.setIfInBounds i true) (a.put oi.dst v) w → wpAnyG P md ops Q S (fuel + 1) listed a w := by
  intro fuel
  induction fuel with
  | zero =>
    intro listed a w hc _ hr hy hS H
    refine ⟨fun h => (by rw [h] at hr; cases hr), fun j hj => ?_⟩
    by_cases hji : j = i
    · subst hji; exact hy.toW hi (hT _ _ hc (mem_ready.1 hr).1 hS) ⟨(hm _ _).1 hS, H⟩
    · have := ready_mono hj hji
      rw [H.1] at this
      cases this
  | succ fuel ih =>
    intro listed a w hc hfree hr hy hS H
    refine ⟨fun h => (by rw [h] at hr; cases hr), fun j hj => ?_⟩
    by_cases hji : j = i
    · subst hji; exact hy.toW hi (hT _ _ hc (mem_ready.1 hr).1 hS) ⟨(hm _ _).1 hS, H⟩
    · have h1 := H.2 j (ready_mono hj hji)
      obtain ⟨hjun, oj, hoj, hall⟩ := mem_ready.1 hj
      have hnot : ∀ e ∈ oj.after, Region.binds md e = true → e.on ≠ i := fun e he hb heq => by
        have h1 := hall e he hb
        have h0 := (mem_ready.1 hr).1
        rw [heq] at h1
        rcases Nat.lt_or_ge i listed.size with h' | h'
        · simp [h'] at h0 h1; rw [h0] at h1; cases h1
        · simp [Array.getElem?_eq_none h'] at h1
      have h2 := wpW_putIf hoj (hfree j oj hoj hji hjun hnot) (fun cs b => hsel i oi cs b hi) (fun cs b => hsel j oj cs b hoj) hQ hy h1
      have hri : i ∈ Region.ready md ops (listed.setIfInBounds j true) := ready_mono hr (fun e => hji e.symm)
      have hfree' : ∀ k ok, ops[k]? = some ok → k ≠ i → (listed.setIfInBounds j true).getD k true = false →
          (∀ e ∈ ok.after, Region.binds md e = true → e.on ≠ i) → oi.apart ops ok = true := fun k ok hk hki hun hno => by
        refine hfree k ok hk hki ?_ hno
        by_cases hjk : j = k
        · subst hjk; exact hjun
        · rw [getD_set_ne true hjk] at hun; exact hun
      refine wpW_mono (fun a' w' h3 => ?_) h2
      have hS' : S (listed.setIfInBounds j true) w' := (hm _ _).2 (by rw [Array.setIfInBounds_comm _ _ hji]; exact h3.2.1)
      refine ⟨hS', ih (listed.setIfInBounds j true) a' w' (hc.set hj) hfree' (ready_mono hr (Ne.symm hji)) h3.1 hS' ?_⟩
      rw [Array.setIfInBounds_comm _ _ hji]
      exact h3.2.2
end

/-! ### the judgement -/
/-- What the world is known to hold within a region: L0 as long as number s.1 has not come up, L1 as long as s.2 has not (all the while, if that is 1000). -/
def SS (x : Cx) (L0 L1 : List HP) (s : Nat × Nat) (listed : Array Bool) (w : World) : Prop := SAT x.w0 x.O [] w ∧ (listed.getD s.1 true = false → SAT x.w0 x.O L0 w) ∧ ((Nat.beq s.2 1000 || !(listed.getD s.2 true)) = true → SAT x.w0 x.O L1 w)
/-- Those that have come up, the last one first, as marks. -/
def marks (m : Nat) : List Nat → Array Bool
  | [] => Array.replicate m false
  | i :: dl => (marks m dl).setIfInBounds i true
/-! ### what is asked of a region once -/
def bindsA (e : Edge) : Bool :=
  match e.ground with
  | .textOnly _ => false
  | .gcOnly _ => false
  | _ => true
theorem bindsA_eq (e : Edge) : bindsA e = Region.binds .any e := by
  unfold bindsA Region.binds
  cases e.ground <;> rfl
def edgeTo (i : Nat) : List Edge → Bool
  | [] => false
  | e :: es => match Nat.beq e.on i with
    | true => (match bindsA e with
      | true => true
      | false => edgeTo i es)
    | false => edgeTo i es
def isDst (t : Nat) : Option Tmp → Bool
  | some d => Nat.beq d t
  | none => false
/-- Number t is given by no operation but by those that these edges name, and by number j. -/
def writersOk (t j : Nat) (es : List Edge) : Nat → List Oper → Bool
  | _, [] => true
  | i, o :: l => match isDst t o.dst with
    | false => writersOk t j es (i + 1) l
    | true => (Nat.beq i j || (edgeTo i es || edgeTo j o.after.toList)) && writersOk t j es (i + 1) l
def looksOk (l : List Oper) (j : Nat) (es : List Edge) : List Tmp → Bool
  | [] => true
  | t :: ts => writersOk t j es 0 l && looksOk l j es ts
def dstOnce (d j : Nat) : Nat → List Oper → Bool
  | _, [] => true
  | i, o :: l => match isDst d o.dst with
    | false => dstOnce d j (i + 1) l
    | true => Nat.beq i j && dstOnce d j (i + 1) l
def dstOk (l : List Oper) (j : Nat) : Option Tmp → Bool
  | none => true
  | some d => dstOnce d j 0 l
def edgesIn (n : Nat) : List Edge → Bool
  | [] => true
  | e :: es => Nat.blt e.on n && edgesIn n es
def pairsOk (l : List Oper) (n : Nat) : Nat → List Oper → Bool
  | _, [] => true
  | j, o :: r => (dstOk l j o.dst && (looksOk l j o.after.toList (o.looksAt l.toArray) && edgesIn n o.after.toList)) && pairsOk l n (j + 1) r
def stat (l : List Oper) : Bool := Region.noSelect l.toArray && (Nat.ble l.length 100 && pairsOk l l.length 0 l)
theorem edgeTo_no {i : Nat} : ∀ {es : List Edge}, (∀ e ∈ es, Region.binds .any e = true → e.on ≠ i) → edgeTo i es = false
  | [], _ => rfl
  | e :: es, h => by
    have ih := edgeTo_no (i := i) (es := es) (fun e' he => h e' (List.mem_cons_of_mem _ he))
    simp only [edgeTo]
    split
    · rename_i hb
      split
      · rename_i hq
        rw [bindsA_eq] at hq
        exact absurd (Nat.eq_of_beq_eq_true hb) (h e List.mem_cons_self hq)
      · exact ih
    · exact ih
theorem writersOk_at {t j : Nat} {es : List Edge} : ∀ {l : List Oper} {b k : Nat} {o : Oper}, writersOk t j es b l = true → l[k]? = some o → o.dst = some t → b + k = j ∨ edgeTo (b + k) es = true ∨ edgeTo j o.after.toList = true
  | [], _, _, _, _, h, _ => by simp at h
  | p :: l, b, 0, o, h, hk, hd => by
    simp only [List.getElem?_cons_zero, Option.some.injEq] at hk
    subst hk
    simp only [writersOk, hd, isDst, Nat.beq_refl, Bool.and_eq_true, Bool.or_eq_true] at h
    exact h.1.imp (fun e => Nat.eq_of_beq_eq_true e) fun e => e
  | p :: l, b, k + 1, o, h, hk, hd => by
    simp only [List.getElem?_cons_succ] at hk
    have h' : writersOk t j es (b + 1) l = true := by
      simp only [writersOk] at h
      split at h
      · exact h
      · simp only [Bool.and_eq_true] at h
        exact h.2
    have := writersOk_at h' hk hd
    rwa [show b + 1 + k = b + (k + 1) by omega] at this
theorem dstOnce_at {d j : Nat} : ∀ {l : List Oper} {b k : Nat} {o : Oper}, dstOnce d j b l = true → l[k]? = some o → o.dst = some d → b + k = j
  | [], _, _, _, _, h, _ => by simp at h
  | p :: l, b, 0, o, h, hk, hd => by
    simp only [List.getElem?_cons_zero, Option.some.injEq] at hk
    subst hk
    simp only [dstOnce, hd, isDst, Nat.beq_refl, Bool.and_eq_true] at h
    exact Nat.eq_of_beq_eq_true h.1
  | p :: l, b, k + 1, o, h, hk, hd => by
    simp only [List.getElem?_cons_succ] at hk
    have h' : dstOnce d j (b + 1) l = true := by
      simp only [dstOnce] at h
      split at h
      · exact h
      · simp only [Bool.and_eq_true] at h
        exact h.2
    have := dstOnce_at h' hk hd
    omega
theorem looksOk_at {l : List Oper} {j : Nat} {es : List Edge} {t : Tmp} : ∀ {ts : List Tmp}, looksOk l j es ts = true → t ∈ ts → writersOk t j es 0 l = true
  | [], _, h => by cases h
  | u :: ts, h, ht => by
    simp only [looksOk, Bool.and_eq_true] at h
    rcases List.mem_cons.1 ht with rfl | ht
    · exact h.1
    · exact looksOk_at h.2 ht
theorem pairsOk_at {l : List Oper} {n : Nat} : ∀ {r : List Oper} {b k : Nat} {o : Oper}, pairsOk l n b r = true → r[k]? = some o → dstOk l (b + k) o.dst = true ∧ looksOk l (b + k) o.after.toList (o.looksAt l.toArray) = true ∧ edgesIn n o.after.toList = true
  | [], _, _, _, _, h => by simp at h
  | p :: r, b, 0, o, h, hk => by
    simp only [List.getElem?_cons_zero, Option.some.injEq] at hk
    subst hk
    simp only [pairsOk, Bool.and_eq_true] at h
    exact ⟨h.1.1, h.1.2.1, h.1.2.2⟩
  | p :: r, b, k + 1, o, h, hk => by
    simp only [List.getElem?_cons_succ] at hk
    simp only [pairsOk, Bool.and_eq_true] at h
    have := pairsOk_at h.2 hk
    rwa [show b + 1 + k = b + (k + 1) by omega] at this
theorem edgesIn_at {n : Nat} : ∀ {es : List Edge} {e : Edge}, edgesIn n es = true → e ∈ es → e.on < n
  | [], _, _, h => by cases h
  | p :: es, e, h, he => by
    simp only [edgesIn, Bool.and_eq_true, Nat.blt_eq] at h
    rcases List.mem_cons.1 he with rfl | he
    · exact h.1
    · exact edgesIn_at h.2 he
theorem stat_apart {l : List Oper} {i j : Nat} {oi oj : Oper} (h : stat l = true) (hi : l[i]? = some oi) (hj : l[j]? = some oj) (hne : j ≠ i)
    (h1 : ∀ e ∈ oj.after, Region.binds .any e = true → e.on ≠ i) (h2 : ∀ e ∈ oi.after, Region.binds .any e = true → e.on ≠ j) : oi.apart l.toArray oj = true := by
  simp only [stat, Bool.and_eq_true] at h
  have hpi := pairsOk_at h.2.2 hi
  have hpj := pairsOk_at h.2.2 hj
  rw [Nat.zero_add] at hpi hpj
  have e1 : edgeTo i oj.after.toList = false := edgeTo_no fun e he => h1 e (by simpa using he)
  have e2 : edgeTo j oi.after.toList = false := edgeTo_no fun e he => h2 e (by simpa using he)
  unfold Oper.apart
  rw [Bool.and_eq_true]
  constructor
  · cases hd : oi.dst with
    | none => rfl
    | some d =>
      simp only [Bool.and_eq_true, Bool.not_eq_true', bne_iff_ne, ne_eq]
      constructor
      · cases hc : (oj.looksAt l.toArray).contains d with
        | false => rfl
        | true =>
          have := writersOk_at (looksOk_at hpj.2.1 (by simpa using hc)) hi hd
          rw [Nat.zero_add, e1, e2] at this
          exact absurd (this.resolve_right (by simp)) (Ne.symm hne)
      · intro he
        have h3 := hpj.1
        rw [he] at h3
        have := dstOnce_at h3 hi hd
        omega
  · cases hd : oj.dst with
    | none => rfl
    | some d =>
      simp only [Bool.not_eq_true']
      cases hc : (oi.looksAt l.toArray).contains d with
      | false => rfl
      | true =>
        have := writersOk_at (looksOk_at hpi.2.1 (by simpa using hc)) hj hd
        rw [Nat.zero_add, e1, e2] at this
        exact absurd (this.resolve_right (by simp)) hne
structure AJ (P : Program) (x : Cx) (E : List (Nat × Value)) (L L0 L1 : List HP) (s : Nat × Nat) (l : List Oper) (fuel : Nat) (dl : List Nat) (k : List Fr) : Prop where
  h : stat l = true → ∀ a w, EnvOK x.n x.ds E a → SAT x.w0 x.O L w → SS x L0 L1 s (marks l.length dl) w → Closed .any l.toArray (marks l.length dl) → wpAnyG P .any l.toArray (post P x k) (SS x L0 L1 s) fuel (marks l.length dl) a w
theorem iAJ {P : Program} {x : Cx} {E : List (Nat × Value)} {L L0 L1 : List HP} {s : Nat × Nat} {l : List Oper} {fuel : Nat} {dl : List Nat} {k : List Fr} (h : AJ P x E L L0 L1 s l fuel dl k) : AJ P x E L L0 L1 s l fuel dl k := h
def memN (i : Nat) : List Nat → Bool
  | [] => false
  | j :: l => match Nat.beq i j with
    | true => true
    | false => memN i l
/-- Functions that may write what is owned. -/
def effs : List Nat := [22, 27, 39, 60, 63, 102, 103]
def isEff : Op → Bool
  | .call { callee := .value (.func f), .. } => memN f effs
  | .call { callee := .value (.tmp _), .. } => true
  | .store .. | .mapUpdate .. | .insert .. | .entryStore .. | .mapEntry .. => true
  | .call { callee := .builtin .append, .. } => true
  | .call { callee := .builtin .copy, .. } => true
  | .call { callee := .builtin .clear, .. } => true
  | _ => false
def isAct : Op → Bool
  | .box .. | .alloc .. | .buildSlice .. | .makeSlice .. | .makeMap .. | .store .. | .mapUpdate .. | .insert .. | .entryStore .. | .mapEntry .. => true
  | .call { callee := .builtin .len, .. } => false
  | .call { callee := .builtin .cap, .. } => false
  | .call { callee := .builtin .max, .. } => false
  | .call { callee := .builtin .min, .. } => false
  | .call _ => true
  | _ => false
def nums : List Nat := [0, 1, 2, 3, 4, 5, 6, 7, 8, 9, 10, 11, 12, 13, 14, 15, 16, 17, 18, 19, 20, 21, 22, 23, 24, 25, 26, 27, 28, 29, 30, 31, 32, 33, 34, 35, 36, 37, 38, 39, 40, 41, 42, 43, 44, 45, 46, 47, 48, 49, 50, 51, 52, 53, 54, 55, 56, 57, 58, 59, 60, 61, 62, 63, 64, 65, 66, 67, 68, 69, 70, 71, 72, 73, 74, 75, 76, 77, 78, 79, 80, 81, 82, 83, 84, 85, 86, 87, 88, 89, 90, 91, 92, 93, 94, 95, 96, 97, 98, 99]
/-- The first effect's number (how many operations there are, if there is none). -/
def firstEff : List Nat → List Oper → Option Nat
  | i :: _, [] => some i
  | i :: is, o :: l => match isEff o.op with
    | true => some i
    | false => firstEff is l
  | [], _ => none
def countO : List Nat → List Oper → Option Nat
  | i :: _, [] => some i
  | _ :: is, _ :: l => countO is l
  | [], _ => none
def mem (i : Nat) : List Nat → Bool
  | [] => false
  | j :: l => match Nat.beq i j with
    | true => true
    | false => mem i l
def allIn : List Edge → List Nat → Bool
  | [], _ => true
  | e :: es, dl => match bindsA e with
    | true => match mem e.on dl with
      | true => allIn es dl
      | false => false
    | false => allIn es dl
/-- The next plain (b = false) operation that can come up, or the next that acts. -/
def nextP (b : Bool) (dl : List Nat) : List Nat → List Oper → Option (Nat × Oper)
  | i :: is, o :: l => match mem i dl with
    | true => nextP b dl is l
    | false => match Bool.xor b (isAct o.op) with
      | true => nextP b dl is l
      | false => match allIn o.after.toList dl with
        | true => some (i, o)
        | false => nextP b dl is l
  | _, _ => none
/-- The next guarded one. -/
def nextG (dl : List Nat) : List Nat → List Oper → Option (Nat × Oper)
  | i :: is, o :: l => match mem i dl with
    | true => nextG dl is l
    | false => match o.guard with
      | none => nextG dl is l
      | some _ => match allIn o.after.toList dl with
        | true => some (i, o)
        | false => nextG dl is l
  | _, _ => none
def selL (b : Bool) (L0 L1 : List HP) : List HP :=
  match b with
  | true => L0
  | false => L1
/-- Number s waits for number i. -/
def waitsAny (g : Nat → Bool) (i : Nat) : List Edge → Bool
  | [] => false
  | e :: es => match bindsA e with
    | false => waitsAny g i es
    | true => match Nat.beq e.on i with
      | true => true
      | false => match Nat.blt i e.on with
        | false => waitsAny g i es
        | true => match g e.on with
          | true => true
          | false => waitsAny g i es
theorem waitsAny_spec {g : Nat → Bool} {i : Nat} : ∀ {es : List Edge}, waitsAny g i es = true → ∃ e ∈ es, bindsA e = true ∧ (Nat.beq e.on i = true ∨ g e.on = true)
  | [], h => by cases h
  | e :: es, h => by
    have next : waitsAny g i es = true → ∃ e' ∈ e :: es, bindsA e' = true ∧ (Nat.beq e'.on i = true ∨ g e'.on = true) := fun h => by
      obtain ⟨e', h1, h2⟩ := waitsAny_spec h
      exact ⟨e', List.mem_cons_of_mem _ h1, h2⟩
    simp only [waitsAny] at h
    split at h
    · exact next h
    · rename_i hb
      split at h
      · rename_i hq
        exact ⟨e, List.mem_cons_self, hb, .inl hq⟩
      · split at h
        · exact next h
        · split at h
          · rename_i hg
            exact ⟨e, List.mem_cons_self, hb, .inr hg⟩
          · exact next h
def waits (l : List Oper) : Nat → Nat → Nat → Bool
  | 0, _, _ => false
  | f + 1, s, i => match nth l s with
    | some o => waitsAny (fun t => waits l f t i) i o.after.toList
    | none => false
theorem waits_listed {l : List Oper} {listed : Array Bool} {i : Nat} (hc : Closed .any l.toArray listed) (hi : listed.getD i true = false) : ∀ (f s : Nat), waits l f s i = true → listed.getD s true = false := by
  intro f
  induction f with
  | zero => intro s h; cases h
  | succ f ih =>
    intro s h
    unfold waits at h
    split at h
    · rename_i o ho
      rw [nth_eq] at ho
      have ho' : l.toArray[s]? = some o := by simpa using ho
      obtain ⟨e, he, hb⟩ := waitsAny_spec h
      rw [bindsA_eq] at hb
      have hlt : s < listed.size := by rw [hc.1]; exact (Array.getElem?_eq_some_iff.1 ho').1
      cases hs : listed.getD s false with
      | false => exact getD_in hlt hs
      | true =>
        have h1 := hc.2 s o ho' hs e (by simpa using he) hb.1
        rcases hb.2 with h2 | h2
        · rw [Nat.eq_of_beq_eq_true h2] at h1
          rw [getD_both hi] at h1
          cases h1
        · rw [getD_both (ih _ h2)] at h1
          cases h1
    · cases h
section
variable {P : Program} {x : Cx} {E : List (Nat × Value)} {L L0 L1 L2 : List HP} {k : List Fr} {ops : Array Oper} {l : List Oper} {s : Nat × Nat} {fuel i : Nat} {dl : List Nat} {v u : Value} {op : Op} {ty : TypeId} {d : Tmp} {pos : String} {aft : Array Edge}
class Wide (P : Program) : Prop where
  h : P.follows .mixedOrders = true
theorem J.drawAt (s : Nat × Nat) (L1 : List HP) [hW : Wide P] {id : Nat} (h : AJ P x E L L L1 s l l.length [] k) (he : Ent L L1) (hst : stat l = true) (hd : noDef x.ro l = true := by rfl) : J P x E L (.region id l.toArray true) k :=
  ⟨fun a w hE hS => by
    refine wpIn_region_any hW.h (wpAny_of_G (S := SS x L L1 s) ((noDef_spec hd).imp (fun e => e) fun h o ho => h o (by simpa using ho)) _ _ _ _ ?_)
    have hS' : SAT x.w0 x.O L { w with drawn := w.drawn + 1 } := hS.same rfl rfl rfl rfl
    have hsz : l.toArray.size = l.length := by simp
    rw [hsz]
    refine h.h hst a _ hE hS' ⟨hS'.ent Ent.nil, fun _ => hS', fun _ => hS'.ent he⟩ ⟨by simp [marks], fun j oj _ hl => ?_⟩
    exfalso
    have : (marks l.length []).getD j false = false := getD_replicate_false _ _
    rw [this] at hl
    cases hl⟩
theorem countO_eq : ∀ (l : List Oper) (is : List Nat) (b m : Nat), (∀ j i, is[j]? = some i → i = b + j) → countO is l = some m → m = b + l.length
  | [], [], _, _, _, h => by cases h
  | [], i :: is, b, m, hi, h => by
    have := hi 0 i rfl
    injection h with h
    simp only [List.length_nil]
    omega
  | _ :: _, [], _, _, _, h => by cases h
  | _ :: l, _ :: is, b, m, hi, h => by
    have := countO_eq l is (b + 1) m (fun j i hj => by have := hi (j + 1) i hj; omega) h
    simp only [List.length_cons]
    omega
theorem nums_get (j i : Nat) (h : nums[j]? = some i) : i = 0 + j := by
  have e : nums = List.range 100 := by decide +kernel
  rw [e] at h
  have := List.getElem?_eq_some_iff.1 h
  obtain ⟨h1, h2⟩ := this
  simp at h2
  omega
/-- The next effect, those that have come up left aside (1000: none). -/
def nextEff (dl : List Nat) : List Nat → List Oper → Option Nat
  | i :: is, o :: l => match mem i dl with
    | true => nextEff dl is l
    | false => match isEff o.op with
      | true => some i
      | false => nextEff dl is l
  | _, _ => some 1000
/-- Functions that turn nothing but a drawing's reader. -/
def rdrs : List Nat := [0]
def isRdr : Op → Bool
  | .call { callee := .value (.func f), .. } => memN f rdrs
  | _ => false
/-- 0: no effect, 1: a reader's, 2: another. -/
def effKind (l : List Oper) (s : Nat) : Nat :=
  match nth l s with
  | none => 0
  | some o => match isRdr o.op with
    | true => 1
    | false => 2
def effEnd (dl : List Nat) (l : List Oper) (s : Nat) : Option Nat :=
  match effKind l s with
  | 1 => nextEff (s :: dl) nums l
  | _ => some 1000
/-- What a reader's effect leaves. -/
structure Keep (L L' : List HP) : Prop where
  h : Ent L L'
theorem ent_cons {p : HP} {L L' : List HP} (h : Ent L L') : Ent (p :: L) (p :: L') := Ent.pick Pick.here h
theorem ent_drop {p : HP} {L L' : List HP} (h : Ent L L') : Ent (p :: L) L' := by
  obtain ⟨L1, h1⟩ := h.h
  refine ⟨p :: L1, fun g hg => ?_⟩
  obtain ⟨g1, g2, d, e, hp, hL⟩ := hg
  exact ⟨g1, g2, d, e, hp, h1 g2 hL⟩
theorem Keep.nil : Keep [] [] := ⟨Ent.nil⟩
theorem Keep.blk {b : Nat} {o : Obj} {L L' : List HP} (h : Keep L L') : Keep (SL.blk b o :: L) (SL.blk b o :: L') := ⟨ent_cons h.h⟩
theorem Keep.row {α : Type} {q : Enc α} {e : TypeId} {v : Value} {xs : List α} {L L' : List HP} (h : Keep L L') : Keep (SL.row q e v xs :: L) (SL.row q e v xs :: L') := ⟨ent_cons h.h⟩
theorem Keep.drop {p : HP} {L L' : List HP} (h : Keep L L') : Keep (p :: L) L' := ⟨ent_drop h.h⟩
structure KeepIf (c : Nat) (L L' : List HP) : Prop where
  h : Ent L L'
theorem KeepIf.k0 : KeepIf 0 L L := ⟨Ent.refl⟩
theorem KeepIf.k1 (h : Keep L L1) : KeepIf 1 L L1 := ⟨h.h⟩
theorem KeepIf.k2 : KeepIf 2 L [] := ⟨Ent.nil⟩
/-- The usual: what the region's first effect may turn is known up to it. -/
theorem J.draw [hW : Wide P] {id m s e : Nat} {Lx : List HP} (h : AJ P x E L L Lx (s, e) l m [] k) (hm : countO nums l = some m := by rfl) (_hs : nextEff [] nums l = some s := by rfl) (_he : effEnd [] l s = some e := by rfl) (hL : autoParam (KeepIf (effKind l s) L Lx) AKEEP.h._autoParam) (hst : stat l = true := by decide +kernel) (hd : noDef x.ro l = true := by rfl) : J P x E L (.region id l.toArray true) k := by
  have hm' := countO_eq l nums 0 m nums_get hm
  rw [Nat.zero_add] at hm'
  exact J.drawAt (s, e) Lx (by rw [← hm']; exact h) hL.h hst hd
theorem nextP_spec {b : Bool} {dl : List Nat} {i : Nat} {o : Oper} : ∀ {is : List Nat} {l : List Oper}, nextP b dl is l = some (i, o) → mem i dl = false ∧ allIn o.after.toList dl = true
  | [], _, h => by simp [nextP] at h
  | _ :: _, [], h => by simp [nextP] at h
  | k :: is, p :: l, h => by
    simp only [nextP] at h
    split at h
    · exact nextP_spec h
    · rename_i hm
      split at h
      · exact nextP_spec h
      · split at h
        · rename_i ha
          simp only [Option.some.injEq, Prod.mk.injEq] at h
          obtain ⟨rfl, rfl⟩ := h
          exact ⟨hm, ha⟩
        · exact nextP_spec h
theorem nextG_spec {dl : List Nat} {i : Nat} {o : Oper} : ∀ {is : List Nat} {l : List Oper}, nextG dl is l = some (i, o) → mem i dl = false ∧ allIn o.after.toList dl = true
  | [], _, h => by simp [nextG] at h
  | _ :: _, [], h => by simp [nextG] at h
  | k :: is, p :: l, h => by
    simp only [nextG] at h
    split at h
    · exact nextG_spec h
    · rename_i hm
      split at h
      · exact nextG_spec h
      · split at h
        · rename_i ha
          simp only [Option.some.injEq, Prod.mk.injEq] at h
          obtain ⟨rfl, rfl⟩ := h
          exact ⟨hm, ha⟩
        · exact nextG_spec h
theorem marks_size (m : Nat) : ∀ (dl : List Nat), (marks m dl).size = m
  | [] => by simp [marks]
  | _ :: dl => by simp [marks, marks_size m dl]
theorem mem_marks {m s : Nat} (hs : s < m) : ∀ (dl : List Nat), mem s dl = true → (marks m dl).getD s false = true
  | [], h => by cases h
  | i :: dl, h => by
    simp only [mem] at h
    split at h
    · rename_i hb
      have := Nat.eq_of_beq_eq_true hb
      subst this
      have hlt : s < (marks m dl).size := by rw [marks_size]; exact hs
      simp [marks, hlt]
    · exact getD_set_true (mem_marks hs dl h)
theorem marks_mem {m s : Nat} : ∀ (dl : List Nat), (marks m dl).getD s false = true → mem s dl = true
  | [], h => by rw [show marks m [] = Array.replicate m false from rfl, getD_replicate_false] at h; cases h
  | i :: dl, h => by
    simp only [mem]
    split
    · rfl
    · rename_i hb
      refine marks_mem (m := m) dl ?_
      rw [show marks m (i :: dl) = (marks m dl).setIfInBounds i true from rfl, getD_set_ne false (fun e => by rw [e, Nat.beq_refl] at hb; cases hb)] at h
      exact h
theorem allIn_at {dl : List Nat} : ∀ {es : List Edge} {e : Edge}, allIn es dl = true → e ∈ es → bindsA e = true → mem e.on dl = true
  | [], _, _, h, _ => by cases h
  | p :: es, e, h, he, hb => by
    simp only [allIn] at h
    rcases List.mem_cons.1 he with rfl | he
    · rw [hb] at h
      simp only at h
      split at h
      · assumption
      · cases h
    · refine allIn_at (es := es) ?_ he hb
      split at h
      · split at h
        · exact h
        · cases h
      · exact h
theorem allIn_of {dl : List Nat} : ∀ {es : List Edge}, (∀ e ∈ es, bindsA e = true → mem e.on dl = true) → allIn es dl = true
  | [], _ => rfl
  | p :: es, h => by
    have ih := allIn_of (dl := dl) (es := es) fun e he => h e (List.mem_cons_of_mem _ he)
    simp only [allIn]
    split
    · rename_i hb
      rw [h p List.mem_cons_self hb]
      exact ih
    · exact ih
theorem ready_of {i : Nat} {o : Oper} (hst : stat l = true) (hi : l[i]? = some o) (hm : mem i dl = false) (ha : allIn o.after.toList dl = true) : i ∈ Region.ready .any l.toArray (marks l.length dl) := by
  simp only [stat, Bool.and_eq_true] at hst
  have hp := (pairsOk_at hst.2.2 hi).2.2
  have hlt : i < l.length := (List.getElem?_eq_some_iff.1 hi).1
  refine mem_ready.2 ⟨?_, o, by simpa using hi, fun e he hb => ?_⟩
  · refine getD_in (by rw [marks_size]; exact hlt) ?_
    cases h : (marks l.length dl).getD i false with
    | false => rfl
    | true => rw [marks_mem dl h] at hm; cases hm
  · have he' : e ∈ o.after.toList := by simpa using he
    exact mem_marks (edgesIn_at hp he') dl (allIn_at ha he' (by rw [bindsA_eq]; exact hb))
/-- All that can come up. -/
def readyL (dl : List Nat) : List Nat → List Oper → List Nat
  | i :: is, o :: l => match mem i dl with
    | true => readyL dl is l
    | false => match allIn o.after.toList dl with
      | true => i :: readyL dl is l
      | false => readyL dl is l
  | _, _ => []
theorem readyL_at {dl : List Nat} : ∀ {l : List Oper} {is : List Nat} {b k : Nat} {o : Oper}, (∀ j, j < l.length → is[j]? = some (b + j)) → l[k]? = some o → mem (b + k) dl = false → allIn o.after.toList dl = true → b + k ∈ readyL dl is l
  | [], _, _, _, _, _, h, _, _ => by simp at h
  | p :: l, [], _, _, _, hi, _, _, _ => by have := hi 0 (by simp); simp at this
  | p :: l, i :: is, b, 0, o, hi, hk, hm, ha => by
    simp only [List.getElem?_cons_zero, Option.some.injEq] at hk
    subst hk
    have h0 := hi 0 (by simp)
    simp only [List.getElem?_cons_zero, Option.some.injEq] at h0
    subst h0
    have hm' : mem i dl = false := hm
    simp [readyL, hm', ha]
  | p :: l, i :: is, b, k + 1, o, hi, hk, hm, ha => by
    simp only [List.getElem?_cons_succ] at hk
    have h := readyL_at (l := l) (is := is) (b := b + 1) (k := k) (o := o) (dl := dl) (fun j hj => by
      have := hi (j + 1) (by simp; omega)
      simp only [List.getElem?_cons_succ] at this
      rw [this]; congr 1; omega) hk (by rw [show b + 1 + k = b + (k + 1) by omega]; exact hm) ha
    rw [show b + 1 + k = b + (k + 1) by omega] at h
    simp only [readyL]
    split
    · exact h
    · split
      · exact List.mem_cons_of_mem _ h
      · exact h
theorem nums_at {j : Nat} (h : j < 100) : nums[j]? = some (0 + j) := by
  have e : nums = List.range 100 := by decide +kernel
  rw [e, Nat.zero_add]
  simp [h]
theorem ready_sub {i : Nat} (hst : stat l = true) (h : i ∈ Region.ready .any l.toArray (marks l.length dl)) : i ∈ readyL dl nums l := by
  simp only [stat, Bool.and_eq_true] at hst
  have hn := Nat.le_of_ble_eq_true hst.2.1
  obtain ⟨h0, o, ho, hall⟩ := mem_ready.1 h
  have ho' : l[i]? = some o := by simpa using ho
  have := readyL_at (dl := dl) (is := nums) (b := 0) (k := i) (o := o) (l := l) (fun j hj => nums_at (by omega)) ho' (by
    rw [Nat.zero_add]
    cases hm : mem i dl with
    | false => rfl
    | true =>
      have hlt : i < l.length := (List.getElem?_eq_some_iff.1 ho').1
      have := mem_marks hlt dl hm
      rw [getD_both h0] at this
      cases this) (allIn_of fun e he hb => marks_mem dl (hall e (by simpa using he) (by rw [← bindsA_eq]; exact hb)))
  rwa [Nat.zero_add] at this
theorem ready_nil (hst : stat l = true) (h : readyL dl nums l = []) : Region.ready .any l.toArray (marks l.length dl) = [] :=
  List.eq_nil_iff_forall_not_mem.2 fun i hi => by
    have := ready_sub hst hi
    rw [h] at this
    cases this
theorem AJ.done (h : JK P x E L k) (hr : readyL dl nums l = [] := by decide +kernel) : AJ P x E L L0 L1 s l fuel dl k :=
  ⟨fun hst a w hE hS _ _ => by
    have hr := ready_nil hst hr
    cases fuel with
    | zero => exact ⟨hr, h.h a w hE hS⟩
    | succ n => exact ⟨fun _ => h.h a w hE hS, by rw [hr]; simp⟩⟩
theorem post_panic {c : List PanicEntry} {a : Act} {w : World} : ∀ {k : List Fr}, post P x k (.panic c) a w ↔ x.Q0 (.panic c) a w
  | [] => Iff.rfl
  | .code _ :: k => post_panic (k := k)
  | .loop _ :: k => post_panic (k := k)
  | .blk _ :: k => post_panic (k := k)
theorem post_panic_put (c : List PanicEntry) (a : Act) (w : World) (d : Option Tmp) (u : Value) (h : post P x k (.panic c) (a.put d u) w) : post P x k (.panic c) a w := by
  rw [post_panic] at h ⊢
  exact x.pan c a w d u h
theorem AJ.taken {o : Oper} {T : World → Prop} (hi : l[i]? = some o) (hma : mem i dl = false ∧ allIn o.after.toList dl = true) (h4 : Nat.beq i s.1 = false) (h5 : Nat.beq i s.2 = false) (hd : okD x.n o.dst = true)
    (hT : ∀ listed w, Closed .any l.toArray listed → listed.getD i true = false → SS x L0 L1 s listed w → T w) (hy : ∀ a, EnvOK x.n x.ds E a → YieldsIf P l.toArray T o v a) (hk : AJ P x (putE o.dst v E) L L0 L1 s l fuel (i :: dl) k) : AJ P x E L L0 L1 s l (fuel + 1) dl k := by
  have hne : i ≠ s.1 := fun e => by rw [← e, Nat.beq_refl] at h4; cases h4
  have hne2 : i ≠ s.2 := fun e => by rw [← e, Nat.beq_refl] at h5; cases h5
  refine ⟨fun hst a w hE hS hSS hc => ?_⟩
  have hm : ∀ listed w, SS x L0 L1 s listed w ↔ SS x L0 L1 s (listed.setIfInBounds i true) w := fun listed w => by
    unfold SS
    rw [getD_set_ne true hne, getD_set_ne true hne2]
  have hr : i ∈ Region.ready .any l.toArray (marks l.length dl) := ready_of hst hi hma.1 hma.2
  have hi' : l.toArray[i]? = some o := by simpa using hi
  have hns : Region.noSelect l.toArray = true := by
    simp only [stat, Bool.and_eq_true] at hst
    exact hst.1
  refine wpAnyG_first hi' (Region.noSelect_spec hns) (fun c a w => post_panic_put c a w _ _) hT hm fuel (marks l.length dl) a w hc (fun j oj hj hji hun hno => ?_) hr (hy a hE) hSS
    (hk.h hst _ w (hE.put hd) hS ((hm _ _).1 hSS) (hc.set hr))
  refine stat_apart hst hi (by simpa using hj) hji hno fun e he hb heq => ?_
  obtain ⟨_, o2, ho2, hall⟩ := mem_ready.1 hr
  have : o2 = o := Option.some.inj (ho2.symm.trans hi')
  subst this
  have := hall e he hb
  rw [heq, getD_both hun] at this
  cases this
/-- Which of the phases an operation sees: 0, 1, or none. -/
def selC (l : List Oper) (s : Nat × Nat) (i : Nat) : Option Nat := match waits l 9 s.1 i with
  | true => some 0
  | false => match Nat.beq s.2 1000 with
    | true => some 1
    | false => match waits l 9 s.2 i with
      | true => some 1
      | false => some 2
def selN (c : Nat) (L0 L1 : List HP) : List HP := match c with
  | 0 => L0
  | 1 => L1
  | _ => []
inductive Sel : Nat → List HP → List HP → List HP → Prop
  | z {L0 L1 : List HP} : Sel 0 L0 L1 L0
  | o {L0 L1 : List HP} : Sel 1 L0 L1 L1
  | n {L0 L1 : List HP} : Sel 2 L0 L1 []
theorem Sel.eq {c : Nat} {L0 L1 Lc : List HP} (h : Sel c L0 L1 Lc) : selN c L0 L1 = Lc := by cases h <;> rfl
theorem SS.pick {c : Nat} (hsc : selC l s i = some c) : ∀ listed w, Closed .any l.toArray listed → listed.getD i true = false → SS x L0 L1 s listed w → SAT x.w0 x.O (selN c L0 L1) w := by
  intro listed w hc hl hSS
  unfold selC at hsc
  split at hsc
  · rename_i hw
    cases hsc
    exact hSS.2.1 (waits_listed hc hl 9 s.1 hw)
  · split at hsc
    · rename_i hb
      cases hsc
      exact hSS.2.2 (by rw [hb]; rfl)
    · split at hsc
      · rename_i hb _ hw2
        cases hsc
        exact hSS.2.2 (by rw [waits_listed hc hl 9 s.2 hw2, hb]; rfl)
      · cases hsc
        exact hSS.1
/-- A plain operation of the region, taken first. -/
theorem AJ.take {c : Nat} {Lc : List HP} (hk : AJ P x ((d, v) :: E) L L0 L1 s l fuel (i :: dl) k) (hnx : nextP false dl nums l = some (i, ⟨some d, op, ty, pos, aft, none⟩) := by rfl) (hi : nth l i = some ⟨some d, op, ty, pos, aft, none⟩ := by rfl)
 (hsc : selC l s i = some c := by rfl) (hse : Sel c L0 L1 Lc := by first | with_reducible exact Sel.z | with_reducible exact Sel.o | exact Sel.n) (hps : autoParam (PS P x E Lc op ty v) APSA.h._autoParam) (h4 : Nat.beq i s.1 = false := by rfl) (h5 : Nat.beq i s.2 = false := by rfl) (hd : Nat.blt d x.n = true := by rfl) : AJ P x E L L0 L1 s l (fuel + 1) dl k :=
  AJ.taken (o := ⟨some d, op, ty, pos, aft, none⟩) (T := SAT x.w0 x.O Lc) (by rw [← nth_eq]; exact hi) (nextP_spec hnx) h4 h5 hd (hse.eq ▸ SS.pick hsc) (fun a hE => .inl ⟨by simp [Region.wanted], fun w hw => hps.h a w _ _ _ _ hE hw⟩) hk
theorem AJ.takeY {j c : Nat} {b : Bool} {Lc : List HP} (hk : AJ P x ((d, v) :: E) L L0 L1 s l fuel (i :: dl) k) (hnx : nextP false dl nums l = some (i, ⟨some d, op, ty, pos, aft, some (j, b)⟩) := by rfl) (hi : nth l i = some ⟨some d, op, ty, pos, aft, some (j, b)⟩ := by rfl)
    (hg : gval l.toArray E j = some u := by rfl) (hu : u = .bool b := by with_reducible rfl)
 (hsc : selC l s i = some c := by rfl) (hse : Sel c L0 L1 Lc := by first | with_reducible exact Sel.z | with_reducible exact Sel.o | exact Sel.n) (hps : autoParam (PS P x E Lc op ty v) APSA.h._autoParam) (h4 : Nat.beq i s.1 = false := by rfl) (h5 : Nat.beq i s.2 = false := by rfl) (hd : Nat.blt d x.n = true := by rfl) : AJ P x E L L0 L1 s l (fuel + 1) dl k :=
  AJ.taken (o := ⟨some d, op, ty, pos, aft, some (j, b)⟩) (T := SAT x.w0 x.O Lc) (by rw [← nth_eq]; exact hi) (nextP_spec hnx) h4 h5 hd (hse.eq ▸ SS.pick hsc) (fun a hE => .inl ⟨by simp [Region.wanted, yielded_of hE (hu ▸ hg)], fun w hw => hps.h a w _ _ _ _ hE hw⟩) hk
theorem AJ.takeN {j : Nat} {b t : Bool} (hk : AJ P x ((d, undef) :: E) L L0 L1 s l fuel (i :: dl) k) (hnx : nextG dl nums l = some (i, ⟨some d, op, ty, pos, aft, some (j, b)⟩) := by rfl) (hi : nth l i = some ⟨some d, op, ty, pos, aft, some (j, b)⟩ := by rfl)
    (hg : gval l.toArray E j = some u := by rfl) (hu : u = .bool t := by with_reducible rfl) (hn : t = !b := by rfl) (h4 : Nat.beq i s.1 = false := by rfl) (h5 : Nat.beq i s.2 = false := by rfl) (hd : Nat.blt d x.n = true := by rfl) : AJ P x E L L0 L1 s l (fuel + 1) dl k :=
  AJ.taken (o := ⟨some d, op, ty, pos, aft, some (j, b)⟩) (T := fun _ => True) (by rw [← nth_eq]; exact hi) (nextG_spec hnx) h4 h5 hd (fun _ _ _ _ _ => trivial) (fun a hE => .inr ⟨by simp [Region.wanted, yielded_of hE (hu ▸ hg), hn], rfl⟩) hk
theorem AJ.takeNd {j : Nat} {b t : Bool} (hk : AJ P x E L L0 L1 s l fuel (i :: dl) k) (hnx : nextG dl nums l = some (i, ⟨none, op, ty, pos, aft, some (j, b)⟩) := by rfl) (hi : nth l i = some ⟨none, op, ty, pos, aft, some (j, b)⟩ := by rfl)
    (hg : gval l.toArray E j = some u := by rfl) (hu : u = .bool t := by with_reducible rfl) (hn : t = !b := by rfl) (h4 : Nat.beq i s.1 = false := by rfl) (h5 : Nat.beq i s.2 = false := by rfl) : AJ P x E L L0 L1 s l (fuel + 1) dl k :=
  AJ.taken (o := ⟨none, op, ty, pos, aft, some (j, b)⟩) (T := fun _ => True) (v := undef) (by rw [← nth_eq]; exact hi) (nextG_spec hnx) h4 h5 rfl (fun _ _ _ _ _ => trivial) (fun a hE => .inr ⟨by simp [Region.wanted, yielded_of hE (hu ▸ hg), hn], rfl⟩) hk
theorem AJ.takeU {d : Option Tmp} {j : Nat} {b : Bool} (hk : AJ P x (putE d undef E) L L0 L1 s l fuel (i :: dl) k) (hnx : nextG dl nums l = some (i, ⟨d, op, ty, pos, aft, some (j, b)⟩) := by rfl) (hi : nth l i = some ⟨d, op, ty, pos, aft, some (j, b)⟩ := by rfl)
    (hg : gval l.toArray E j = some u := by rfl) (hu : u = undef := by with_reducible rfl) (h4 : Nat.beq i s.1 = false := by rfl) (h5 : Nat.beq i s.2 = false := by rfl) (hd : okD x.n d = true := by rfl) : AJ P x E L L0 L1 s l (fuel + 1) dl k :=
  AJ.taken (o := ⟨d, op, ty, pos, aft, some (j, b)⟩) (T := fun _ => True) (v := undef) (by rw [← nth_eq]; exact hi) (nextG_spec hnx) h4 h5 hd (fun _ _ _ _ _ => trivial) (fun a hE => .inr ⟨by simp [Region.wanted, yielded_u hE (hu ▸ hg)], rfl⟩) hk
/-- Nothing acts any more. -/
theorem AJ.calm (h : AJ P x E L L L (1000, 1000) l fuel dl k) (he0 : Ent L L0) (he1 : Ent L L1) : AJ P x E L L0 L1 s l fuel dl k :=
  ⟨fun hst a w hE hS _ hc => wpAnyG_mono (S' := SS x L L (1000, 1000)) (fun _ _ h => ⟨h.1, fun _ => (h.2.2 rfl).ent he0, fun _ => (h.2.2 rfl).ent he1⟩) _ _ _ _ (h.h hst a w hE hS ⟨hS.ent Ent.nil, fun _ => hS, fun _ => hS⟩ hc)⟩
theorem AJ.takeNS {d : Option Tmp} {j : Nat} {b t : Bool} (hk : AJ P x (putE d undef E) L L L (1000, 1000) l fuel (i :: dl) k) (hnx : nextG dl nums l = some (i, ⟨d, op, ty, pos, aft, some (j, b)⟩) := by rfl) (hi : nth l i = some ⟨d, op, ty, pos, aft, some (j, b)⟩ := by rfl)
    (hg : gval l.toArray E j = some u := by rfl) (hu : u = .bool t := by with_reducible rfl) (hn : t = !b := by rfl) (_hs : Nat.beq i s.1 = true := by rfl) (h4 : Nat.beq i 1000 = false := by rfl) (he0 : autoParam (Ent L L0) AENT.h._autoParam) (he1 : autoParam (Ent L L1) AENT.h._autoParam) (hd : okD x.n d = true := by rfl) : AJ P x E L L0 L1 s l (fuel + 1) dl k :=
  AJ.calm (AJ.taken (o := ⟨d, op, ty, pos, aft, some (j, b)⟩) (T := fun _ => True) (by rw [← nth_eq]; exact hi) (nextG_spec hnx) h4 h4 hd (fun _ _ _ _ _ => trivial) (fun a hE => .inr ⟨by simp [Region.wanted, yielded_of hE (hu ▸ hg), hn], rfl⟩) hk) he0 he1
/-- A guard that is not decided. -/
theorem AJ.split {o : Oper} {j : Nat} {b' t : Bool} {p q : Prop} (h1 : p → AJ P x ((d, .bool true) :: E) L L0 L1 s l fuel dl k) (h2 : q → AJ P x ((d, .bool false) :: E) L L0 L1 s l fuel dl k)
    (_hn : nextG dl nums l = some (i, o) := by rfl) (_hg : o.guard = some (j, b') := by rfl) (hv : gval l.toArray E j = some (.bool t) := by rfl) (hd : gdst l.toArray j = some d := by rfl) (hb : autoParam (BT t p q) ABT.h._autoParam) (_hu : autoParam (Und t) AUN.h._autoParam) : AJ P x E L L0 L1 s l fuel dl k :=
  ⟨fun hst a w hE hS hSS hc => by
    have hl : lookup E d = some (.bool t) := by
      unfold gval at hv
      unfold gdst at hd
      cases ho : l.toArray[j]? with
      | none => rw [ho] at hv; cases hv
      | some o =>
        rw [ho] at hv hd
        simp only at hv hd
        rw [hd] at hv
        exact hv
    have hs : ∀ t', t = t' → EnvOK x.n x.ds ((d, .bool t') :: E) a := fun t' e => ⟨hE.size, hE.defers, fun s v hv => by
      simp only [lookup] at hv
      split at hv
      · rename_i hb
        injection hv with hv
        rw [← hv, Nat.eq_of_beq_eq_true hb, ← e]
        exact hE.get d _ hl
      · exact hE.get s v hv⟩
    cases ht : t with
    | true => exact (h1 (hb.yes ht)).h hst a w (hs true ht) hS hSS hc
    | false => exact (h2 (hb.no ht)).h hst a w (hs false ht) hS hSS hc⟩
/-- Number i is run: nothing but it can come up. -/
structure AO (P : Program) (x : Cx) (E : List (Nat × Value)) (L L0 L1 : List HP) (s : Nat × Nat) (l : List Oper) (fuel : Nat) (dl : List Nat) (k : List Fr) (i : Nat) (d : Option Tmp) (op : Op) (ty : TypeId) : Prop where
  h : ∃ K, AS P x E L op ty K ∧ ∀ v L2, K v L2 → (((Nat.beq i s.1 || mem s.1 dl) = false → Ent L2 L0) ∧ ((Nat.beq i s.2 || mem s.2 dl) = false → Ent L2 L1)) ∧ AJ P x (putE d v E) L2 L0 L1 s l fuel (i :: dl) k
theorem iAO {P : Program} {x : Cx} {E : List (Nat × Value)} {L L0 L1 : List HP} {s : Nat × Nat} {l : List Oper} {fuel : Nat} {dl : List Nat} {k : List Fr} {i : Nat} {d : Option Tmp} {ty : TypeId} {op : Op} (h : AO P x E L L0 L1 s l fuel dl k i d op ty) : AO P x E L L0 L1 s l fuel dl k i d op ty := h
theorem iAstore {P : Program} {x : Cx} {E : List (Nat × Value)} {L L0 L1 : List HP} {s : Nat × Nat} {l : List Oper} {fuel : Nat} {dl : List Nat} {k : List Fr} {i : Nat} {d : Option Tmp} {ty : TypeId} {a0 : TypeId} {a1 : Operand} {a2 : Operand} (h : AO P x E L L0 L1 s l fuel dl k i d (.store a0 a1 a2) ty) : AO P x E L L0 L1 s l fuel dl k i d (.store a0 a1 a2) ty := h
theorem iAcall {P : Program} {x : Cx} {E : List (Nat × Value)} {L L0 L1 : List HP} {s : Nat × Nat} {l : List Oper} {fuel : Nat} {dl : List Nat} {k : List Fr} {i : Nat} {d : Option Tmp} {ty : TypeId} {a0 : Call} (h : AO P x E L L0 L1 s l fuel dl k i d (.call a0) ty) : AO P x E L L0 L1 s l fuel dl k i d (.call a0) ty := h
theorem iAbox {P : Program} {x : Cx} {E : List (Nat × Value)} {L L0 L1 : List HP} {s : Nat × Nat} {l : List Oper} {fuel : Nat} {dl : List Nat} {k : List Fr} {i : Nat} {d : Option Tmp} {ty : TypeId} {a0 : TypeId} {a1 : Operand} (h : AO P x E L L0 L1 s l fuel dl k i d (.box a0 a1) ty) : AO P x E L L0 L1 s l fuel dl k i d (.box a0 a1) ty := h
theorem iAalloc {P : Program} {x : Cx} {E : List (Nat × Value)} {L L0 L1 : List HP} {s : Nat × Nat} {l : List Oper} {fuel : Nat} {dl : List Nat} {k : List Fr} {i : Nat} {d : Option Tmp} {ty : TypeId} {a0 : TypeId} (h : AO P x E L L0 L1 s l fuel dl k i d (.alloc a0) ty) : AO P x E L L0 L1 s l fuel dl k i d (.alloc a0) ty := h
theorem iAbuildSlice {P : Program} {x : Cx} {E : List (Nat × Value)} {L L0 L1 : List HP} {s : Nat × Nat} {l : List Oper} {fuel : Nat} {dl : List Nat} {k : List Fr} {i : Nat} {d : Option Tmp} {ty : TypeId} {a0 : TypeId} {a1 : Nat} {a2 : Array (Nat × Operand)} (h : AO P x E L L0 L1 s l fuel dl k i d (.buildSlice a0 a1 a2) ty) : AO P x E L L0 L1 s l fuel dl k i d (.buildSlice a0 a1 a2) ty := h
theorem iAmakeSlice {P : Program} {x : Cx} {E : List (Nat × Value)} {L L0 L1 : List HP} {s : Nat × Nat} {l : List Oper} {fuel : Nat} {dl : List Nat} {k : List Fr} {i : Nat} {d : Option Tmp} {ty : TypeId} {a0 : TypeId} {a1 : Operand} {a2 : Operand} (h : AO P x E L L0 L1 s l fuel dl k i d (.makeSlice a0 a1 a2) ty) : AO P x E L L0 L1 s l fuel dl k i d (.makeSlice a0 a1 a2) ty := h
theorem AO.as {d : Option Tmp} {K : Value → List HP → Prop} (h : AS P x E L op ty K)
    (hk : ∀ v L2, K v L2 → (((Nat.beq i s.1 || mem s.1 dl) = false → Ent L2 L0) ∧ ((Nat.beq i s.2 || mem s.2 dl) = false → Ent L2 L1)) ∧ AJ P x (putE d v E) L2 L0 L1 s l fuel (i :: dl) k) : AO P x E L L0 L1 s l fuel dl k i d op ty := ⟨K, h, hk⟩
theorem AO.step {d : Option Tmp} {L2 : List HP} (hk : AJ P x (putE d v E) L2 L0 L1 s l fuel (i :: dl) k) (he0 : (Nat.beq i s.1 || mem s.1 dl) = false → Ent L2 L0 := by first | (intro e; exact absurd e (by decide)) | (intro _; exact xENTS) | fail) (he1 : (Nat.beq i s.2 || mem s.2 dl) = false → Ent L2 L1 := by first | (intro e; exact absurd e (by decide)) | (intro _; exact xENTS) | fail) :
    (((Nat.beq i s.1 || mem s.1 dl) = false → Ent L2 L0) ∧ ((Nat.beq i s.2 || mem s.2 dl) = false → Ent L2 L1)) ∧ AJ P x (putE d v E) L2 L0 L1 s l fuel (i :: dl) k := ⟨⟨he0, he1⟩, hk⟩
/-- What the rules ask of number i that is run. -/
def okS (l : List Oper) (dl : List Nat) (i : Nat) (s : Nat × Nat) : Bool := (Nat.blt s.1 l.length || !(mem s.1 dl)) && ((Nat.blt s.2 l.length || !(mem s.2 dl)) && (!(mem 1000 dl) && !(Nat.beq i 1000)))
theorem not_yet {s i : Nat} {listed : Array Bool} (hsz : listed = marks l.length dl) (hi : i < l.length) (hsm : (Nat.blt s l.length || !(mem s dl)) = true) (hs : (listed.setIfInBounds i true).getD s true = false) : (Nat.beq i s || mem s dl) = false := by
  subst hsz
  cases hb : Nat.beq i s with
  | false =>
    rw [Bool.false_or]
    cases hmm : mem s dl with
    | false => rfl
    | true =>
      rw [hmm] at hsm
      simp at hsm
      have h1 := mem_marks hsm dl hmm
      have h2 := getD_set_true (i := i) h1
      rw [getD_both hs] at h2
      cases h2
  | true =>
    rw [← Nat.eq_of_beq_eq_true hb] at hs
    have hlt : i < (marks l.length dl).size := by rw [marks_size]; exact hi
    simp [hlt] at hs
theorem ss_run {L2 : List HP} {w' : World} (hi : i < l.length) (hsm : okS l dl i s = true) (hS' : SAT x.w0 x.O L2 w') (he0 : (Nat.beq i s.1 || mem s.1 dl) = false → Ent L2 L0) (he1 : (Nat.beq i s.2 || mem s.2 dl) = false → Ent L2 L1) : SS x L0 L1 s ((marks l.length dl).setIfInBounds i true) w' := by
  simp only [okS, Bool.and_eq_true, Bool.not_eq_true'] at hsm
  obtain ⟨h1, h2, h4, h3⟩ := hsm
  refine ⟨hS'.ent Ent.nil, fun hs => hS'.ent (he0 (not_yet rfl hi h1 hs)), fun hs => hS'.ent (he1 ?_)⟩
  simp only [Bool.or_eq_true, Bool.not_eq_true'] at hs
  rcases hs with hs | hs
  · rw [Nat.eq_of_beq_eq_true hs, h3, h4]
    rfl
  · exact not_yet rfl hi h2 hs
theorem AJ.act0 {d : Option Tmp} {g : Option (Nat × Bool)} (h : AO P x E L L0 L1 s l fuel dl k i d op ty) (hi0 : nth l i = some ⟨d, op, ty, pos, aft, g⟩) (hma : mem i dl = false ∧ allIn aft.toList dl = true) (hr : readyL dl nums l = [i])
    (hg : ∀ a, EnvOK x.n x.ds E a → Region.wanted ⟨d, op, ty, pos, aft, g⟩ (yielded l.toArray a.tmps) = true) (hd : okD x.n d = true) (hsm : okS l dl i s = true) : AJ P x E L L0 L1 s l (fuel + 1) dl k :=
  ⟨fun hst a w hE hS hSS hc => by
    obtain ⟨K, hA, hk⟩ := h.h
    have hi : l.toArray[i]? = some ⟨d, op, ty, pos, aft, g⟩ := by rw [nth_eq] at hi0; simpa using hi0
    refine ⟨fun h0 => (by have := ready_of hst (by simpa using hi) hma.1 hma.2; rw [h0] at this; cases this), fun j hj => ?_⟩
    have hri := hj
    have hj := ready_sub hst hj
    rw [hr] at hj
    have hji : j = i := by simpa using hj
    subst hji
    unfold wpW
    simp only [hi]
    rw [if_pos (hg a hE)]
    refine hA.h a w _ _ _ _ _ _ hE hS fun v L2 w' hv hS' => ?_
    obtain ⟨⟨he0, he1⟩, hA⟩ := hk v L2 hv
    have hss : SS x L0 L1 s ((marks l.length dl).setIfInBounds j true) w' := ss_run (by simpa using (Array.getElem?_eq_some_iff.1 hi).1) hsm hS' he0 he1
    exact ⟨hss, hA.h hst _ w' (hE.put hd) hS' hss (hc.set hri)⟩⟩
theorem AJ.sel {d : Option Tmp} (h : AO P x E L L0 L1 s l fuel dl k i d op ty)
    (hnx : nextP true dl nums l = some (i, ⟨d, op, ty, pos, aft, none⟩) := by rfl) (hi0 : nth l i = some ⟨d, op, ty, pos, aft, none⟩ := by rfl) (hr : readyL dl nums l = [i] := by decide +kernel) (hd : okD x.n d = true := by rfl) (hsm : okS l dl i s = true := by decide +kernel) : AJ P x E L L0 L1 s l (fuel + 1) dl k :=
  AJ.act0 h hi0 (nextP_spec hnx) hr (fun _ _ => by simp [Region.wanted]) hd hsm
theorem AJ.selY {j0 : Nat} {b0 : Bool} {d : Option Tmp} (h : AO P x E L L0 L1 s l fuel dl k i d op ty)
    (hnx : nextP true dl nums l = some (i, ⟨d, op, ty, pos, aft, some (j0, b0)⟩) := by rfl) (hi0 : nth l i = some ⟨d, op, ty, pos, aft, some (j0, b0)⟩ := by rfl) (hg : gval l.toArray E j0 = some u := by rfl) (hu : u = .bool b0 := by with_reducible rfl)
    (hr : readyL dl nums l = [i] := by decide +kernel) (hd : okD x.n d = true := by rfl) (hsm : okS l dl i s = true := by decide +kernel) : AJ P x E L L0 L1 s l (fuel + 1) dl k :=
  AJ.act0 h hi0 (nextP_spec hnx) hr (fun _ hE => by simp [Region.wanted, yielded_of hE (hu ▸ hg)]) hd hsm
/-- Behind an effect: what is owned now is known up to the next one. -/
theorem AJ.rebase {s e s' e' : Nat} {L1' : List HP} (h : AJ P x E L L L1' (s', e') l fuel dl k) (hm : mem s dl = true := by rfl) (_hs : nextEff dl nums l = some s' := by rfl) (_he : effEnd dl l s' = some e' := by rfl) (hL : autoParam (KeepIf (effKind l s') L L1') AKEEP.h._autoParam)
    (h1 : L1 = [] ∨ (Nat.beq e s' = true ∧ Nat.beq e 1000 = false ∧ Ent L L1) ∨ (Nat.beq e' 1000 = true ∧ Ent L1' L1) := by first | exact .inl rfl | exact .inr (.inl ⟨rfl, rfl, xENTS⟩) | exact .inr (.inr ⟨rfl, xENTS⟩) | fail) (hlt : Nat.blt s l.length = true := by rfl) : AJ P x E L L0 L1 (s, e) l fuel dl k :=
  ⟨fun hst a w hE hS hSS hc => by
    have hlt' : s < l.length := by simpa [Nat.blt_eq] using hlt
    refine wpAnyG_mono' (S' := SS x L L1' (s', e')) (s := s) (fun listed w hl h => ⟨h.1, fun h0 => ?_, fun h0 => ?_⟩) _ _ _ _ (mem_marks hlt' dl hm) (h.h hst a w hE hS ⟨hS.ent Ent.nil, fun _ => hS, fun _ => hS.ent hL.h⟩ hc)
    · rw [getD_both h0] at hl
      cases hl
    · rcases h1 with rfl | ⟨h1, h2, h3⟩ | ⟨h1, h2⟩
      · exact h.1
      rotate_left
      · exact (h.2.2 (by show (Nat.beq e' 1000 || _) = true; rw [h1]; rfl)).ent h2
      · rw [h2, Bool.false_or, Nat.eq_of_beq_eq_true h1] at h0
        exact (h.2.1 (by simpa using h0)).ent h3⟩
/-- Not alike as they stand (a mark alone). -/
inductive NeL (L L' : List HP) : Prop
  | mk : NeL L L'
theorem NeL.same : NeL L L := .mk
/-- What has been made since is known, too. -/
theorem AJ.regain {s e : Nat} {L1' : List HP} (h : AJ P x E L L L1' (s, e) l fuel dl k) (_hm : mem s dl = false := by rfl) (_hn : NeL L L0 := by ((fail_if_success (with_reducible exact NeL.same)); exact NeL.mk)) (hL : autoParam (KeepIf (effKind l s) L L1') AKEEP.h._autoParam) (h0 : autoParam (Ent L L0) AENTS.h._autoParam) (h1 : autoParam (Ent L1' L1) AENTS.h._autoParam) : AJ P x E L L0 L1 (s, e) l fuel dl k :=
  ⟨fun hst a w hE hS _ hc => wpAnyG_mono (S' := SS x L L1' (s, e)) (fun _ _ h => ⟨h.1, fun q => (h.2.1 q).ent h0, fun q => (h.2.2 q).ent h1⟩) _ _ _ _ (h.h hst a w hE hS ⟨hS.ent Ent.nil, fun _ => hS, fun _ => hS.ent hL.h⟩ hc)⟩
/-- The second acting one that can come up. -/
def nextA (skip : Nat) (dl : List Nat) : List Nat → List Oper → Option (Nat × Oper)
  | i :: is, o :: l => match Nat.beq i skip with
    | true => nextA skip dl is l
    | false => match mem i dl with
      | true => nextA skip dl is l
      | false => match isAct o.op with
        | false => nextA skip dl is l
        | true => match allIn o.after.toList dl with
          | true => some (i, o)
          | false => nextA skip dl is l
  | _, _ => none
/-- Two that act, in either order. -/
theorem AJ.sel2 {d d' : Option Tmp} {j : Nat} {op' : Op} {ty' : TypeId} {pos' : String} {aft' : Array Edge} (h : AO P x E L L0 L1 s l fuel dl k i d op ty) (h' : AO P x E L L0 L1 s l fuel dl k j d' op' ty')
    (hnx : nextP true dl nums l = some (i, ⟨d, op, ty, pos, aft, none⟩) := by rfl) (_hn' : nextA i dl nums l = some (j, ⟨d', op', ty', pos', aft', none⟩) := by rfl) (hi0 : nth l i = some ⟨d, op, ty, pos, aft, none⟩ := by rfl) (hj0 : nth l j = some ⟨d', op', ty', pos', aft', none⟩ := by rfl)
    (hr : readyL dl nums l = [i, j] := by decide +kernel) (hd : okD x.n d = true := by rfl) (hd' : okD x.n d' = true := by rfl) (hsm : okS l dl i s = true := by decide +kernel) (hsm' : okS l dl j s = true := by decide +kernel) : AJ P x E L L0 L1 s l (fuel + 1) dl k := by
  have one : ∀ {i : Nat} {d : Option Tmp} {op : Op} {ty : TypeId} {pos : String} {aft : Array Edge}, AO P x E L L0 L1 s l fuel dl k i d op ty → nth l i = some ⟨d, op, ty, pos, aft, none⟩ → i ∈ Region.ready .any l.toArray (marks l.length dl) → okD x.n d = true → okS l dl i s = true → stat l = true →
      ∀ a w, EnvOK x.n x.ds E a → SAT x.w0 x.O L w → Closed .any l.toArray (marks l.length dl) → wpW P l.toArray (post P x k) i (fun a' w' => SS x L0 L1 s ((marks l.length dl).setIfInBounds i true) w' ∧ wpAnyG P .any l.toArray (post P x k) (SS x L0 L1 s) fuel ((marks l.length dl).setIfInBounds i true) a' w') a w := by
    intro i d op ty pos aft h hi0 hri hd hsm hst a w hE hS hc
    obtain ⟨K, hA, hk⟩ := h.h
    have hi : l.toArray[i]? = some ⟨d, op, ty, pos, aft, none⟩ := by rw [nth_eq] at hi0; simpa using hi0
    unfold wpW
    simp only [hi]
    rw [if_pos (by simp [Region.wanted])]
    refine hA.h a w _ _ _ _ _ _ hE hS fun v L2 w' hv hS' => ?_
    obtain ⟨⟨he0, he1⟩, hA⟩ := hk v L2 hv
    have hss : SS x L0 L1 s ((marks l.length dl).setIfInBounds i true) w' := ss_run (by simpa using (Array.getElem?_eq_some_iff.1 hi).1) hsm hS' he0 he1
    exact ⟨hss, hA.h hst _ w' (hE.put hd) hS' hss (hc.set hri)⟩
  refine ⟨fun hst a w hE hS hSS hc => ⟨fun h0 => (by have := ready_of hst (i := i) (by rw [← nth_eq]; exact hi0) (nextP_spec hnx).1 (nextP_spec hnx).2; rw [h0] at this; cases this), fun i0 hi0' => ?_⟩⟩
  have hm := ready_sub hst hi0'
  rw [hr] at hm
  simp only [List.mem_cons, List.not_mem_nil, or_false] at hm
  rcases hm with rfl | rfl
  · exact one h hi0 hi0' hd hsm hst a w hE hS hc
  · exact one h' hj0 hi0' hd' hsm' hst a w hE hS hc
/-! ### loops -/
theorem J.loopI {c : Code} {ι : Type} (Inv : ι → Prop) (μ : ι → Nat) (E' : ι → List (Nat × Value)) (L' : ι → List HP) (i : ι) (hi : Inv i)
    (hs : ∀ i, Inv i → (∀ j, Inv j → μ j < μ i → JL P x (E' j) (L' j) c k) → J P x (E' i) (L' i) c (.loop c :: k)) (hE : sub (E' i) E := by repeat (first | exact sub.nil | refine sub.cons (by rfl) ?_)) (hL : autoParam (Ent L (L' i)) AENT.h._autoParam) : J P x E L (.loop c) k := by
  have key : ∀ m i, μ i = m → Inv i → JL P x (E' i) (L' i) c k := by
    intro m
    induction m using Nat.strongRecOn with
    | _ m ih => exact fun i hm hi => JL.round (hs i hi fun j hj hlt => ih (μ j) (hm ▸ hlt) j rfl hj)
  exact J.loop (JL.ent hL (JL.weaken hE (key _ i rfl hi)))
theorem JL.use {c : Code} {E' : List (Nat × Value)} {L' : List HP} (h : JL P x E' L' c k) (hE : sub E' E := by repeat (first | exact sub.nil | refine sub.cons (by rfl) ?_)) (hL : autoParam (Ent L L') AENT.h._autoParam) : JL P x E L c k := JL.ent hL (JL.weaken hE h)
theorem J.retB {rs : List ResultVar} {b b' : Bool} (he : b = b') (hR : x.R = Ends x.w0 x.O (fun _ : Unit => Value.bool b') (fun _ => []) (fun _ => True) := by rfl) (hf : x.fn.results = rs.toArray := by rfl) (hv : resV E rs = some [.bool b] := by rfl) (hq : x.Q0 = bodyPost P x.fn x.R := by rfl) (hds : x.ds = [] := by rfl) : J P x E L .ret k := by
  subst he
  exact J.ret (vs := [.bool b]) (fun w hS => hR ▸ ends () trivial rfl Ent.nil w hS) hf hv hq hds
theorem JK.finB {rs : List ResultVar} {b b' : Bool} (he : b = b') (hR : x.R = Ends x.w0 x.O (fun _ : Unit => Value.bool b') (fun _ => []) (fun _ => True) := by rfl) (hf : x.fn.results = rs.toArray := by rfl) (hv : resV E rs = some [.bool b] := by rfl) (hq : x.Q0 = bodyPost P x.fn x.R := by rfl) (hds : x.ds = [] := by rfl) : JK P x E L [] := by
  subst he
  exact JK.fin (vs := [.bool b]) (fun w hS => hR ▸ ends () trivial rfl Ent.nil w hS) hf hv hq hds
theorem toNat1 (i : Nat) : ((i : Int) - 1).toNat = i - 1 := by omega
def allI (f : Nat → Bool) : Nat → Nat → Bool
  | 0, _ => true
  | m + 1, i => f i && allI f m (i + 1)
theorem allI_step {f : Nat → Bool} {n i : Nat} (h : i < n) : allI f (n - i) i = (f i && allI f (n - (i + 1)) (i + 1)) := by
  rw [show n - i = (n - (i + 1)) + 1 by omega]
  rfl
theorem allI_end {f : Nat → Bool} {n i : Nat} (h : n ≤ i) : allI f (n - i) i = true := by
  rw [show n - i = 0 by omega]
  rfl
theorem allI_on {f : Nat → Bool} {n i : Nat} {a r : Bool} (hm : a = (allI f (n - i) i && r)) (h : i < n) (hf : f i = true) : a = (allI f (n - (i + 1)) (i + 1) && r) := by rw [hm, allI_step h, hf, Bool.true_and]
theorem allI_off {f : Nat → Bool} {n i : Nat} {a r : Bool} (hm : a = (allI f (n - i) i && r)) (h : i < n) (hf : f i = false) : false = a := by rw [hm, allI_step h, hf, Bool.false_and, Bool.false_and]
theorem allI_fin {f : Nat → Bool} {n i : Nat} {a b r : Bool} (hm : a = (allI f (n - i) i && r)) (h : n ≤ i) (hf : b = r) : b = a := by rw [hm, allI_end h, hf, Bool.true_and]
/-! ### plain operations, whatever they are -/
theorem OJ.p {rest : List Oper} (hk : OJ P x ((d, v) :: E) L ops rest k) (h : autoParam (PS P x E L op ty v) APSA.h._autoParam) (hd : Nat.blt d x.n = true := by rfl) : OJ P x E L ops (⟨some d, op, ty, pos, aft, none⟩ :: rest) k := OJ.ps h hk hd
end
end Go.SL

/- Still more rules: stores of structs and into rows, slices of slices, append of many, least and greatest, structs compared, results in cells, boxed rows. -/
set_option linter.unusedVariables false
set_option linter.unusedSimpArgs false
namespace Go.SL
open Go.RowKit

theorem flatMap_drop {α : Type} {k : Enc α} {xs : List α} (n : Nat) : (xs.drop n).flatMap k.f = (xs.flatMap k.f).drop (n * k.sz) := by
  induction n generalizing xs with
  | zero => simp
  | succ n ih =>
    cases xs with
    | nil => simp
    | cons x xs =>
      simp only [List.drop_succ_cons, ih, List.flatMap_cons]
      rw [show (n + 1) * k.sz = (k.f x).length + n * k.sz by rw [k.len, Nat.add_mul]; omega, ← List.drop_drop, List.drop_left]
theorem flatMap_take {α : Type} {k : Enc α} {xs : List α} (n : Nat) : (xs.take n).flatMap k.f = (xs.flatMap k.f).take (n * k.sz) := by
  induction n generalizing xs with
  | zero => simp
  | succ n ih =>
    cases xs with
    | nil => simp
    | cons x xs =>
      simp only [List.take_succ_cons, ih, List.flatMap_cons]
      rw [show (n + 1) * k.sz = (k.f x).length + n * k.sz by rw [k.len, Nat.add_mul]; omega, List.take_length_add_append]
theorem flatMap_set {α : Type} {k : Enc α} {xs : List α} {i : Nat} (hi : i < xs.length) (x : α) : (xs.set i x).flatMap k.f = (xs.flatMap k.f).take (i * k.sz) ++ k.f x ++ (xs.flatMap k.f).drop (i * k.sz + k.sz) := by
  rw [List.set_eq_take_append_cons_drop, if_pos hi, List.flatMap_append, List.flatMap_cons, flatMap_take, flatMap_drop, show (i + 1) * k.sz = i * k.sz + k.sz by rw [Nat.add_mul]; omega, List.append_assoc]

theorem seg {β : Type} {c vs : List β} {N I S f : Nat} (h1 : I + S ≤ N) (h2 : N ≤ c.length) (h3 : f + vs.length ≤ S) :
    (c.take (I + f) ++ vs ++ c.drop (I + f + vs.length)).take N = (c.take N).take I ++ ((((c.take N).drop I).take S).take f ++ vs ++ (((c.take N).drop I).take S).drop (f + vs.length)) ++ (c.take N).drop (I + S) := by
  have la : (c.take (I + f)).length = I + f := by rw [List.length_take]; omega
  have lb : ((c.take N).take I).length = I := by rw [List.length_take, List.length_take]; omega
  have lc : ((((c.take N).drop I).take S).take f).length = f := by simp only [List.length_take, List.length_drop]; omega
  have ld : ((((c.take N).drop I).take S).drop (f + vs.length)).length = S - (f + vs.length) := by simp only [List.length_take, List.length_drop]; omega
  apply List.ext_getElem?
  intro j
  rw [List.getElem?_take]
  by_cases hN : j < N
  · rw [if_pos hN]
    by_cases g1 : j < I + f
    · rw [List.getElem?_append_left (by rw [List.length_append, la]; omega), List.getElem?_append_left (by rw [la]; exact g1), List.getElem?_take, if_pos g1]
      by_cases g0 : j < I
      · rw [List.getElem?_append_left (by rw [List.length_append, lb]; omega), List.getElem?_append_left (by rw [lb]; exact g0), List.getElem?_take, if_pos g0, List.getElem?_take, if_pos hN]
      · rw [List.getElem?_append_left (by simp only [List.length_append, lb, lc, ld]; omega), List.getElem?_append_right (by rw [lb]; omega), lb, List.getElem?_append_left (by rw [List.length_append, lc]; omega), List.getElem?_append_left (by rw [lc]; omega),
          List.getElem?_take, if_pos (by omega), List.getElem?_take, if_pos (by omega), List.getElem?_drop, List.getElem?_take, if_pos (by omega), show I + (j - I) = j by omega]
    · by_cases g2 : j < I + f + vs.length
      · rw [List.getElem?_append_left (by rw [List.length_append, la]; omega), List.getElem?_append_right (by rw [la]; omega), la,
          List.getElem?_append_left (by simp only [List.length_append, lb, lc, ld]; omega), List.getElem?_append_right (by rw [lb]; omega), lb, List.getElem?_append_left (by rw [List.length_append, lc]; omega), List.getElem?_append_right (by rw [lc]; omega), lc, show j - I - f = j - (I + f) by omega]
      · rw [List.getElem?_append_right (by rw [List.length_append, la]; omega), List.length_append, la, List.getElem?_drop, show I + f + vs.length + (j - (I + f + vs.length)) = j by omega]
        by_cases g3 : j < I + S
        · rw [List.getElem?_append_left (by simp only [List.length_append, lb, lc, ld]; omega), List.getElem?_append_right (by rw [lb]; omega), lb, List.getElem?_append_right (by rw [List.length_append, lc]; omega), List.length_append, lc,
            List.getElem?_drop, List.getElem?_take, if_pos (by omega), List.getElem?_drop, List.getElem?_take, if_pos (by omega), show I + (f + vs.length + (j - I - (f + vs.length))) = j by omega]
        · rw [List.getElem?_append_right (by simp only [List.length_append, lb, lc, ld]; omega), List.length_append, List.length_append, List.length_append, lb, lc, ld, List.getElem?_drop, List.getElem?_take, if_pos (by omega), show I + S + (j - (I + (f + vs.length + (S - (f + vs.length))))) = j by omega]
  · rw [if_neg hN]
    symm
    rw [List.getElem?_eq_none_iff]
    simp only [List.length_append, lb, lc, ld, List.length_drop, List.length_take]
    omega
section
variable {P : Program} {x : Cx} {E : List (Nat × Value)} {L L' L1 L2 : List HP} {k : List Fr} {ops : Array Oper} {rest : List Oper}
variable {ty t t' t'' : TypeId} {y z c : Operand} {v u : Value}

/-! ### stores -/
/-- A struct stored into a block. -/
theorem AS.storeA {b f sz bt : Nat} {zv : Value} {cs : Array Value} {T : TypeId} {vs r : List Value} [hT : Ty P t true sz bt zv] (hy : ev E y = some (.pointer (some ⟨b, f, none⟩)) := by rfl) (hz : ev E z = some (.agg vs.toArray) := by rfl)
    (hp : autoParam (Pick L (blk b (.cells cs T (0, 0))) L') APK.h._autoParam) (hu : updO cs.toList f vs = some r := by rfl) (hs : Nat.beq vs.length sz = true := by rfl) (h1 : allOne vs = true := by rfl) : AS P x E L (.store t y z) ty (fun _ L1 => L1 = blk b (.cells r.toArray T (0, 0)) :: L') := by
  refine ⟨fun a w dst pos aft g next Q hE hS hn => ?_⟩
  have hS' := hS.pick hp
  have hr0 := storeRun (P := P) hS'.read hu (allOne_eq _ h1)
  have hsz := Nat.eq_of_beq_eq_true hs
  have hr : (execOp a.eval ⟨dst, .store t y z, ty, pos, aft, g⟩).run P w = .ok .skip (w.setRow b r.toArray) := by
    simp [execOp, hE.ev hy, hE.ev hz, Instr.storeAt, Instr.sureAddr, storeVar, Value.cells, hT.sizeOf, hsz, hr0]
  refine .inl ?_
  unfold Oper.wp
  rw [hr]
  exact hn undef _ _ rfl hS'.setRow
/-- Into a row. -/
theorem SAT.rowPut {α : Type} {q : Enc α} {xs : List α} {e : TypeId} {i f : Nat} {vs r : List Value} {p : α} {w0 w : World} {O : Nat → Prop} (h : SAT w0 O (row q e v xs :: L) w) (hi : i < xs.length) (hu : updO (q.f (xs.getD i q.d)) f vs = some r) (hd : q.dec r = some p) (h1 : ∀ v ∈ vs, v.oneCell' = true) :
    ∃ ad, elemP q.sz v i f = .pointer (some ad) ∧ ∃ w', (storeCells ad vs).run P w = .ok () w' ∧ SAT w0 O (row q e v (xs.set i p) :: L) w' := by
  obtain ⟨hl, hr⟩ := updO_eq _ _ _ _ hu
  have hp := q.inv _ _ hd
  have hS := h
  obtain ⟨hK, g0, he, hdj, h1', h2', d', rfl, ⟨hlen, hrow⟩, hL⟩ := h
  rcases hrow with ⟨rfl, hn, _⟩ | ⟨g, cap, cur, rfl, hc, hm, hs, ht, hb⟩
  · omega
  have hlt : i * q.sz + q.sz ≤ xs.length * q.sz := by
    rw [show i * q.sz + q.sz = (i + 1) * q.sz by rw [Nat.add_mul]; omega]
    exact Nat.mul_le_mul_right _ hi
  have hlc : xs.length * q.sz ≤ cap * q.sz := Nat.mul_le_mul_right _ hc
  have hS1 : SAT w0 O (blk g (.cells cur e (0, 0)) :: L) w := ⟨hK, _, he, hdj, h1', h2', d', rfl, hb, hL⟩
  have hfl : f + vs.length ≤ q.sz := by rw [q.len] at hl; exact hl
  have hrun := run_storeCells_at (P := P) g (i * q.sz + f) e vs 0 cur w hS1.read (by rw [hs]; omega) h1
  rw [Nat.add_zero] at hrun
  refine ⟨⟨g, i * q.sz + f, none⟩, by simp [elemP, at_off], _, hrun, ?_⟩
  have hget : q.f (xs.getD i q.d) = ((xs.flatMap q.f).drop (i * q.sz)).take q.sz := by
    rw [← flatMap_drop, List.drop_eq_getElem_cons hi, List.flatMap_cons, List.take_left' (q.len _)]
    simp [List.getD_eq_getElem?_getD, hi]
  refine SAT.imp hS1.setRow (q := row q e _ _) (fun h3 hb3 => ⟨flat_len, .inr ⟨g, cap, _, by rw [List.length_set], by simpa using hc, hm, ?_, ?_, hb3⟩⟩)
  · simp [hs]; omega
  · rw [flatMap_set hi, hp, hr, hget, ← ht]
    rw [List.length_set]
    exact seg (by omega) (by rw [show cur.toList.length = cap * q.sz from hs]; exact hlc) hfl
/-- A cell stored into a row. -/
theorem AS.storeE {α : Type} {q : Enc α} {xs : List α} {e : TypeId} {i f sq sz bt : Nat} {zv : Value} {r : List Value} {p : α} [hT : Ty P t false sz bt zv] (hy : ev E y = some (elemP sq v i f) := by rfl) (hz : ev E z = some u := by rfl) (hp : autoParam (Pick L (row q e v xs) L') APK.h._autoParam) (hq : q.sz = sq := by rfl)
    (hu : updO (q.f (xs.getD i q.d)) f [u] = some r := by rfl) (hd : q.dec r = some p := by rfl) (h1 : u.oneCell' = true := by rfl) (hs : sz = 1 := by rfl) (hi : autoParam (i < xs.length) ABD.h._autoParam) : AS P x E L (.store t y z) ty (fun _ L1 => L1 = row q e v (xs.set i p) :: L') := by
  refine ⟨fun a w dst pos aft g next Q hE hS hn => ?_⟩
  have hS' := hS.pick hp
  obtain ⟨ad, h2, w', hr0, hS2⟩ := SAT.rowPut (P := P) hS' hi hu hd (fun v hv => by rw [List.mem_singleton.1 hv]; exact h1)
  subst hq
  have hcl : u.cells = #[u] := by cases u <;> first | rfl | cases h1
  have hr : (execOp a.eval ⟨dst, .store t y z, ty, pos, aft, g⟩).run P w = .ok .skip w' := by
    simp [execOp, hE.ev hy, h2, hE.ev hz, Instr.storeAt, Instr.sureAddr, storeVar, hcl, hT.sizeOf, hs, hr0]
  refine .inl ?_
  unfold Oper.wp
  rw [hr]
  exact hn undef _ _ rfl hS2
/-- A struct stored into a row. -/
theorem AS.storeEA {α : Type} {q : Enc α} {xs : List α} {e : TypeId} {i f sq sz bt : Nat} {zv : Value} {vs r : List Value} {p : α} [hT : Ty P t true sz bt zv] (hy : ev E y = some (elemP sq v i f) := by rfl) (hz : ev E z = some (.agg vs.toArray) := by rfl) (hp : autoParam (Pick L (row q e v xs) L') APK.h._autoParam) (hq : q.sz = sq := by rfl)
    (hu : updO (q.f (xs.getD i q.d)) f vs = some r := by rfl) (hd : q.dec r = some p := by rfl) (h1 : allOne vs = true := by rfl) (hs : Nat.beq vs.length sz = true := by rfl) (hi : autoParam (i < xs.length) ABD.h._autoParam) : AS P x E L (.store t y z) ty (fun _ L1 => L1 = row q e v (xs.set i p) :: L') := by
  refine ⟨fun a w dst pos aft g next Q hE hS hn => ?_⟩
  have hS' := hS.pick hp
  obtain ⟨ad, h2, w', hr0, hS2⟩ := SAT.rowPut (P := P) hS' hi hu hd (allOne_eq _ h1)
  subst hq
  have hsz := Nat.eq_of_beq_eq_true hs
  have hr : (execOp a.eval ⟨dst, .store t y z, ty, pos, aft, g⟩).run P w = .ok .skip w' := by
    simp [execOp, hE.ev hy, h2, hE.ev hz, Instr.storeAt, Instr.sureAddr, storeVar, Value.cells, hT.sizeOf, hsz, hr0]
  refine .inl ?_
  unfold Oper.wp
  rw [hr]
  exact hn undef _ _ rfl hS2
end
end Go.SL

/- Slices of slices, append of many, least and greatest, structs compared, rows made, results in cells, boxed rows. -/
set_option linter.unusedVariables false
set_option linter.unusedSimpArgs false
namespace Go.SL
open Go.RowKit

section
variable {P : Program} {x : Cx} {E : List (Nat × Value)} {L L' L1 L2 : List HP} {k : List Fr} {ops : Array Oper} {rest : List Oper}
variable {ty t t' t'' : TypeId} {y z c : Operand} {v u : Value}

/-! ### slices of slices -/
def sliceV (sz : Nat) (v : Value) (lo hi : Nat) : Value :=
  match v with
  | .slice A _ c => sliced A lo hi c sz
  | _ => undef
theorem rd_slice {α : Type} {q : Enc α} {xs : List α} {w : World} {lo hi : Nat} (h : rd q v xs w) (h1 : lo ≤ hi) (h2 : hi ≤ xs.length) : rd q (sliceV q.sz v lo hi) ((xs.drop lo).take (hi - lo)) w := by
  obtain ⟨A, c, rfl, hc, hm, hA⟩ := h
  have hl : ((xs.drop lo).take (hi - lo)).length = hi - lo := by simp; omega
  refine ⟨_, _, by simp only [sliceV, sliced, hl]; rfl, by rw [hl]; omega, by omega, fun hp => ?_⟩
  rw [hl] at hp
  obtain ⟨ad, rfl, hcell⟩ := hA (by omega)
  refine ⟨ad.add (lo * q.sz), by rw [if_neg (by omega)]; rfl, fun j u hu => ?_⟩
  rw [add_add]
  refine hcell _ u ?_
  rw [flatMap_take, List.getElem?_take] at hu
  split at hu
  · rw [flatMap_drop, List.getElem?_drop] at hu
    exact hu
  · cases hu
theorem iSlice {α : Type} {w0 : World} {O : Nat → Prop} {L : List HP} {q : Enc α} {xs : List α} {sz lo hi : Nat} {v : Value} (h : Rd w0 O L (rd q (sliceV sz v lo hi) xs)) : Rd w0 O L (rd q (sliceV sz v lo hi) xs) := h
theorem Rd.slice {α : Type} {q : Enc α} {xs : List α} {sz lo hi : Nat} (h : Rd x.w0 x.O L (rd q v xs)) (hq : q.sz = sz := by rfl) (h1 : lo ≤ hi := by omega) (h2 : hi ≤ xs.length := by omega) : Rd x.w0 x.O L (rd q (sliceV sz v lo hi) ((xs.drop lo).take (hi - lo))) :=
  ⟨fun w hw => by subst hq; exact rd_slice (h.h w hw) h1 h2⟩
theorem elem_of {e : TypeId} (h : P.underlying t = some (.slice e)) : P.underlying t = some (.slice (P.elem t)) := by simp [Program.elem, h]
theorem elem_is {e : TypeId} (h : P.underlying t = some (.slice e)) : P.elem t = e := by simp [Program.elem, h]
theorem PS.sliceH {α : Type} {q : Enc α} {xs : List α} {e : TypeId} {hi : Int} {ag : Bool} {sz bt : Nat} {zv : Value} [hSl : SlT P t e] [hT : Ty P e ag sz bt zv] (hv : ev E y = some v := by rfl) (hh : ev E z = some (.int .i64 hi) := by rfl)
    (hr : autoParam (Rd x.w0 x.O L (rd q v xs)) ARD.h._autoParam) (h0 : 0 ≤ hi := by omega) (hlt : hi ≤ xs.length := by omega) : PS P x E L (.slice t y none (some z) none) ty (sliceV sz v 0 hi.toNat) := ⟨fun a w _ _ _ _ hE hS => by
  obtain ⟨A, c, rfl, hc, _, _⟩ := hr.h w hS
  simp only [execOp, Option.map, hE.ev hv, hE.ev hh]
  simp [run_sliceAt_slice _ _ _ _ _ _ (elem_of hSl.h), run_slice_h w t A xs.length c (elem_of hSl.h) .i64 hi h0 (by omega), elem_is hSl.h, hT.sizeOf, sliceV]⟩
theorem PS.sliceL {α : Type} {q : Enc α} {xs : List α} {e : TypeId} {lo : Int} {ag : Bool} {sz bt : Nat} {zv : Value} [hSl : SlT P t e] [hT : Ty P e ag sz bt zv] (hv : ev E y = some v := by rfl) (hh : ev E z = some (.int .i64 lo) := by rfl)
    (hr : autoParam (Rd x.w0 x.O L (rd q v xs)) ARD.h._autoParam) (h0 : 0 ≤ lo := by omega) (hlt : lo ≤ xs.length := by omega) : PS P x E L (.slice t y (some z) none none) ty (sliceV sz v lo.toNat xs.length) := ⟨fun a w _ _ _ _ hE hS => by
  obtain ⟨A, c, rfl, hc, _, _⟩ := hr.h w hS
  simp only [execOp, Option.map, hE.ev hv, hE.ev hh]
  simp [run_sliceAt_slice _ _ _ _ _ _ (elem_of hSl.h), run_slice_l w t A xs.length c (elem_of hSl.h) .i64 lo h0 (by omega), elem_is hSl.h, hT.sizeOf, sliceV]⟩
theorem PS.sliceLH {α : Type} {q : Enc α} {xs : List α} {e : TypeId} {lo hi : Int} {ag : Bool} {sz bt : Nat} {zv : Value} [hSl : SlT P t e] [hT : Ty P e ag sz bt zv] (hv : ev E y = some v := by rfl) (hh : ev E z = some (.int .i64 lo) := by rfl) (hh2 : ev E c = some (.int .i64 hi) := by rfl)
    (hr : autoParam (Rd x.w0 x.O L (rd q v xs)) ARD.h._autoParam) (h0 : 0 ≤ lo := by omega) (h1 : lo ≤ hi := by omega) (hlt : hi ≤ xs.length := by omega) : PS P x E L (.slice t y (some z) (some c) none) ty (sliceV sz v lo.toNat hi.toNat) := ⟨fun a w _ _ _ _ hE hS => by
  obtain ⟨A, cc, rfl, hc, _, _⟩ := hr.h w hS
  simp only [execOp, Option.map, hE.ev hv, hE.ev hh, hE.ev hh2]
  simp [run_sliceAt_slice _ _ _ _ _ _ (elem_of hSl.h), run_slice_lh w t A xs.length cc (elem_of hSl.h) .i64 .i64 lo hi h0 h1 (by omega), elem_is hSl.h, hT.sizeOf, sliceV]⟩
theorem PS.sliceHN {α : Type} {q : Enc α} {xs : List α} {e : TypeId} {hi : Nat} {ag : Bool} {sz bt : Nat} {zv : Value} [hSl : SlT P t e] [hT : Ty P e ag sz bt zv] (hv : ev E y = some v := by rfl) (hh : ev E z = some (.int .i64 (hi : Int)) := by rfl)
    (hr : autoParam (Rd x.w0 x.O L (rd q v xs)) ARD.h._autoParam) (hlt : hi ≤ xs.length := by omega) : PS P x E L (.slice t y none (some z) none) ty (sliceV sz v 0 hi) := PS.sliceH (hi := (hi : Int)) hv hh hr (by omega) (by omega)
theorem PS.sliceLN {α : Type} {q : Enc α} {xs : List α} {e : TypeId} {lo : Nat} {ag : Bool} {sz bt : Nat} {zv : Value} [hSl : SlT P t e] [hT : Ty P e ag sz bt zv] (hv : ev E y = some v := by rfl) (hh : ev E z = some (.int .i64 (lo : Int)) := by rfl)
    (hr : autoParam (Rd x.w0 x.O L (rd q v xs)) ARD.h._autoParam) (hlt : lo ≤ xs.length := by omega) : PS P x E L (.slice t y (some z) none none) ty (sliceV sz v lo xs.length) := PS.sliceL (lo := (lo : Int)) hv hh hr (by omega) (by omega)
/-! ### append of many -/
theorem one_flat {α : Type} {q : Enc α} {xs : List α} : ∀ u ∈ xs.flatMap q.f, u.oneCell' = true := fun u hu => by
  obtain ⟨a, _, ha⟩ := List.mem_flatMap.1 hu
  exact q.one a u ha
theorem run_append_nil {e : TypeId} {c n cp : Nat} {A : Option Addr} [hSl : SlT P t e] {ag : Bool} {sz bt : Nat} {zv : Value} [hT : Ty P e ag sz bt zv] (w : World) (hn : n ≤ cp) : (Builtin.append_ #[t, t] ty #[.slice A n cp, .slice none 0 c]).run P w = .ok (.slice A n cp) w := by
  unfold Builtin.append_
  simp [run_underlying hSl.h, hT.sizeOf, Builtin.lenOf, Builtin.firstCells, hn]
  cases A <;> simp [storeCells]
theorem AS.append {α : Type} {q : Enc α} {xs ys : List α} {e : TypeId} {v2 : Value} {L1 : List HP} {ag : Bool} {sz bt : Nat} {zv : Value} [hSl : SlT P t e] [hT : Ty P e ag sz bt zv]
    (hv : ev E y = some v := by rfl) (hz : ev E z = some v2 := by rfl) (hp : autoParam (Pick L (row q e v xs) L1) APK.h._autoParam) (hr : autoParam (Rd x.w0 x.O L (rd q v2 ys)) ARD.h._autoParam) (hq : q.sz = sz := by rfl) (hzs : zv.cells.size = sz := by rfl)
    (hbd : autoParam ((xs.length + ys.length) * bt ≤ 140737488355328) ABD.h._autoParam) (hbm : autoParam (xs.length + ys.length ≤ 9223372036854775807) ABD.h._autoParam) : AS P x E L (.call ⟨.builtin .append, #[y, z], #[t, t]⟩) ty (fun v' L3 => L3 = row q e v' (xs ++ ys) :: L1) :=
  AS.run fun a w dst pos aft g hE hS => by
    obtain ⟨i, hi, h1, h2, h3⟩ := hT.info
    have hS1 := hS.pick hp
    have hown := hS1.ownsRow
    obtain ⟨A, c, rfl, hc, hm, hA⟩ := hr.h w hS
    by_cases hn : A = none
    · subst hn
      have h0 : ys = [] := by
        rcases ys with _ | ⟨y0, ys⟩
        · rfl
        · obtain ⟨ad, h, _⟩ := hA (by simp)
          cases h
      subst h0
      obtain ⟨A0, c0, hv0, hc0, _⟩ := hS1.rd
      refine ⟨v, w, _, ?_, hS1, by rw [List.append_nil]⟩
      simp only [execOp, resolve, invoke, builtin]
      subst hv0
      simp [hE.ev hv, hE.ev hz, run_append_nil (P := P) (t := t) (e := e) w hc0]
    · obtain ⟨ad, rfl⟩ := Option.ne_none_iff_exists'.1 hn
      have hcells : ∀ j u, (ys.flatMap q.f)[j]? = some u → w.cell? (ad.add j) = some u := fun j u hu => by
        have hpos : 0 < ys.length := by
          rcases ys with _ | ⟨y0, ys⟩
          · simp at hu
          · simp
        obtain ⟨ad', he, h⟩ := hA hpos
        injection he with he
        subst he
        exact h j u hu
      obtain ⟨v', w', hrun, hown', hgr, _, hat⟩ := run_append_own_at (P := P) w 0 t ty e i zv sz bt hSl.h hi h3 h1 h2 hzs (hq ▸ q.pos) v xs.length (xs.flatMap q.f) (hq ▸ hown) ad ys.length c (ys.flatMap q.f) (by rw [flat_len, hq]) hcells one_flat
        (by simp only [maxLen]; omega) hbd (Nat.zero_le _)
      refine ⟨v', w', row q e v' (xs ++ ys) :: L1, ?_, ?_, rfl⟩
      · simp only [execOp, resolve, invoke, builtin]
        simp [hE.ev hv, hE.ev hz, hrun]
      · refine SAT.own_append (xs := xs) (ys := ys) hS1 ?_ hgr hat
        rw [← hq] at hown'
        simpa using hown'
theorem PS.negW {i : Int} (hv : ev E y = some (.int .i64 i) := by rfl) : PS P x E L (.unOp .neg t y) ty (.int .i64 (IntKind.i64.wrap (0 - i))) := ⟨fun a w _ _ _ _ hE _ => by
  simp only [execOp, hE.ev hv]
  rfl⟩
/-! ### rows made -/
theorem madeRow {α : Type} {q : Enc α} {z0 : α} {zs : Array Value} (hz : q.f z0 = zs.toList) (n : Nat) : (madeCells zs (n * q.sz)).toList = (List.replicate n z0).flatMap q.f := by
  have hsz : zs.size = q.sz := by rw [← q.len z0, hz, Array.length_toList]
  have hp := q.pos
  apply List.ext_getElem?
  intro j
  by_cases hj : j < n * q.sz
  · have h1 : j / q.sz < n := Nat.div_lt_of_lt_mul (by rw [Nat.mul_comm]; exact hj)
    have h2 : j % q.sz < q.sz := Nat.mod_lt _ hp
    have h3 := flat_get (k := q) (xs := List.replicate n z0) (i := j / q.sz) (f := j % q.sz) (by simpa using h1) h2
    rw [Nat.mul_comm, Nat.div_add_mod] at h3
    rw [h3]
    have h4 : (List.replicate n z0).getD (j / q.sz) q.d = z0 := by simp [List.getD_eq_getElem?_getD, h1]
    rw [h4, hz]
    simp [madeCells, hj, hsz, h2]
  · rw [List.getElem?_eq_none_iff.2 (by simp [madeCells]; omega), List.getElem?_eq_none_iff.2 (by rw [flat_len]; simp; omega)]
theorem AS.makeSlice {α : Type} {q : Enc α} {z0 : α} {e : TypeId} {n m : Int} {ag : Bool} {sz bt : Nat} {zv : Value} [hSl : SlT P t e] [hT : Ty P e ag sz bt zv] [hN : EncN e q] (hy : ev E y = some (.int .i64 n) := by rfl) (hz : ev E z = some (.int .i64 m) := by rfl)
    (hd : q.dec (cellsL zv) = some z0 := by rfl) (hq : q.sz = sz := by rfl) (h0 : autoParam (0 ≤ n) ABD.h._autoParam) (h1 : autoParam (n ≤ m) ABD.h._autoParam) (h2 : autoParam ((bt : Int) * m ≤ 140737488355328) ABD.h._autoParam) (h3 : autoParam (m ≤ 9223372036854775807) ABD.h._autoParam) : AS P x E L (.makeSlice t y z) ty (fun v L1 => L1 = row q e v (List.replicate n.toNat z0) :: L) :=
  AS.run fun a w dst pos aft g hE hS => by
    obtain ⟨i, hi, e1, e2, e3⟩ := hT.info
    have hf := q.inv _ _ hd
    rw [cellsL_eq] at hf
    have hr := run_make (P := P) w t e i zv hSl.h hi e3 .i64 .i64 n m h0 h1 (by rw [e2]; omega) h3
    refine ⟨.slice (some ⟨w.heap.size, 0, none⟩) n.toNat m.toNat, w.alloc (.cells (madeCells zv.cells (m.toNat * i.size)) e (0, 0)), _, by simp only [execOp, hE.ev hy, hE.ev hz]; simp [hr], SAT.imp (hS.alloc _) (q := row q e (.slice (some ⟨w.heap.size, 0, none⟩) n.toNat m.toNat) (List.replicate n.toNat z0)) (fun h3 hb => ⟨flat_len, .inr ⟨w.heap.size, m.toNat, _, by simp, by simp; omega, by simp [maxLen]; omega, ?_, ?_, hb⟩⟩), rfl⟩
    · simp [madeCells, e1, hq]
    · rw [List.length_replicate, e1, ← hq, madeRow hf, ← flatMap_take, List.take_replicate, Nat.min_eq_left (by omega)]
/-! ### least and greatest -/
theorem PS.mn {kd : IntKind} {i j : Int} {ts : Array TypeId} (hy : ev E y = some (.int kd i) := by rfl) (hz : ev E z = some (.int kd j) := by rfl) : PS P x E L (.call ⟨.builtin .min, #[y, z], ts⟩) ty (.int kd (min i j)) := ⟨fun a w _ _ _ _ hE _ => by
  simp only [execOp, resolve, invoke, builtin]
  have : (if j < i then j else i) = min i j := by rw [Int.min_def]; split <;> split <;> omega
  simp [hE.ev hy, hE.ev hz, Builtin.min_, Builtin.min2, this]⟩
theorem PS.mx {kd : IntKind} {i j : Int} {ts : Array TypeId} (hy : ev E y = some (.int kd i) := by rfl) (hz : ev E z = some (.int kd j) := by rfl) : PS P x E L (.call ⟨.builtin .max, #[y, z], ts⟩) ty (.int kd (max i j)) := ⟨fun a w _ _ _ _ hE _ => by
  simp only [execOp, resolve, invoke, builtin]
  have : (if j > i then j else i) = max i j := by rw [Int.max_def]; split <;> split <;> omega
  simp [hE.ev hy, hE.ev hz, Builtin.max_, Builtin.max2, this]⟩
/-! ### structs of ints compared -/
class EqT2 (P : Program) (t : TypeId) : Prop where
  g : P.eqGuardType P.depth t = false
  h : ∀ (a b c d : Int) (w : World), (Op.equalIn 10000 t (.agg #[.int .i64 a, .int .i64 b]) (.agg #[.int .i64 c, .int .i64 d])).run P w = .ok (a == c && b == d) w
theorem PS.eqA [hQ : EqT2 P t] {a b c d : Int} (hy : ev E y = some (.agg #[.int .i64 a, .int .i64 b]) := by rfl) (hz : ev E z = some (.agg #[.int .i64 c, .int .i64 d]) := by rfl) : PS P x E L (.binOp .eql t y z t') ty (.bool (a == c && b == d)) := ⟨fun s w _ _ _ _ hE _ => by
  simp only [execOp, hE.ev hy, hE.ev hz]
  simp [run_eqGuard_agg w _ t y z _ _ hQ.g, run_eql_struct, hQ.h a b c d w]⟩
theorem PS.neA [hQ : EqT2 P t] {a b c d : Int} (hy : ev E y = some (.agg #[.int .i64 a, .int .i64 b]) := by rfl) (hz : ev E z = some (.agg #[.int .i64 c, .int .i64 d]) := by rfl) : PS P x E L (.binOp .neq t y z t') ty (.bool (!(a == c && b == d))) := ⟨fun s w _ _ _ _ hE _ => by
  simp only [execOp, hE.ev hy, hE.ev hz]
  simp [run_eqGuard_agg w _ t y z _ _ hQ.g, run_neq_struct, hQ.h a b c d w]⟩
/-! ### structs of ints compared, however many -/
def ints (as : List Int) : Array Value := (as.map (Value.int .i64)).toArray
def ofInts : List Value → Option (List Int)
  | [] => some []
  | .int .i64 a :: vs => match ofInts vs with
    | some as => some (a :: as)
    | none => none
  | _ => none
def eqI : List Int → List Int → Bool
  | a :: as, b :: bs => (a == b) && eqI as bs
  | _, _ => true
def isI64 : Option TypeDesc → Bool
  | some (.int .i64) => true
  | _ => false
def intFields (P : Program) : Nat → List Field → Bool
  | _, [] => true
  | k, f :: fs => (!(f.name == "_") && (Nat.beq f.offset k && isI64 (P.underlying f.type))) && intFields P (k + 1) fs
class EqTI (P : Program) (t : TypeId) (n : outParam Nat) : Prop where
  g : P.eqGuardType P.depth t = false
  u : P.underlying t = some (.struct (P.fieldsOf t))
  p : P.stoodInHeld t = false
  f : intFields P 0 (P.fieldsOf t).toList = true
  l : (P.fieldsOf t).toList.length = n
theorem ofInts_eq : ∀ {vs : List Value} {as : List Int}, ofInts vs = some as → vs = as.map (Value.int .i64)
  | [], as, h => by cases h; rfl
  | v :: vs, as, h => by
    cases v with
    | int kd a =>
      cases kd with
      | i64 =>
        simp only [ofInts] at h
        split at h
        · rename_i hh
          cases h
          rw [ofInts_eq hh]
          rfl
        · cases h
      | _ => simp [ofInts] at h
    | _ => simp [ofInts] at h
theorem eqFields_ints (d : Nat) (w : World) {xs ys : List Int} : ∀ (fs : List Field) (k : Nat), intFields P k fs = true → k + fs.length = xs.length → k + fs.length = ys.length → (Op.eqFields (d + 1) (ints xs) (ints ys) fs).run P w = .ok (eqI (xs.drop k) (ys.drop k)) w
  | [], k, _, h1, h2 => by
    rw [List.drop_of_length_le (by simp at h1; omega)]
    simp [Op.eqFields, eqI]
  | f :: fs, k, h, h1, h2 => by
    simp only [List.length_cons] at h1 h2
    simp only [intFields, Bool.and_eq_true, Bool.not_eq_true'] at h
    obtain ⟨⟨hn, ho, hi⟩, hr⟩ := h
    have ho := Nat.eq_of_beq_eq_true ho
    have hu : P.underlying f.type = some (.int .i64) := by
      unfold isI64 at hi
      split at hi
      · assumption
      · cases hi
    have hk : ∀ (zs : List Int) (hz : k < zs.length), (part f.type (ints zs) f.offset).run P w = .ok (.int .i64 zs[k]) w := fun zs hz => by
      have : (ints zs)[f.offset]? = some (.int .i64 zs[k]) := by rw [ho]; simp [ints, hz]
      simp [part, isAgg, run_underlying hu, this]
    have hn' : f.name ≠ "_" := by simpa using hn
    rw [Op.eqFields]
    simp only [if_pos hn', Sem.run_bind, hk xs (by omega), hk ys (by omega), run_equalIn_int w d f.type .i64 .i64 _ _ hu, Result.andThen_ok]
    rw [List.drop_eq_getElem_cons (l := xs) (by omega), List.drop_eq_getElem_cons (l := ys) (by omega)]
    have ih := eqFields_ints d w (xs := xs) (ys := ys) fs (k + 1) hr (by omega) (by omega)
    simp only [eqI]
    cases hq : xs[k] == ys[k] with
    | true => simp only [Bool.not_true, Bool.false_eq_true, if_false, Bool.true_and]; exact ih
    | false => simp
theorem EqTI.run {n : Nat} [hQ : EqTI P t n] {vs us : Array Value} {as bs : List Int} (ha : ofInts vs.toList = some as) (hb : ofInts us.toList = some bs) (h1 : as.length = n) (h2 : bs.length = n) (w : World) :
    (Op.equalIn 10000 t (.agg vs) (.agg us)).run P w = .ok (eqI as bs) w := by
  have e1 : vs = ints as := by rw [ints, ← ofInts_eq ha]
  have e2 : us = ints bs := by rw [ints, ← ofInts_eq hb]
  subst e1 e2
  rw [run_equalIn_struct w 9999 t _ _ hQ.u hQ.p, eqFields_ints 9998 w (xs := as) (ys := bs) _ 0 hQ.f (by rw [hQ.l]; omega) (by rw [hQ.l]; omega)]
  rfl
theorem eqI_eq : ∀ {as bs : List Int}, as.length = bs.length → (eqI as bs = true ↔ as = bs)
  | [], [], _ => by simp [eqI]
  | a :: as, b :: bs, h => by
    simp only [eqI, Bool.and_eq_true, beq_iff_eq, List.cons.injEq]
    rw [eqI_eq (by simpa using h)]
theorem PS.eqS {n : Nat} [hQ : EqTI P t n] {vs us : Array Value} {as bs : List Int} (hy : ev E y = some (.agg vs) := by rfl) (hz : ev E z = some (.agg us) := by rfl) (ha : ofInts vs.toList = some as := by rfl) (hb : ofInts us.toList = some bs := by rfl) (h1 : as.length = n := by rfl) (h2 : bs.length = n := by rfl) :
    PS P x E L (.binOp .eql t y z t') ty (.bool (eqI as bs)) := ⟨fun s w _ _ _ _ hE _ => by
  simp only [execOp, hE.ev hy, hE.ev hz]
  simp [run_eqGuard_agg w _ t y z _ _ hQ.g, run_eql_struct, EqTI.run ha hb h1 h2 w]⟩
theorem PS.neS {n : Nat} [hQ : EqTI P t n] {vs us : Array Value} {as bs : List Int} (hy : ev E y = some (.agg vs) := by rfl) (hz : ev E z = some (.agg us) := by rfl) (ha : ofInts vs.toList = some as := by rfl) (hb : ofInts us.toList = some bs := by rfl) (h1 : as.length = n := by rfl) (h2 : bs.length = n := by rfl) :
    PS P x E L (.binOp .neq t y z t') ty (.bool (!(eqI as bs))) := ⟨fun s w _ _ _ _ hE _ => by
  simp only [execOp, hE.ev hy, hE.ev hz]
  simp [run_eqGuard_agg w _ t y z _ _ hQ.g, run_neq_struct, EqTI.run ha hb h1 h2 w]⟩
/-! ### boxed rows -/
/-- A slice variable that holds a row of its own. -/
def boxR {α : Type} (b : Nat) (T : TypeId) (q : Enc α) (e : TypeId) (xs : List α) : HP := fun h => ∃ v, sepL [blk b (.cells #[v] T (0, 0)), row q e v xs] h
theorem Pick.box {α : Type} {q : Enc α} {xs : List α} {b : Nat} {e T : TypeId} (h1 : Pick L (blk b (.cells #[v] T (0, 0))) L1) (h2 : Pick L1 (row q e v xs) L2) : Pick L (boxR b T q e xs) L2 := ⟨fun g hg => by
  obtain ⟨g1, g2, d, rfl, ha, hb⟩ := h1.h g hg
  obtain ⟨g3, g4, d', rfl, hc, hd⟩ := h2.h g2 hb
  obtain ⟨da, db⟩ := disj_join.1 d
  refine ⟨PH.join g1 g3, g4, disj_comm (disj_join.2 ⟨disj_comm db, disj_comm d'⟩), (join_assoc _ _ _).symm, ⟨v, g1, g3, da, rfl, ha, g3, (fun _ => none), fun _ => .inr rfl, ?_, hc, fun _ => rfl⟩, hd⟩
  funext j; unfold PH.join; cases g3 j <;> rfl⟩
theorem SAT.unbox {α : Type} {q : Enc α} {xs : List α} {b : Nat} {e T : TypeId} {w0 w : World} {O : Nat → Prop} (h : SAT w0 O (boxR b T q e xs :: L) w) : ∃ v, SAT w0 O (blk b (.cells #[v] T (0, 0)) :: row q e v xs :: L) w := by
  obtain ⟨hK, g, he, hd, g1, g2, d, rfl, ⟨v, hv⟩, hL⟩ := h
  exact ⟨v, hK, _, he, hd, sepL_append (L1 := [blk b (.cells #[v] T (0, 0)), row q e v xs]) |>.2 ⟨g1, g2, d, rfl, hv, hL⟩⟩
theorem iBox {α : Type} {L L' : List HP} {b : Nat} {T : TypeId} {q : Enc α} {e : TypeId} {xs : List α} (h : Pick L (boxR b T q e xs) L') : Pick L (boxR b T q e xs) L' := h
theorem iEBox {α : Type} {L L' : List HP} {b : Nat} {T : TypeId} {q : Enc α} {e : TypeId} {xs : List α} (h : Ent L (boxR b T q e xs :: L')) : Ent L (boxR b T q e xs :: L') := h
theorem OJ.unbox {α : Type} {q : Enc α} {xs : List α} {b : Nat} {e T : TypeId} (h : ∀ v, OJ P x E (blk b (.cells #[v] T (0, 0)) :: row q e v xs :: L) ops rest k) : OJ P x E (boxR b T q e xs :: L) ops rest k := ⟨fun a w hE hS => by
  obtain ⟨v, hS⟩ := hS.unbox
  exact (h v).h a w hE hS⟩
theorem J.unbox {c : Code} {α : Type} {q : Enc α} {xs : List α} {b : Nat} {e T : TypeId} (h : ∀ v, J P x E (blk b (.cells #[v] T (0, 0)) :: row q e v xs :: L) c k) : J P x E (boxR b T q e xs :: L) c k := ⟨fun a w hE hS => by
  obtain ⟨v, hS⟩ := hS.unbox
  exact (h v).h a w hE hS⟩
theorem AJ.unbox {α : Type} {q : Enc α} {xs : List α} {s : Nat × Nat} {b fuel : Nat} {e T : TypeId} {L0 L1 : List HP} {l : List Oper} {dl : List Nat} (h : ∀ v, AJ P x E (blk b (.cells #[v] T (0, 0)) :: row q e v xs :: L) L0 L1 s l fuel dl k) : AJ P x E (boxR b T q e xs :: L) L0 L1 s l fuel dl k := ⟨fun hst a w hE hS h1 h2 => by
  obtain ⟨v, hS⟩ := hS.unbox
  exact (h v).h hst a w hE hS h1 h2⟩
theorem OJ.unboxP {α : Type} {q : Enc α} {xs : List α} {b : Nat} {e T : TypeId} (h : ∀ v, OJ P x E (blk b (.cells #[v] T (0, 0)) :: row q e v xs :: L') ops rest k) (hp : autoParam (Pick L (boxR b T q e xs) L') APB.h._autoParam) : OJ P x E L ops rest k := ⟨fun a w hE hS => by
  obtain ⟨v, hS⟩ := (hS.pick hp).unbox
  exact (h v).h a w hE hS⟩
theorem J.unboxP {c : Code} {α : Type} {q : Enc α} {xs : List α} {b : Nat} {e T : TypeId} (h : ∀ v, J P x E (blk b (.cells #[v] T (0, 0)) :: row q e v xs :: L') c k) (hp : autoParam (Pick L (boxR b T q e xs) L') APB.h._autoParam) : J P x E L c k := ⟨fun a w hE hS => by
  obtain ⟨v, hS⟩ := (hS.pick hp).unbox
  exact (h v).h a w hE hS⟩
/-! ### a result that lies in a cell -/
theorem resC {cc : Tmp} {rt : TypeId} {b f : Nat} {vs : List Value} {cs : Array Value} {T : TypeId} {sz bt : Nat} {zv : Value} [hT : Ty P rt true sz bt zv] (hf : x.fn.results = #[.cell cc rt]) (hv : lookup E cc = some (.pointer (some ⟨b, f, none⟩))) (hp : Pick L (blk b (.cells cs T (0, 0))) L') (hs : slc cs.toList f sz = vs) (hl : Nat.ble (f + sz) cs.toList.length = true) {a : Act} {w : World}
    (hE : EnvOK x.n x.ds E a) (hS : SAT x.w0 x.O L w) : (results x.fn a.tmps).run P w = .ok (.agg vs.toArray) w := by
  have h := (PS.loadA (P := P) (x := x) (E := E) (L := L) (t := rt) (y := .tmp cc) (ty := 0) hv hp hs hl).h a w none "" #[] none hE hS
  have h2 : (loadVar rt ⟨b, f, none⟩).run P w = .ok (.agg vs.toArray) w := by
    have he := hE.get cc _ hv
    simp only [execOp, Act.eval, he] at h
    simp [Instr.loadAt, Instr.sureAddr, Sem.run_bind] at h
    revert h
    cases (loadVar rt ⟨b, f, none⟩).run P w <;> simp [Result.andThen]
  have he := hE.get cc _ hv
  rw [Array.getD_eq_getD_getElem?] at he
  simp [results, hf, he, asAddr, h2]
theorem J.retC {cc : Tmp} {rt : TypeId} {b f : Nat} {vs : List Value} {cs : Array Value} {T : TypeId} {sz bt : Nat} {zv : Value} (h : ∀ w, SAT x.w0 x.O L w → x.R (.returned (.agg vs.toArray)) w) (hf : x.fn.results = #[.cell cc rt] := by rfl) (hT : Ty P rt true sz bt zv := by infer_instance) (hv : lookup E cc = some (.pointer (some ⟨b, f, none⟩)) := by rfl)
    (hp : autoParam (Pick L (blk b (.cells cs T (0, 0))) L') APK.h._autoParam) (hs : slc cs.toList f sz = vs := by rfl) (hl : Nat.ble (f + sz) cs.toList.length = true := by rfl) (hq : x.Q0 = bodyPost P x.fn x.R := by rfl) (hds : x.ds = [] := by rfl) : J P x E L .ret k := ⟨fun _ w hE hS =>
  wpIn_ret (post_ret (hq ▸ ⟨by rw [hE.defers, hds]; rfl, _, resC hf hv hp hs hl hE hS, h w hS⟩))⟩
theorem dropD {α : Type} {l : List α} {i : Nat} {d : α} (h : i < l.length) : l.drop i = l.getD i d :: l.drop (i + 1) := by
  rw [List.drop_eq_getElem_cons h]
  simp [List.getD_eq_getElem?_getD, h]
theorem takeAll {α : Type} (l : List α) (n : Nat) : (l.drop n).take (l.length - n) = l.drop n := List.take_of_length_le (by simp)
theorem tup2 (a b : Value) : tup [a, b] = .tuple #[a, b] := rfl
theorem tup1 (a : Value) : tup [a] = a := rfl
theorem Ent.row {α : Type} {q : Enc α} {xs xs' : List α} {e : TypeId} (h : Ent L1 L2) (he : xs = xs') (hp : autoParam (Pick L (SL.row q e v xs) L1) APK.h._autoParam) : Ent L (SL.row q e v xs' :: L2) := he ▸ Ent.pick hp h
theorem Ent.box {α : Type} {q : Enc α} {xs xs' : List α} {b : Nat} {e T : TypeId} (h : Ent L1 L2) (he : xs = xs') (hp : autoParam (Pick L (boxR b T q e xs) L1) APK.h._autoParam) : Ent L (boxR b T q e xs' :: L2) := he ▸ Ent.pick hp h
theorem Ent.box2 {α : Type} {q : Enc α} {xs xs' : List α} {b : Nat} {e T : TypeId} {L3 : List HP} (h : Ent L2 L3) (he : xs = xs') (h1 : autoParam (Pick L (blk b (.cells #[v] T (0, 0))) L1) APK.h._autoParam) (h2 : autoParam (Pick L1 (SL.row q e v xs) L2) APK.h._autoParam) : Ent L (boxR b T q e xs' :: L3) := he ▸ Ent.pick (Pick.box h1 h2) h
theorem Ent.blk {b : Nat} {o o' : Obj} (h : Ent L1 L2) (he : o = o') (hp : autoParam (Pick L (SL.blk b o) L1) APB.h._autoParam) : Ent L (SL.blk b o' :: L2) := he ▸ Ent.pick hp h
theorem Ent.any {p : HP} (h : Ent L1 L2) (hp : autoParam (Pick L p L1) APKR.h._autoParam) : Ent L (p :: L2) := Ent.pick hp h
/-! .. the same, the lists being alike as they stand (S), or by what they mean (L) -/
theorem Ent.rowS {α : Type} {q : Enc α} {xs xs' : List α} {e : TypeId} (h : Ent L1 L2) (hp : autoParam (Pick L (SL.row q e v xs) L1) APK.h._autoParam) (he : xs = xs' := by with_reducible rfl) : Ent L (SL.row q e v xs' :: L2) := he ▸ Ent.pick hp h
theorem Ent.boxS {α : Type} {q : Enc α} {xs xs' : List α} {b : Nat} {e T : TypeId} (h : Ent L1 L2) (hp : autoParam (Pick L (boxR b T q e xs) L1) APK.h._autoParam) (he : xs = xs' := by with_reducible rfl) : Ent L (boxR b T q e xs' :: L2) := he ▸ Ent.pick hp h
theorem Ent.box2S {α : Type} {q : Enc α} {xs xs' : List α} {b : Nat} {e T : TypeId} {L3 : List HP} (h : Ent L2 L3) (h1 : autoParam (Pick L (SL.blk b (.cells #[v] T (0, 0))) L1) APK.h._autoParam) (h2 : autoParam (Pick L1 (SL.row q e v xs) L2) APK.h._autoParam) (he : xs = xs' := by with_reducible rfl) : Ent L (boxR b T q e xs' :: L3) := he ▸ Ent.pick (Pick.box h1 h2) h
theorem Ent.rowL {α : Type} {q : Enc α} {xs xs' : List α} {e : TypeId} (h : Ent L1 L2) (hp : autoParam (Pick L (SL.row q e v xs) L1) APK.h._autoParam) (he : xs = xs' := by first | with_reducible rfl | rfl) : Ent L (SL.row q e v xs' :: L2) := he ▸ Ent.pick hp h
theorem Ent.boxL {α : Type} {q : Enc α} {xs xs' : List α} {b : Nat} {e T : TypeId} (h : Ent L1 L2) (hp : autoParam (Pick L (boxR b T q e xs) L1) APK.h._autoParam) (he : xs = xs' := by first | with_reducible rfl | rfl) : Ent L (boxR b T q e xs' :: L2) := he ▸ Ent.pick hp h
theorem Ent.box2L {α : Type} {q : Enc α} {xs xs' : List α} {b : Nat} {e T : TypeId} {L3 : List HP} (h : Ent L2 L3) (h1 : autoParam (Pick L (SL.blk b (.cells #[v] T (0, 0))) L1) APK.h._autoParam) (h2 : autoParam (Pick L1 (SL.row q e v xs) L2) APK.h._autoParam) (he : xs = xs' := by first | with_reducible rfl | rfl) : Ent L (boxR b T q e xs' :: L3) := he ▸ Ent.pick (Pick.box h1 h2) h
theorem Ent.blkS {b : Nat} {o o' : Obj} (h : Ent L1 L2) (hp : autoParam (Pick L (SL.blk b o) L1) APB.h._autoParam) (he : o = o' := by rfl) : Ent L (SL.blk b o' :: L2) := he ▸ Ent.pick hp h
theorem JL.useL {c : Code} {E' : List (Nat × Value)} (h : JL P x E' L' c k) (hL : Ent L L') (hE : sub E' E := by repeat (first | exact sub.nil | refine sub.cons (by rfl) ?_)) : JL P x E L c k := JL.ent hL (JL.weaken hE h)
/-- A loop that carries a value. -/
theorem J.loopV {c : Code} {ι : Type} (Inv : ι → Value → Prop) (μ : ι → Nat) (E' : ι → Value → List (Nat × Value)) (L' : ι → Value → List HP) (i : ι) (u : Value) (hi : Inv i u)
    (hs : ∀ i u, Inv i u → (∀ j u', Inv j u' → μ j < μ i → JL P x (E' j u') (L' j u') c k) → J P x (E' i u) (L' i u) c (.loop c :: k)) (hE : sub (E' i u) E := by repeat (first | exact sub.nil | refine sub.cons (by rfl) ?_)) (hL : autoParam (Ent L (L' i u)) AENT.h._autoParam) : J P x E L (.loop c) k :=
  J.loopI (fun p : ι × Value => Inv p.1 p.2) (fun p => μ p.1) (fun p => E' p.1 p.2) (fun p => L' p.1 p.2) (i, u) hi (fun p hp ih => hs p.1 p.2 hp fun j u' h1 h2 => ih (j, u') h1 h2) hE hL
theorem J.loopW {c : Code} {ι κ : Type} (Inv : ι → κ → Value → Prop) (μ : ι → Nat) (E' : ι → κ → Value → List (Nat × Value)) (L' : ι → κ → Value → List HP) (i : ι) (a : κ) (u : Value) (hi : Inv i a u)
    (hs : ∀ i a u, Inv i a u → (∀ j a' u', Inv j a' u' → μ j < μ i → JL P x (E' j a' u') (L' j a' u') c k) → J P x (E' i a u) (L' i a u) c (.loop c :: k)) (hE : sub (E' i a u) E := by repeat (first | exact sub.nil | refine sub.cons (by rfl) ?_)) (hL : autoParam (Ent L (L' i a u)) AENT.h._autoParam) : J P x E L (.loop c) k :=
  J.loopI (fun p : ι × κ × Value => Inv p.1 p.2.1 p.2.2) (fun p => μ p.1) (fun p => E' p.1 p.2.1 p.2.2) (fun p => L' p.1 p.2.1 p.2.2) (i, a, u) hi (fun p hp ih => hs p.1 p.2.1 p.2.2 hp fun j a' u' h1 h2 => ih (j, a', u') h1 h2) hE hL
theorem J.retI {rs : List ResultVar} {a b : Int} (he : a = b) (hR : x.R = Ends x.w0 x.O (fun _ : Unit => Value.int .i64 b) (fun _ => []) (fun _ => True) := by rfl) (hf : x.fn.results = rs.toArray := by rfl) (hv : resV E rs = some [.int .i64 a] := by rfl) (hq : x.Q0 = bodyPost P x.fn x.R := by rfl) (hds : x.ds = [] := by rfl) : J P x E L .ret k := by
  subst he
  exact J.ret (vs := [.int .i64 a]) (fun w hS => hR ▸ ends () trivial rfl Ent.nil w hS) hf hv hq hds
/-- Fields compared one by one. -/
theorem eqf_one {d : Nat} {xs ys : Array Value} {f : Field} {a b : Int} {w : World} (hn : (f.name == "_") = false) (ha : (part f.type xs f.offset).run P w = .ok (.int .i64 a) w) (hb : (part f.type ys f.offset).run P w = .ok (.int .i64 b) w) (hk : P.underlying f.type = some (.int .i64)) :
    (Op.eqFields (d + 1) xs ys [f]).run P w = .ok (a == b) w := by
  have hn' : f.name ≠ "_" := by simpa using hn
  simp only [Op.eqFields, if_pos hn', Sem.run_bind, ha, hb, run_equalIn_int w d f.type .i64 .i64 a b hk, Result.andThen_ok]
  cases (a == b) <;> simp
theorem eqf_cons {d : Nat} {xs ys : Array Value} {f : Field} {fs : List Field} {a b : Int} {r : Bool} {w : World} (hn : (f.name == "_") = false) (ha : (part f.type xs f.offset).run P w = .ok (.int .i64 a) w) (hb : (part f.type ys f.offset).run P w = .ok (.int .i64 b) w) (hk : P.underlying f.type = some (.int .i64))
    (hr : (Op.eqFields (d + 1) xs ys fs).run P w = .ok r w) : (Op.eqFields (d + 1) xs ys (f :: fs)).run P w = .ok (a == b && r) w := by
  have hn' : f.name ≠ "_" := by simpa using hn
  rw [Op.eqFields]
  simp only [if_pos hn', Sem.run_bind, ha, hb, run_equalIn_int w d f.type .i64 .i64 a b hk, Result.andThen_ok]
  cases (a == b)
  · simp
  · simpa using hr
theorem EqT2.mk' {fs : Array Field} {f1 f2 : Field} (hg : P.eqGuardType P.depth t = false) (hu : P.underlying t = some (.struct fs)) (hp : P.stoodInHeld t = false) (hfs : fs = #[f1, f2])
    (h1 : (f1.name == "_") = false) (h2 : (f2.name == "_") = false) (k1 : P.underlying f1.type = some (.int .i64)) (k2 : P.underlying f2.type = some (.int .i64))
    (p1 : ∀ (a b : Int) w, (part f1.type #[.int .i64 a, .int .i64 b] f1.offset).run P w = .ok (.int .i64 a) w) (p2 : ∀ (a b : Int) w, (part f2.type #[.int .i64 a, .int .i64 b] f2.offset).run P w = .ok (.int .i64 b) w) : EqT2 P t := by
  subst hfs
  refine ⟨hg, fun a b c d w => ?_⟩
  have hf : P.fieldsOf t = #[f1, f2] := by simp [Program.fieldsOf, hu]
  rw [run_equalIn_struct w 9999 t _ _ (by rw [hf]; exact hu) hp, hf]
  exact eqf_cons h1 (p1 a b w) (p1 c d w) k1 (eqf_one h2 (p2 a b w) (p2 c d w) k2)
end
end Go.SL

/- Function values; ranges over functions: iterators' contracts, rounds, leaving with marks. -/
set_option linter.unusedVariables false
set_option linter.unusedSimpArgs false
namespace Go.SL
open Go.RowKit

/-- Resources as one. -/
def grp (L : List HP) : HP := fun h => sepL L h
/-- One of several. -/
def exR {ι : Type} (L : ι → List HP) : HP := fun h => ∃ i, sepL (L i) h
theorem SAT.grp {w0 w : World} {O : Nat → Prop} {L1 L2 : List HP} (h : SAT w0 O (L1 ++ L2) w) : SAT w0 O (SL.grp L1 :: L2) w :=
  ⟨h.1, let ⟨g, a, b, c⟩ := h.2; ⟨g, a, b, let ⟨h1, h2, d, e, p, q⟩ := sepL_append.1 c; ⟨h1, h2, d, e, p, q⟩⟩⟩
theorem SAT.ungrp {w0 w : World} {O : Nat → Prop} {L1 L2 : List HP} (h : SAT w0 O (SL.grp L1 :: L2) w) : SAT w0 O (L1 ++ L2) w :=
  ⟨h.1, let ⟨g, a, b, c⟩ := h.2; ⟨g, a, b, let ⟨h1, h2, d, e, p, q⟩ := c; sepL_append.2 ⟨h1, h2, d, e, p, q⟩⟩⟩
theorem SAT.ex {ι : Type} {L : ι → List HP} {w0 w : World} {O : Nat → Prop} {L2 : List HP} (h : SAT w0 O (exR L :: L2) w) : ∃ i, SAT w0 O (L i ++ L2) w := by
  obtain ⟨hk, g, a, b, h1, h2, d, e, ⟨i, p⟩, q⟩ := h
  exact ⟨i, hk, g, a, b, sepL_append.2 ⟨h1, h2, d, e, p, q⟩⟩
theorem SAT.inEx {ι : Type} {L : ι → List HP} (i : ι) {w0 w : World} {O : Nat → Prop} {L2 : List HP} (h : SAT w0 O (L i ++ L2) w) : SAT w0 O (exR L :: L2) w :=
  ⟨h.1, let ⟨g, a, b, c⟩ := h.2; ⟨g, a, b, let ⟨h1, h2, d, e, p, q⟩ := sepL_append.1 c; ⟨h1, h2, d, e, ⟨i, p⟩, q⟩⟩⟩
theorem SAT.perm {w0 w : World} {O : Nat → Prop} {L L' : List HP} (hp : ∀ h, sepL L h → sepL L' h) (h : SAT w0 O L w) : SAT w0 O L' w := ⟨h.1, let ⟨g, a, b, c⟩ := h.2; ⟨g, a, b, hp g c⟩⟩
theorem Rd.ent {w0 : World} {O : Nat → Prop} {L L' : List HP} {R : World → Prop} (he : Ent L L') (h : Rd w0 O L' R) : Rd w0 O L R := ⟨fun w hw => h.h w (hw.ent he)⟩
theorem RdAll.mem {w0 : World} {O : Nat → Prop} {L : List HP} {Rs : List (World → Prop)} {R : World → Prop} (h : RdAll w0 O L Rs) (hR : R ∈ Rs) : Rd w0 O L R := h.h R hR

section
variable {P : Program} {x : Cx} {E : List (Nat × Value)} {L L' L1 L2 : List HP} {k : List Fr} {ops : Array Oper} {rest : List Oper}
variable {ty t t' t'' : TypeId} {y z c : Operand} {v u : Value}

/-! ### function values -/
theorem PS.makeFunc {fn : Fn} {cs : List Operand} {bs : List Value} (hv : evs E cs = some bs := by rfl) : PS P x E L (.makeFunc fn #[] cs.toArray) ty (.func fn #[] bs.toArray) := ⟨fun a w _ _ _ _ hE _ => by
  simp [execOp, Instr.makeFunc, hE.evs hv]⟩
/-- A call of a function value. -/
theorem AS.callV {f : FuncId} {as : List Operand} {ts : Array TypeId} {args bs : List Value} {Rs : List (World → Prop)} {X : Type} {ret : X → Value} {Lo : X → List HP} {po : X → Prop} [hF : FnB P f]
    (hs : Spec P f (args ++ bs) Rs L1 ret Lo po) (hy : ev E y = some (.func (.func f) #[] bs.toArray) := by rfl) (ha : evs E as = some args := by rfl) (hL : Parts L L1 L2 := by first | exact Parts.nil | exact Parts.cons xPK Parts.nil | exact Parts.cons xPK (Parts.cons xPK Parts.nil) | exact Parts.cons xPK (Parts.cons xPK (Parts.cons xPK Parts.nil)) | fail) (hR : RdAll x.w0 x.O L2 Rs := by first | exact RdAll.nil | exact RdAll.cons xRD RdAll.nil | exact RdAll.cons xRD (RdAll.cons xRD RdAll.nil) | exact RdAll.cons xRD (RdAll.cons xRD (RdAll.cons xRD RdAll.nil)) | fail) :
    AS P x E L (.call ⟨.value y, as.toArray, ts⟩) ty (fun v L3 => ∃ y, po y ∧ v = ret y ∧ L3 = Lo y ++ L2) := by
  refine ⟨fun a w dst pos aft g next Q hE hS hn => ?_⟩
  have hS' : SAT x.w0 x.O (L1 ++ L2) w := ⟨hS.1, let ⟨g, a, b, c⟩ := hS.2; ⟨g, a, b, hL.h g c⟩⟩
  obtain ⟨Oc, h1, h2, h3⟩ := hS'.split
  refine .inl (wp_calls (f := f) (args := (args ++ bs).toArray) ?_ (hs w Oc (fun R hR' => h2 R (hR.h R hR')) h1) ?_)
  · have := hF.h (args ++ bs).toArray w
    simp only [execOp, resolve, hE.ev hy, Deferred.ofValue]
    simp [invoke, hE.evs ha]
    simpa using this
  · rintro e w' ⟨y, hy, rfl, hS2⟩
    exact ⟨_, rfl, hn _ _ _ ⟨y, hy, rfl, rfl⟩ (h3 _ _ hS2)⟩

/-- What can be read is so. -/
theorem J.know {c : Code} {R : World → Prop} (hk : ∀ w, R w → J P x E L c k) (hr : autoParam (Rd x.w0 x.O L R) ARD.h._autoParam) : J P x E L c k := ⟨fun a w hE hS => (hk w (hr.h w hS)).h a w hE hS⟩
/-! ### iterators -/
/-- The value that a range hands to the function it ranges over. -/
def yv (l : Nat) : Value := .func (.yield l) #[] #[]
/-- What a call of yield does, from p (whatever lies beside). -/
def YAt (P : Program) (w0 : World) (O : Nat → Prop) (l : Nat) (args : List Value) (p pt pf : HP) : Prop :=
  ∀ (F : List HP) (w : World), SAT w0 O (p :: F) w → ∃ f tmps assign body, (Instr.yield l args.toArray).run P w = .ok (.round l f tmps assign body) w ∧
    RoundIn Fence.wide 0 P l f tmps assign body w (fun e w' => (e = .returned (.bool true) ∧ SAT w0 O (pt :: F) w') ∨ (e = .returned (.bool false) ∧ SAT w0 O (pf :: F) w'))
def IEnds (w0 : World) (O : Nat → Prop) (p : HP) (px : Nat → HP) (e : Ending) (w' : World) : Prop := ∃ v, e = .returned v ∧ (SAT w0 O [p] w' ∨ ∃ k, SAT w0 O [px k] w')
/-- An iterator's contract: it hands xs to yield, one by one, until yield says no. -/
structure IterSpec (P : Program) (gf : FuncId) (lb : List Value) (Rs : List (World → Prop)) (Lin : List HP) (xs : List (List Value)) : Prop where
  h : ∀ w0 O (l : Nat) (Iy Ix : Nat → HP), (∀ k, RdAll w0 O [Iy k] Rs) → (∀ k a, xs[k]? = some a → YAt P w0 O l a (Iy k) (Iy (k + 1)) (Ix k)) →
    ∀ w, SAT w0 O (Iy 0 :: Lin) w → Calls P gf (yv l :: lb).toArray w (IEnds w0 O (Iy xs.length) Ix)
theorem IterSpec.mk' {f : FuncId} {fn : Func} {c : Code} {lb : List Value} {Rs : List (World → Prop)} {Lin : List HP} {xs : List (List Value)} {n : Nat}
    (hf : P.funcs[f]? = some fn) (hb : fn.body = some c) (hn : fn.ntmps = n) (hl : Nat.ble (lb.length + 1) n = true)
    (h : ∀ w0 O (l : Nat) (Iy Ix : Nat → HP), (∀ k, RdAll w0 O [Iy k] Rs) → (∀ k a, xs[k]? = some a → YAt P w0 O l a (Iy k) (Iy (k + 1)) (Ix k)) →
      J P ⟨fn, n, IEnds w0 O (Iy xs.length) Ix, w0, O, none, [], bodyPost P fn (IEnds w0 O (Iy xs.length) Ix), body_pan⟩ (argE 0 (yv l :: lb)) (Iy 0 :: Lin) c []) : IterSpec P f lb Rs Lin xs := by
  refine ⟨fun w0 O l Iy Ix hR hY w hS => ?_⟩
  refine callsIn_wide.1 (callsIn_of_wp (F := Fence.wide) (n := 0) hf hb trivial ((h w0 O l Iy Ix hR hY).h _ w ⟨?_, rfl, ?_⟩ hS))
  · have := Nat.le_of_ble_eq_true hl
    simp [hn]
    omega
  · intro t v hv
    obtain ⟨_, h2⟩ := argE_get 0 _ t v hv
    simp only [Nat.sub_zero] at h2
    have hlt := (List.getElem?_eq_some_iff.1 h2).1
    have := (List.getElem?_eq_some_iff.1 h2).2
    show ((yv l :: lb).toArray ++ Array.replicate (fn.ntmps - (yv l :: lb).toArray.size) undef).getD t undef = v
    rw [Array.getD_eq_getD_getElem?, Array.getElem?_append_left (by simpa using hlt), List.getElem?_toArray, h2]
    rfl
/-- yield is called. -/
theorem AS.yield {l : Nat} {as : List Operand} {ts : Array TypeId} {args : List Value} {p pt pf : HP} (hY : YAt P x.w0 x.O l args p pt pf) (hy : ev E y = some (yv l) := by rfl) (ha : evs E as = some args := by rfl) (hp : autoParam (Pick L p L') APK.h._autoParam) :
    AS P x E L (.call ⟨.value y, as.toArray, ts⟩) ty (fun v L3 => (v = .bool true ∧ L3 = pt :: L') ∨ (v = .bool false ∧ L3 = pf :: L')) := by
  refine ⟨fun a w dst pos aft g next Q hE hS hn => ?_⟩
  obtain ⟨f, tmps, assign, body, h1, h2⟩ := hY L' w (hS.pick hp)
  refine .inr ⟨l, f, tmps, assign, body, w, ?_, RoundIn.mono h2 ?_⟩
  · simp only [execOp, resolve, hE.ev hy, yv, Deferred.ofValue]
    simp [invoke, hE.evs ha]
    simpa using h1
  · rintro e w' (⟨rfl, h⟩ | ⟨rfl, h⟩)
    · exact ⟨_, rfl, hn _ _ _ (.inl ⟨rfl, rfl⟩) h⟩
    · exact ⟨_, rfl, hn _ _ _ (.inr ⟨rfl, rfl⟩) h⟩
theorem iends {w0 : World} {O : Nat → Prop} {p : HP} {px : Nat → HP} (hL : Ent L [p]) : ∀ w, SAT w0 O L w → IEnds w0 O p px (.returned v) w := fun _ hS => ⟨v, rfl, .inl (hS.ent hL)⟩
theorem iendsX {w0 : World} {O : Nat → Prop} {p : HP} {px : Nat → HP} (k : Nat) (hL : Ent L [px k]) : ∀ w, SAT w0 O L w → IEnds w0 O p px (.returned v) w := fun _ hS => ⟨v, rfl, .inr ⟨k, hS.ent hL⟩⟩

/-! ### rounds -/
def lp (rc : Loop) (st : LoopState) (pe : Option Code) : Obj := .loop { rc with state := st, pending := pe }
/-- How a round must end. -/
def Rr (x : Cx) (l : Nat) (rc : Loop) (fr : HP) (Lm : List HP) (Lx : Code → List HP) (e : Ending) (w' : World) : Prop :=
  (e = .returned (.bool true) ∧ SAT x.w0 x.O (fr :: blk l (lp rc .ready none) :: Lm) w') ∨ (e = .returned (.bool false) ∧ ∃ c, SAT x.w0 x.O (fr :: blk l (lp rc .done (some c)) :: Lx c) w')
@[reducible] def xB (P : Program) (x : Cx) (l : Nat) (rc : Loop) (fr : HP) (Lm : List HP) (Lx : Code → List HP) : Cx :=
  ⟨x.fn, x.n, x.R, x.w0, x.O, some l, [], roundPost P l (Rr x l rc fr Lm Lx), fun _ _ _ _ _ h => h.elim⟩
def asgQ (P : Program) (l : Nat) (body : Code) (Q : Exit → Act → World → Prop) : Exit → Act → World → Prop :=
  Exit.then (fun a w => ∃ w2, (Instr.beginRound l).run P w = .ok () w2 ∧ body.wpIn (fen (some l)) 0 P Q a w2) (fun _ _ _ => False)
@[reducible] def xA (P : Program) (x : Cx) (l : Nat) (rc : Loop) (fr : HP) (Lm : List HP) (Lx : Code → List HP) (body : Code) : Cx :=
  ⟨x.fn, x.n, x.R, x.w0, x.O, some l, [], asgQ P l body (roundPost P l (Rr x l rc fr Lm Lx)), fun _ _ _ _ _ h => h.elim⟩
theorem SAT.putObj {w0 w : World} {O : Nat → Prop} {b : Nat} {o : Obj} (o' : Obj) (h : SAT w0 O (blk b o :: L) w) : SAT w0 O (blk b o' :: L) (w.putObj b o') :=
  h.put rfl rfl rfl World.putObj_size (fun j hj => World.putObj_heap_other hj) (World.putObj_heap_same (Array.getElem?_eq_some_iff.1 h.read).1)
variable {l : Nat} {rc : Loop} {fr : HP} {Lm : List HP} {Lx : Code → List HP} {body : Code}
theorem JK.begin (h : J P (xB P x l rc fr Lm Lx) E (SL.blk l (lp rc .busy none) :: L') body []) (hp : autoParam (Pick L (SL.blk l (lp rc .ready none)) L') APK.h._autoParam) : JK P (xA P x l rc fr Lm Lx body) E L [] := ⟨fun a w hE hS => by
  have hS' := hS.pick hp
  exact ⟨_, run_beginRound (r := { rc with state := .ready, pending := none }) hS'.read rfl, h.h a _ ⟨hE.size, hE.defers, hE.get⟩ (hS'.putObj _)⟩⟩
theorem sepL_two {p q : HP} {h : PH} (hh : sepL (p :: q :: L) h) : sepL (q :: p :: L) h := sepL_swap hh
theorem JK.more (h : Ent L (fr :: SL.blk l (lp rc .busy none) :: Lm)) : JK P (xB P x l rc fr Lm Lx) E L [] := ⟨fun a w hE hS => by
  have hS' := (hS.ent h).perm (fun _ => sepL_two)
  refine ⟨_, _, run_endRound none hS'.read, .inl ⟨rfl, ?_⟩⟩
  exact (hS'.putObj _).perm (fun _ => sepL_two)⟩
theorem post_up {e : Exit} {a : Act} {w : World} (he : e = .ret ∨ ∃ c, e = .panic c) : ∀ {k : List Fr}, x.Q0 e a w → post P x k e a w
  | [], h => h
  | .code _ :: k, h => by rcases he with rfl | ⟨c, rfl⟩ <;> exact post_up (k := k) (by simp) h
  | .loop _ :: k, h => by rcases he with rfl | ⟨c, rfl⟩ <;> exact post_up (k := k) (by simp) h
  | .blk _ :: k, h => by rcases he with rfl | ⟨c, rfl⟩ <;> exact post_up (k := k) (by simp) h
theorem post_out {id : Nat} {a : Act} {w : World} : ∀ {k : List Fr}, popTo id k = none → x.Q0 (.exit id) a w → post P x k (.exit id) a w
  | [], _, h => h
  | .code c :: k, h, hp => post_out (k := k) h hp
  | .loop c :: k, h, hp => post_out (k := k) h hp
  | .blk i :: k, h, hp => by
    show (if id = i then post P x k .normal a w else post P x k (.exit id) a w)
    simp only [popTo] at h
    split at h
    · cases h
    · rename_i hb
      rw [if_neg (fun e => by subst e; rw [Nat.beq_refl] at hb; cases hb)]
      exact post_out (k := k) h hp
theorem stopR (jump : Code) (h : Ent L (fr :: blk l (lp rc .busy none) :: Lx jump)) {w : World} (hS : SAT x.w0 x.O L w) : ∃ v w', (Instr.endRound l (some jump)).run P w = .ok v w' ∧ Rr x l rc fr Lm Lx (.returned v) w' := by
  have hS' := (hS.ent h).perm (fun _ => sepL_two)
  refine ⟨_, _, run_endRound (some jump) hS'.read, .inr ⟨rfl, jump, ?_⟩⟩
  exact (hS'.putObj _).perm (fun _ => sepL_two)
theorem J.retR (h : Ent L (fr :: blk l (lp rc .busy none) :: Lx .ret)) : J P (xB P x l rc fr Lm Lx) E L .ret k := ⟨fun a w hE hS => wpIn_ret (post_ret (stopR (P := P) (Lm := Lm) (x := x) .ret h hS))⟩
theorem J.brk {id : Nat} (h : Ent L (fr :: blk l (lp rc .busy none) :: Lx (.exit id))) (hk : popTo id k = none := by rfl) : J P (xB P x l rc fr Lm Lx) E L (.exit id) k := ⟨fun a w hE hS => wpIn_exit (post_out hk (stopR (P := P) (Lm := Lm) (x := x) (.exit id) h hS))⟩

/-- What cannot be. -/
def noR : HP := fun _ => False
theorem J.no {c : Code} (hp : autoParam (Pick L noR L') APB.h._autoParam) : J P x E L c k := ⟨fun a w hE hS => by
  obtain ⟨_, _, _, _, _, _, _, _, h, _⟩ := hS.pick hp
  exact h.elim⟩
/-! ### the statement -/
def putL : List Nat → List Value → List (Nat × Value) → List (Nat × Value)
  | p :: ps, v :: vs, E => putL ps vs ((p, v) :: E)
  | _, _, E => E
def allLt (n : Nat) : List Nat → Bool
  | [] => true
  | p :: ps => match Nat.blt p n with
    | true => allLt n ps
    | false => false
theorem putL_ok {n : Nat} {ds ds' : List Nat} {df : List Deferred} (hd : df = markL ds') : ∀ (ps : List Nat) (vs : List Value) (E : List (Nat × Value)) (a : Act), EnvOK n ds E a → allLt n ps = true →
    EnvOK n ds' (putL ps vs E) { tmps := (ps.zip vs).foldl (fun t (p, v) => t.setIfInBounds p v) a.tmps, defers := df }
  | [], vs, E, a, h, _ => by cases vs <;> exact ⟨h.size, hd, h.get⟩
  | p :: ps, [], E, a, h, _ => ⟨h.size, hd, h.get⟩
  | p :: ps, v :: vs, E, a, h, hl => by
    simp only [allLt] at hl
    split at hl
    · rename_i hb
      have := EnvOK.put (d := some p) (v := v) h hb
      exact putL_ok hd ps vs _ _ this hl
    · cases hl
theorem post_ds {D : Nat} : ∀ {k : List Fr} {e : Exit} {a : Act} {w : World}, post P ⟨x.fn, x.n, x.R, x.w0, x.O, x.ro, D :: x.ds, x.Q0, x.pan⟩ k e a w ↔ post P x k e a w := by
  intro k
  have : post P ⟨x.fn, x.n, x.R, x.w0, x.O, x.ro, D :: x.ds, x.Q0, x.pan⟩ k = post P x k := by
    induction k with
    | nil => rfl
    | cons f k ih => cases f <;> simp only [post, ih]
  intro e a w
  rw [this]
@[reducible] def xD (x : Cx) (D : Nat) : Cx := ⟨x.fn, x.n, x.R, x.w0, x.O, x.ro, D :: x.ds, x.Q0, x.pan⟩
def dfr : Obj := .deferred (some [])
theorem sepL_turn {a b : HP} {A B : List HP} {h : PH} (hh : sepL ([a, b] ++ (A ++ B)) h) : sepL ((b :: a :: B) ++ A) h := by
  have h1 : sepL (b :: a :: (A ++ B)) h := sepL_two hh
  obtain ⟨g1, g2, d, rfl, p1, p2⟩ := sepL_append.1 (show sepL ([b, a] ++ (A ++ B)) h from h1)
  obtain ⟨g3, g4, d', rfl, q1, q2⟩ := sepL_append.1 p2
  obtain ⟨da, db⟩ := disj_join.1 d
  refine sepL_append.2 ⟨PH.join g1 g4, g3, ?_, ?_, sepL_append (L1 := [b, a]) |>.2 ⟨g1, g4, db, rfl, p1, q2⟩, q1⟩
  · exact disj_comm (disj_join.2 ⟨disj_comm da, d'⟩)
  · rw [join_assoc, join_comm (disj_comm d')]
theorem J.range {g : Operand} {ps : List Nat} {assign body : Code} {gf : FuncId} {lb : List Value} {Rs : List (World → Prop)} {Lin : List HP} {xs : List (List Value)} [hF : FnB P gf] (L' : Nat → List HP) (Lx : Nat → Code → List HP)
    (hI : IterSpec P gf lb Rs Lin xs) (hRs : ∀ k, RdAll x.w0 x.O (L' k) Rs) (hxs : ∀ a ∈ xs, a.length = ps.length)
    (hbody : ∀ l rc fr k a, xs[k]? = some a → J P (xA P x l rc fr (L' (k + 1)) (Lx k) body) (putL ps a E) (fr :: blk l (lp rc .ready none) :: L' k) assign [])
    (hdone : ∀ D, JK P (xD x D) E (blk D dfr :: L' xs.length) k) (hstop : ∀ D j c, J P (xD x D) E (blk D dfr :: Lx j c) c k)
    (hg : ev E g = some (.func (.func gf) #[] lb.toArray) := by rfl) (hL : autoParam (Ent L (Lin ++ L' 0)) AENT.h._autoParam) (hro : x.ro = none := by rfl) (hps : allLt x.n ps = true := by rfl) : J P x E L (.rangeFunc g ps.toArray assign body) k := by
  refine ⟨fun a w hE hS => ?_⟩
  rw [hro, fen_none]
  refine wpIn_rangeFunc ?_
  intro fn hfn
  obtain ⟨rc, hrc⟩ : ∃ rc : Loop, rc = { state := .ready, pending := none, fn, tmps := a.tmps, params := ps.toArray, assign, body, defers := w.heap.size } := ⟨_, rfl⟩
  obtain ⟨D, hD⟩ : ∃ D, D = w.heap.size := ⟨_, rfl⟩
  obtain ⟨l, hl⟩ : ∃ l, l = w.heap.size + 1 := ⟨_, rfl⟩
  obtain ⟨W1, hW1⟩ : ∃ W1, W1 = (w.alloc dfr).alloc (lp rc .ready none) := ⟨_, rfl⟩
  have hS1 : SAT x.w0 x.O ([blk l (lp rc .ready none), blk D dfr] ++ (Lin ++ L' 0)) W1 := by
    have := ((hS.ent hL).alloc dfr).alloc (lp rc .ready none)
    rw [World.size_alloc] at this
    rw [hW1, hl, hD]
    exact this
  have hlen : ∀ {j : Nat} {b : List Value}, xs[j]? = some b → b.length = ps.length := fun h => hxs _ (List.mem_of_getElem? h)
  refine ⟨l, [{ target := .collected D, args := #[] }], W1, { target := .fn (.func gf) lb.toArray, args := #[yv l] }, W1, gf, (yv l :: lb).toArray, W1, ?_, ?_, fun _ _ => trivial, ?_, (fun h => (by cases h)), ?_⟩
  · rw [show Fence.wide.round = none from rfl, hW1, hl, hD]
    have := run_enterLoop_outer (P := P) (w := w) fn a.tmps ps.toArray assign body
    rw [this, hrc]
    rfl
  · have h0 := hE.ev hg
    simp only [resolve, h0, Deferred.ofValue]
    simp [yv, Act.eval]
  · have := hF.h (yv l :: lb).toArray W1
    simp only [invoke]
    simpa using this
  · have hx : ∀ j, RdAll x.w0 x.O [SL.grp (blk D dfr :: blk l (lp rc .ready none) :: L' j)] Rs := fun j => ⟨fun R hR => ⟨fun W hW => by
      have h1 := SAT.ungrp (L2 := []) hW
      rw [List.append_nil] at h1
      exact ((hRs j).h R hR).h W (SAT.drop (L1 := [blk D dfr, blk l (lp rc .ready none)]) h1)⟩⟩
    have hSt : SAT x.w0 x.O ((blk D dfr :: blk l (lp rc .ready none) :: L' 0) ++ Lin) W1 := hS1.perm (fun _ => sepL_turn)
    have hcall := hI.h x.w0 x.O l (fun j => SL.grp (blk D dfr :: blk l (lp rc .ready none) :: L' j)) (fun j => exR fun c => blk D dfr :: blk l (lp rc .done (some c)) :: Lx j c) hx ?_ W1 (SAT.grp (L2 := Lin) hSt)
    · refine callsIn_wide.2 (hcall.mono ?_)
      have hds : ({ target := Target.collected D, args := #[] } : Deferred) :: a.defers = markL (D :: x.ds) := by rw [hE.defers]; rfl
      have hE' : EnvOK x.n (D :: x.ds) E { a with defers := [{ target := Target.collected D, args := #[] }] ++ a.defers } := ⟨hE.size, hds, hE.get⟩
      rintro e W2 ⟨v, rfl, (h1 | ⟨j, h1⟩)⟩
      · have h2 := SAT.ungrp (L2 := []) h1
        rw [List.append_nil] at h2
        have h3 := h2.perm (fun _ => sepL_two)
        refine ⟨none, _, run_endLoop h3.read (by simp), ?_⟩
        exact post_ds.1 ((hdone D).h _ _ hE' (SAT.drop (L1 := [blk l (.loop { rc with state := .exhausted, pending := none })]) (h3.putObj _)))
      · obtain ⟨c, h2⟩ := h1.ex
        rw [List.append_nil] at h2
        have h3 := h2.perm (fun _ => sepL_two)
        refine ⟨some c, _, run_endLoop h3.read (by simp), ?_⟩
        have := (hstop D j c).h _ _ hE' (SAT.drop (L1 := [blk l (.loop { rc with state := .exhausted, pending := some c })]) (h3.putObj _))
        rw [show fen (xD x D).ro = Fence.wide from by rw [show (xD x D).ro = x.ro from rfl, hro]; rfl] at this
        exact wpIn_mono this fun e a w h => post_ds.1 h
    · -- a round
      intro j b hb F W hW
      have h1 := hW.ungrp
      have h2 : SAT x.w0 x.O (blk l (lp rc .ready none) :: blk D dfr :: (L' j ++ F)) W := h1.perm (fun _ => sepL_two)
      have hy := run_yield (P := P) (args := b.toArray) h2.read (by rw [hrc]; simpa using hlen hb)
      have hz : (({ rc with state := .ready, pending := none } : Loop).params.zip b.toArray).foldl (fun tmps (t, a) => tmps.setIfInBounds t a) ({ rc with state := .ready, pending := none } : Loop).tmps = (ps.zip b).foldl (fun t (p, v) => t.setIfInBounds p v) a.tmps := by
        rw [hrc]
        simp
      rw [hz] at hy
      refine ⟨fn, (ps.zip b).foldl (fun t (p, v) => t.setIfInBounds p v) a.tmps, assign, body, ?_, roundIn_of_wpIn (F := Fence.wide) trivial ?_⟩
      · rw [hy, hrc]
      have hpre := (hbody l rc (SL.grp (blk D dfr :: F)) j b hb).h
      have hEr := putL_ok (df := []) (ds' := []) rfl ps b E a hE hps
      have hSr : SAT x.w0 x.O (SL.grp (blk D dfr :: F) :: blk l (lp rc .ready none) :: L' j) W := by
        refine SAT.grp (h2.perm fun g hg => ?_)
        have e1 : sepL ((blk D dfr :: blk l (lp rc .ready none) :: L' j) ++ F) g := sepL_two hg
        obtain ⟨g1, g2, d, rfl, p1, p2⟩ := sepL_append.1 e1
        obtain ⟨g3, g4, d', rfl, q1, q2⟩ := p1
        have d1 := disj_comm d
        obtain ⟨da, db⟩ := disj_join.1 d1
        refine sepL_append.2 ⟨PH.join g3 g2, g4, ?_, ?_, ⟨g3, g2, disj_comm da, rfl, q1, p2⟩, q2⟩
        · exact disj_comm (disj_join.2 ⟨disj_comm d', disj_comm db⟩)
        · rw [join_assoc, join_assoc, join_comm db]
      have hgo := hpre _ W hEr hSr
      refine wpIn_mono hgo ?_
      intro e a1 w1 h
      cases e with
      | normal =>
        obtain ⟨w2, hw2, hb2⟩ := h
        refine ⟨w2, hw2, wpIn_mono hb2 ?_⟩
        have key : ∀ v w', Rr x l rc (SL.grp (blk D dfr :: F)) (L' (j + 1)) (Lx j) (.returned v) w' →
            ((Ending.returned v = .returned (.bool true) ∧ SAT x.w0 x.O (SL.grp (blk D dfr :: blk l (lp rc .ready none) :: L' (j + 1)) :: F) w') ∨ (Ending.returned v = .returned (.bool false) ∧ SAT x.w0 x.O ((exR fun c => blk D dfr :: blk l (lp rc .done (some c)) :: Lx j c) :: F) w')) := by
          have mv : ∀ (o : Obj) (M : List HP) w', SAT x.w0 x.O (SL.grp (blk D dfr :: F) :: blk l o :: M) w' → SAT x.w0 x.O ((blk D dfr :: blk l o :: M) ++ F) w' := by
            intro o M w' h
            refine h.ungrp.perm fun g hg => ?_
            obtain ⟨g1, g2, d, rfl, ⟨g3, g4, d', rfl, q1, q2⟩, p2⟩ := sepL_append.1 hg
            have d1 := disj_comm d
            obtain ⟨da, db⟩ := disj_join.1 d1
            refine sepL_append.2 ⟨PH.join g3 g2, g4, ?_, ?_, ⟨g3, g2, disj_comm da, rfl, q1, p2⟩, q2⟩
            · exact disj_comm (disj_join.2 ⟨disj_comm d', disj_comm db⟩)
            · rw [join_assoc, join_assoc, join_comm db]
          rintro v w' (⟨h1, h2⟩ | ⟨h1, c, h2⟩)
          · exact .inl ⟨h1, SAT.grp (mv _ _ _ h2)⟩
          · exact .inr ⟨h1, SAT.inEx c (mv _ _ _ h2)⟩
        intro e2 a2 w3 h3
        cases e2 with
        | normal => obtain ⟨v, w', h4, h5⟩ := h3; exact ⟨v, w', h4, key _ _ h5⟩
        | ret => obtain ⟨v, w', h4, h5⟩ := h3; exact ⟨v, w', h4, key _ _ h5⟩
        | exit id => obtain ⟨v, w', h4, h5⟩ := h3; exact ⟨v, w', h4, key _ _ h5⟩
        | goto t => obtain ⟨v, w', h4, h5⟩ := h3; exact ⟨v, w', h4, key _ _ h5⟩
        | panic c => exact h3.elim
        | outgrown => exact h3.elim
      | exit id => exact h.elim
      | goto t => exact h.elim
      | ret => exact h.elim
      | panic c => exact h.elim
      | outgrown => exact h.elim

/-! ### leaving with marks -/
theorem bodyM_pan {fn : Func} {R : Ending → World → Prop} (c : List PanicEntry) (a : Act) (w : World) (d : Option Tmp) (u : Value) (h : (fun e (a : Act) w => match e with | .panic _ => False | _ => bodyPostM Fence.wide 0 P fn R e a w : Exit → Act → World → Prop) (.panic c) (Act.put a d u) w) : (fun e (a : Act) w => match e with | .panic _ => False | _ => bodyPostM Fence.wide 0 P fn R e a w : Exit → Act → World → Prop) (.panic c) a w := h
def bpM (P : Program) (fn : Func) (R : Ending → World → Prop) : Exit → Act → World → Prop := fun e a w => match e with | .panic _ => False | _ => bodyPostM Fence.wide 0 P fn R e a w
theorem bpM_pan {fn : Func} {R : Ending → World → Prop} (c : List PanicEntry) (a : Act) (w : World) (d : Option Tmp) (u : Value) (h : bpM P fn R (.panic c) (Act.put a d u) w) : bpM P fn R (.panic c) a w := h
theorem Spec.mkM {f : FuncId} {fn : Func} {c : Code} {args : List Value} {Rs : List (World → Prop)} {Lin : List HP} {X : Type} {ret : X → Value} {Lo : X → List HP} {po : X → Prop} {n : Nat}
    (hf : P.funcs[f]? = some fn) (hb : fn.body = some c) (hn : fn.ntmps = n) (hl : Nat.ble args.length n = true)
    (h : ∀ w0 O, (∀ R ∈ Rs, Rd w0 O [] R) → SAT w0 O Lin w0 → J P ⟨fn, n, Ends w0 O ret Lo po, w0, O, none, [], bpM P fn (Ends w0 O ret Lo po), bpM_pan⟩ (argE 0 args) Lin c []) : Spec P f args Rs Lin ret Lo po := by
  intro w0 O hR hS
  refine callsIn_wide.1 (callsIn_of_wp_marks (F := Fence.wide) (n := 0) hf hb trivial (wpIn_mono ((h w0 O hR hS).h _ w0 ⟨?_, rfl, ?_⟩ hS) ?_))
  · have := Nat.le_of_ble_eq_true hl
    simp [hn]
    omega
  · intro t v hv
    obtain ⟨_, h2⟩ := argE_get 0 args t v hv
    simp only [Nat.sub_zero] at h2
    have hlt := (List.getElem?_eq_some_iff.1 h2).1
    have := (List.getElem?_eq_some_iff.1 h2).2
    show (args.toArray ++ Array.replicate (fn.ntmps - args.toArray.size) undef).getD t undef = v
    rw [Array.getD_eq_getD_getElem?, Array.getElem?_append_left (by simpa using hlt)]
    simp [hlt, this]
  · intro e a w h
    cases e <;> first | exact h | exact h.elim
/-- The marks' blocks among the resources. -/
structure MarksIn (ds : List Nat) (L L' : List HP) : Prop where
  h : ∀ w0 O w, SAT w0 O L w → ∀ (R : World → Prop), (∀ w', SAT w0 O L' w' → R w') → ∀ (P : Program) (fn : Func) (tmps : Array Value) (R2 : Ending → World → Prop),
    (∀ w', R w' → LeavesInM Fence.wide 0 P fn tmps R2 [] .returning w') → LeavesInM Fence.wide 0 P fn tmps R2 (markL ds) .returning w
theorem MarksIn.nil : MarksIn [] L L := ⟨fun _ _ _ hS _ hR _ _ _ _ h => h _ (hR _ hS)⟩
theorem MarksIn.cons {D : Nat} {ds : List Nat} (hp : Pick L (blk D dfr) L1) (h : MarksIn ds L1 L2) : MarksIn (D :: ds) L L2 := ⟨fun w0 O w hS R hR P fn tmps R2 hl => by
  have hS' := hS.pick hp
  refine ⟨by simp, .inl ⟨D, _, rfl, run_takeDeferred hS'.read, ?_⟩⟩
  exact h.h w0 O _ (SAT.drop (L1 := [blk D (.deferred none)]) (hS'.putObj _)) R hR P fn tmps R2 hl⟩
theorem leavesM {ds : List Nat} {fn : Func} {a : Act} {w : World} {R : Ending → World → Prop} {v : Value} {w0 : World} {O : Nat → Prop} {n : Nat} (hE : EnvOK n ds E a) (hS : SAT w0 O L w) (hm : MarksIn ds L L1)
    (h : ∀ w', SAT w0 O L1 w' → (results fn a.tmps).run P w' = .ok v w' ∧ R (.returned v) w') : LeavesInM Fence.wide 0 P fn a.tmps R a.defers .returning w := by
  rw [hE.defers]
  exact hm.h w0 O w hS (fun w' => (results fn a.tmps).run P w' = .ok v w' ∧ R (.returned v) w') h P fn a.tmps R fun w' h => ⟨v, h.1, h.2⟩
theorem J.retM {rs : List ResultVar} {vs : List Value} {ds : List Nat} (h : ∀ w, SAT x.w0 x.O L1 w → x.R (.returned (tup vs)) w) (hds : x.ds = ds := by rfl) (hm : autoParam (MarksIn ds L L1) AMK.h._autoParam) (hf : x.fn.results = rs.toArray := by rfl) (hv : resV E rs = some vs := by rfl) (hq : x.Q0 = bpM P x.fn x.R := by rfl) : J P x E L .ret k := ⟨fun a w hE hS =>
  wpIn_ret (post_ret (by rw [hq]; exact leavesM (hds ▸ hE) hS hm fun w' hS' => ⟨results_run hf hE hv, h w' hS'⟩))⟩
theorem JK.finM {rs : List ResultVar} {vs : List Value} {ds : List Nat} (h : ∀ w, SAT x.w0 x.O L1 w → x.R (.returned (tup vs)) w) (hds : x.ds = ds := by rfl) (hm : autoParam (MarksIn ds L L1) AMK.h._autoParam) (hf : x.fn.results = rs.toArray := by rfl) (hv : resV E rs = some vs := by rfl) (hq : x.Q0 = bpM P x.fn x.R := by rfl) : JK P x E L [] := ⟨fun a w hE hS => by
  show x.Q0 .normal _ w
  rw [hq]
  exact leavesM (hds ▸ hE) hS hm fun w' hS' => ⟨results_run hf hE hv, h w' hS'⟩⟩
theorem J.retCM {cc : Tmp} {rt : TypeId} {b f : Nat} {vs : List Value} {cs : Array Value} {T : TypeId} {sz bt : Nat} {zv : Value} {ds : List Nat} (h : ∀ w, SAT x.w0 x.O L1 w → x.R (.returned (.agg vs.toArray)) w) (hds : x.ds = ds := by rfl) (hm : autoParam (MarksIn ds L L1) AMK.h._autoParam) (hf : x.fn.results = #[.cell cc rt] := by rfl) (hT : Ty P rt true sz bt zv := by infer_instance) (hv : lookup E cc = some (.pointer (some ⟨b, f, none⟩)) := by rfl)
    (hp : autoParam (Pick L1 (blk b (.cells cs T (0, 0))) L') APK.h._autoParam) (hs : slc cs.toList f sz = vs := by rfl) (hl : Nat.ble (f + sz) cs.toList.length = true := by rfl) (hq : x.Q0 = bpM P x.fn x.R := by rfl) : J P x E L .ret k := ⟨fun a w hE hS =>
  wpIn_ret (post_ret (by rw [hq]; exact leavesM (hds ▸ hE) hS hm fun w' hS' => ⟨resC hf hv hp hs hl hE hS', h w' hS'⟩))⟩
end
end Go.SL

/- Facts as resources, resources of which one is; bytes. -/
set_option linter.unusedVariables false
set_option linter.unusedSimpArgs false
namespace Go.SL
open Go.RowKit
/-- A fact as a resource. -/
def pureR (φ : Prop) : HP := fun h => φ ∧ ∀ k, h k = none
theorem SAT.pure {φ : Prop} {w0 w : World} {O : Nat → Prop} {L : List HP} (h : SAT w0 O (pureR φ :: L) w) : φ ∧ SAT w0 O L w := by
  have h2 := SAT.drop (L1 := [pureR φ]) h
  obtain ⟨_, _, _, _, _, _, _, _, ⟨hp, _⟩, _⟩ := h
  exact ⟨hp, h2⟩
theorem Pick.pure {φ : Prop} {L : List HP} (h : φ) : Pick L (pureR φ) L := ⟨fun g hg => ⟨fun _ => none, g, fun _ => .inl rfl, by funext k; rfl, ⟨h, fun _ => rfl⟩, hg⟩⟩
theorem Pick.ex {ι : Type} {F : ι → List HP} (i : ι) {L L' : List HP} (hp : Parts L (F i) L') : Pick L (exR F) L' := ⟨fun g hg => by
  obtain ⟨h1, h2, d, e, p, q⟩ := sepL_append.1 (hp.h g hg)
  exact ⟨h1, h2, d, e, ⟨i, p⟩, q⟩⟩
section
variable {P : Program} {x : Cx} {E : List (Nat × Value)} {L L' L1 L2 : List HP} {k : List Fr} {ops : Array Oper} {rest : List Oper}
theorem J.exP {c : Code} {ι : Type} {F : ι → List HP} (hp : Pick L (exR F) L') (h : ∀ i, J P x E (F i ++ L') c k) : J P x E L c k := ⟨fun a w hE hS => by
  obtain ⟨i, h2⟩ := (hS.pick hp).ex
  exact (h i).h a w hE h2⟩
theorem J.pureP {c : Code} {φ : Prop} (h : φ → J P x E L c k) : J P x E (pureR φ :: L) c k := ⟨fun a w hE hS => (h hS.pure.1).h a w hE hS.pure.2⟩
end
/-- Bytes. -/
def eByte : Enc UInt8 where
  sz := 1
  f x := [.int .u8 x.toNat]
  d := 0
  dec
    | [.int .u8 x] => if 0 ≤ x ∧ x ≤ 255 then some (UInt8.ofNat x.toNat) else none
    | _ => none
  pos := by decide
  len _ := rfl
  one x u hu := by rw [List.mem_singleton.1 hu]; rfl
  inv cs x h := by
    split at h
    · split at h
      · injection h with h
        subst h
        rename_i y hy
        congr 2
        rw [UInt8.toNat_ofNat']
        omega
      · cases h
    · cases h
theorem byte_bd (x : UInt8) : (x.toNat : Int) ≤ 255 := by have := x.toNat_lt; omega
section
variable {P : Program} {x : Cx} {E : List (Nat × Value)} {L : List HP} {ty t t' : TypeId} {y z : Operand} {v : Value}
theorem PS.convB {k1 : IntKind} {n : UInt8} [h1 : IntT P t k1] [h2 : IntT P t' .i64] (hy : ev E y = some (.int .u8 (n.toNat : Int)) := by rfl) : PS P x E L (.convert t t' y) ty (.int .i64 (n.toNat : Int)) :=
  PS.conv hy (by have := byte_bd n; omega)
/-- An index taken by the length. -/
theorem PS.indexM {α : Type} {q : Enc α} {xs : List α} {e : TypeId} {i : Int} {ag : Bool} {sz bt : Nat} {zv : Value} [hSl : SlT P t e] [hT : Ty P e ag sz bt zv] (hv : ev E y = some v := by rfl) (hi : ev E z = some (.int .i64 (i % (xs.length : Int))) := by rfl)
    (hr : autoParam (Rd x.w0 x.O L (rd q v xs)) ARD.h._autoParam) (h0 : autoParam (0 < xs.length) ABD.h._autoParam) : PS P x E L (.indexAddr t y z) ty (elemP sz v (i % (xs.length : Int)).toNat 0) :=
  PS.indexZ hv hi hr (Int.emod_nonneg _ (by omega)) (Int.emod_lt_of_pos _ (by omega))
theorem PS.loadM {α : Type} {q : Enc α} {xs : List α} {i : Int} {f sq : Nat} {sz bt : Nat} {zv u : Value} [hT : Ty P t false sz bt zv] (hy : ev E y = some (elemP sq v (i % (xs.length : Int)).toNat f) := by rfl) (hr : autoParam (Rd x.w0 x.O L (rd q v xs)) ARD.h._autoParam) (h0 : autoParam (0 < xs.length) ABD.h._autoParam) (hq : q.sz = sq := by rfl)
    (hf : Nat.blt f q.sz = true := by rfl) (hv0 : nth (q.f (xs.getD (i % (xs.length : Int)).toNat q.d)) f = some u := by rfl) : PS P x E L (.load t y) ty u :=
  PS.loadE hy hr (by have h1 := Int.emod_lt_of_pos i (b := (xs.length : Int)) (by omega); have h2 := Int.emod_nonneg i (b := (xs.length : Int)) (by omega); omega) hq hf hv0
end
theorem AS.call2 {P : Program} {x : Cx} {E : List (Nat × Value)} {L L1 L2 : List HP} {ty : TypeId} {f : FuncId} {as : List Operand} {ts : Array TypeId} {args : List Value} {Rs : List (World → Prop)} {X : Type} {ret : X → Value} {p q : X → HP} {po : X → Prop} [hF : FnB P f]
    (hs : Spec P f args Rs L1 ret (fun y => [p y, q y]) po) (ha : evs E as = some args := by rfl) (hL : Parts L L1 L2 := by first | exact Parts.nil | exact Parts.cons xPK Parts.nil | exact Parts.cons xPK (Parts.cons xPK Parts.nil) | exact Parts.cons xPK (Parts.cons xPK (Parts.cons xPK Parts.nil)) | fail) (hR : RdAll x.w0 x.O L2 Rs := by first | exact RdAll.nil | exact RdAll.cons xRD RdAll.nil | exact RdAll.cons xRD (RdAll.cons xRD RdAll.nil) | exact RdAll.cons xRD (RdAll.cons xRD (RdAll.cons xRD RdAll.nil)) | fail) :
    AS P x E L (.call ⟨.value (.func f), as.toArray, ts⟩) ty (fun v L3 => ∃ y, po y ∧ v = ret y ∧ L3 = p y :: q y :: L2) := AS.call hs ha hL hR
theorem xorV_nn {a b : Int} (ha : 0 ≤ a ∧ a ≤ 9223372036854775807) (hb : 0 ≤ b ∧ b ≤ 9223372036854775807) : 0 ≤ xorV a b ∧ xorV a b ≤ 9223372036854775807 := by
  have h : ((BitVec.ofInt 64 a ^^^ BitVec.ofInt 64 b).toNat) < 2 ^ 63 := by
    rw [BitVec.toNat_xor]
    refine Nat.xor_lt_two_pow ?_ ?_
    · rw [BitVec.toNat_ofInt]; omega
    · rw [BitVec.toNat_ofInt]; omega
  unfold xorV
  show 0 ≤ IntKind.i64.wrap (((BitVec.ofInt 64 a ^^^ BitVec.ofInt 64 b).toNat : Nat) : Int) ∧ IntKind.i64.wrap (((BitVec.ofInt 64 a ^^^ BitVec.ofInt 64 b).toNat : Nat) : Int) ≤ 9223372036854775807
  generalize (BitVec.ofInt 64 a ^^^ BitVec.ofInt 64 b).toNat = n at h
  rw [IntWalk.i64_in (n : Int) (by omega)]
  omega
end Go.SL
