/- Regions whose order is drawn; the rules with all side conditions found by themselves. -/
import Derived.Test.YtccmdhihlkmjjaaSl6
import Derived.OrdersHeld
import Derived.StillTail
namespace Go.SL
open Go.RowKit

section
variable {P : Program} {ops : Array Oper} {Q : Exit → Act → World → Prop} {md : Region.Mode}
/-- Whatever order is picked, S (which may hang on what has come up) holds behind every operation. -/
def wpAnyG (P : Program) (md : Region.Mode) (ops : Array Oper) (Q : Exit → Act → World → Prop) (S : Array Bool → World → Prop) : Nat → Array Bool → Act → World → Prop
  | 0, listed, a, w => Region.ready md ops listed = [] ∧ Q .normal a w
  | fuel + 1, listed, a, w =>
    (Region.ready md ops listed = [] → Q .normal a w) ∧
    ∀ i ∈ Region.ready md ops listed, wpW P ops Q i (fun a' w' => S (listed.setIfInBounds i true) w' ∧ wpAnyG P md ops Q S fuel (listed.setIfInBounds i true) a' w') a w
theorem wpAny_of_G {S : Array Bool → World → Prop} {ro : Option Nat} (hd : ro = none ∨ ∀ o ∈ ops, ∀ c, o.op ≠ .defer c) : ∀ (fuel : Nat) (listed : Array Bool) (a : Act) (w : World), wpAnyG P md ops Q S fuel listed a w → wpAnyIn (fen ro) 0 P md ops Q fuel listed a w
  | 0, _, _, _, h => h
  | fuel + 1, _, _, _, h => ⟨h.1, fun i hi => wpW_in hd (wpW_mono (fun a' w' h' => wpAny_of_G hd fuel _ a' w' h'.2) (h.2 i hi))⟩
theorem wpAnyG_mono {S S' : Array Bool → World → Prop} (hS : ∀ listed w, S' listed w → S listed w) : ∀ (fuel : Nat) (listed : Array Bool) (a : Act) (w : World), wpAnyG P md ops Q S' fuel listed a w → wpAnyG P md ops Q S fuel listed a w
  | 0, _, _, _, h => h
  | fuel + 1, _, _, _, h => ⟨h.1, fun i hi => wpW_mono (fun a' w' h' => ⟨hS _ _ h'.1, wpAnyG_mono hS fuel _ a' w' h'.2⟩) (h.2 i hi)⟩
theorem _root_.Go.YieldsIf.toW {T : World → Prop} {i : Nat} {oi : Oper} {v : Value} {a : Act} {w : World} {K : Act → World → Prop} (hy : YieldsIf P ops T oi v a) (hi : ops[i]? = some oi) (hT : T w) (hK : K (a.put oi.dst v) w) : wpW P ops Q i K a w := by
  have h := hy.wpOp (Q := Q) (K := K) hi hT hK
  unfold wpOp at h
  unfold wpW
  rw [hi] at h ⊢
  simp only at h ⊢
  split
  · rename_i hw
    rw [if_pos hw] at h
    rcases hy with ⟨h1, h2⟩ | ⟨h1, h2⟩
    · refine .inl ?_
      unfold Oper.wp
      rw [h2 w hT]
      exact hK
    · rw [h1] at hw; cases hw
  · rename_i hw
    rw [if_neg hw] at h
    exact h
theorem wpW_putIf {S : World → Prop} {j : Nat} {oi oj : Oper} {v : Value} (hj : ops[j]? = some oj) (hap : oi.apart ops oj = true) (hsi : ∀ cs b, oi.op ≠ .select cs b) (hsj : ∀ cs b, oj.op ≠ .select cs b)
    (hQ : ∀ c a w, Q (.panic c) (a.put oi.dst v) w → Q (.panic c) a w) {K : Act → World → Prop} {a : Act} {w : World} (hy : YieldsIf P ops S oi v a) (h : wpW P ops Q j K (a.put oi.dst v) w) :
    wpW P ops Q j (fun a' w' => YieldsIf P ops S oi v a' ∧ K (a'.put oi.dst v) w') a w := by
  obtain ⟨h1, h2, h3⟩ := Oper.apart_spec hap
  have keep : ∀ u, YieldsIf P ops S oi v (a.put oj.dst u) := fun u => hy.of_same (execOp_put oi hsi a oj.dst u h3) (wanted_put oi a oj.dst u h3)
  unfold wpW at *
  simp only [hj] at *
  rw [wanted_put oj a oi.dst v h1] at h
  split
  · rename_i hw
    rw [if_pos hw] at h
    rcases h with h | ⟨l, f, tmps, assign, body, w', e1, e2⟩
    · refine .inl ?_
      unfold Oper.wp at h ⊢
      rw [execOp_put oj hsj a oi.dst v h1] at h
      generalize (execOp a.eval oj).run P w = r at *
      cases r with
      | ok n w' =>
        cases n <;> simp only [Oper.upon] at h ⊢
        case value u => exact ⟨keep u, by rw [← Act.put_comm a v u h2]; exact h⟩
        case skip => exact ⟨keep _, by rw [← Act.put_comm a v undef h2]; exact h⟩
        case defer d =>
          refine ⟨(hy.of_same (a' := { a with defers := d :: a.defers }) rfl rfl).of_same (execOp_put oi hsi _ oj.dst undef h3) (wanted_put oi _ oj.dst undef h3), ?_⟩
          rw [← Act.put_comm _ v undef h2, ← Act.put_defers]
          exact h
        case enter f args =>
          refine Calls.mono h fun e w'' he => ?_
          cases e with
          | returned u => exact ⟨keep u, by rw [← Act.put_comm a v u h2]; exact he⟩
          | panicked c => exact hQ _ _ _ he
          | outgrown => exact he
        case row row args => exact Rows.mono h fun u w'' he => ⟨keep u, by rw [← Act.put_comm a v u h2]; exact he⟩
      | halt x w' =>
        cases x <;> simp only [Oper.upon] at h ⊢
        case panic u => exact hQ _ _ _ h
    · rw [execOp_put oj hsj a oi.dst v h1] at e1
      refine .inr ⟨l, f, tmps, assign, body, w', e1, RoundIn.mono e2 ?_⟩
      rintro e w'' ⟨u, rfl, hk⟩
      exact ⟨u, rfl, keep u, by rw [← Act.put_comm a v u h2]; exact hk⟩
  · rename_i hw
    rw [if_neg hw] at h
    exact ⟨keep _, by rw [← Act.put_comm a v undef h2]; exact h⟩
/-- What has come up is closed under what had to come ahead. -/
def Closed (md : Region.Mode) (ops : Array Oper) (listed : Array Bool) : Prop :=
  listed.size = ops.size ∧ ∀ j oj, ops[j]? = some oj → listed.getD j false = true → ∀ e ∈ oj.after, Region.binds md e = true → listed.getD e.on false = true
theorem Closed.set {listed : Array Bool} {i : Nat} (h : Closed md ops listed) (hi : i ∈ Region.ready md ops listed) : Closed md ops (listed.setIfInBounds i true) := by
  obtain ⟨_, oi, hoi, hall⟩ := mem_ready.1 hi
  refine ⟨by simp [h.1], fun j oj hj hl e he hb => ?_⟩
  by_cases hij : i = j
  · subst hij
    have : oj = oi := Option.some.inj (hj.symm.trans hoi)
    subst this
    exact getD_set_true (hall e he hb)
  · rw [getD_set_ne false hij] at hl
    exact getD_set_true (h.2 j oj hj hl e he hb)
theorem wpAnyG_first {S : Array Bool → World → Prop} {T : World → Prop} {i : Nat} {oi : Oper} {v : Value} (hi : ops[i]? = some oi) (hsel : ∀ (j : Nat) (o : Oper) cs b, ops[j]? = some o → o.op ≠ .select cs b)
    (hQ : ∀ c a w, Q (.panic c) (a.put oi.dst v) w → Q (.panic c) a w)
    (hT : ∀ listed w, Closed md ops listed → listed.getD i true = false → S listed w → T w) (hm : ∀ listed w, S listed w ↔ S (listed.setIfInBounds i true) w) :
    ∀ (fuel : Nat) (listed : Array Bool) (a : Act) (w : World), Closed md ops listed →
      (∀ j oj, ops[j]? = some oj → j ≠ i → listed.getD j true = false → (∀ e ∈ oj.after, Region.binds md e = true → e.on ≠ i) → oi.apart ops oj = true) →
      i ∈ Region.ready md ops listed → YieldsIf P ops T oi v a → S listed w →
      wpAnyG P md ops Q S fuel (listed.setIfInBounds i true) (a.put oi.dst v) w → wpAnyG P md ops Q S (fuel + 1) listed a w := by
  intro fuel
  induction fuel with
  | zero =>
    intro listed a w hc _ hr hy hS H
    refine ⟨fun h => (by rw [h] at hr; cases hr), fun j hj => ?_⟩
    by_cases hji : j = i
    · subst hji; exact hy.toW hi (hT _ _ hc (mem_ready.1 hr).1 hS) ⟨(hm _ _).1 hS, H⟩
    · have := ready_mono hj hji
      rw [H.1] at this
      cases this
  | succ fuel ih =>
    intro listed a w hc hfree hr hy hS H
    refine ⟨fun h => (by rw [h] at hr; cases hr), fun j hj => ?_⟩
    by_cases hji : j = i
    · subst hji; exact hy.toW hi (hT _ _ hc (mem_ready.1 hr).1 hS) ⟨(hm _ _).1 hS, H⟩
    · have h1 := H.2 j (ready_mono hj hji)
      obtain ⟨hjun, oj, hoj, hall⟩ := mem_ready.1 hj
      have hnot : ∀ e ∈ oj.after, Region.binds md e = true → e.on ≠ i := fun e he hb heq => by
        have h1 := hall e he hb
        have h0 := (mem_ready.1 hr).1
        rw [heq] at h1
        rcases Nat.lt_or_ge i listed.size with h' | h'
        · simp [h'] at h0 h1; rw [h0] at h1; cases h1
        · simp [Array.getElem?_eq_none h'] at h1
      have h2 := wpW_putIf hoj (hfree j oj hoj hji hjun hnot) (fun cs b => hsel i oi cs b hi) (fun cs b => hsel j oj cs b hoj) hQ hy h1
      have hri : i ∈ Region.ready md ops (listed.setIfInBounds j true) := ready_mono hr (fun e => hji e.symm)
      have hfree' : ∀ k ok, ops[k]? = some ok → k ≠ i → (listed.setIfInBounds j true).getD k true = false →
          (∀ e ∈ ok.after, Region.binds md e = true → e.on ≠ i) → oi.apart ops ok = true := fun k ok hk hki hun hno => by
        refine hfree k ok hk hki ?_ hno
        by_cases hjk : j = k
        · subst hjk; exact hjun
        · rw [getD_set_ne true hjk] at hun; exact hun
      refine wpW_mono (fun a' w' h3 => ?_) h2
      have hS' : S (listed.setIfInBounds j true) w' := (hm _ _).2 (by rw [Array.setIfInBounds_comm _ _ hji]; exact h3.2.1)
      refine ⟨hS', ih (listed.setIfInBounds j true) a' w' (hc.set hj) hfree' (ready_mono hr (Ne.symm hji)) h3.1 hS' ?_⟩
      rw [Array.setIfInBounds_comm _ _ hji]
      exact h3.2.2
end

/-! ### the judgement -/
/-- What the world is known to hold within a region: L0 as long as number s has not come up, L1 all the while. -/
def SS (x : Cx) (L0 L1 : List HP) (s : Nat) (listed : Array Bool) (w : World) : Prop := (listed.getD s true = false → SAT x.w0 x.O L0 w) ∧ SAT x.w0 x.O L1 w
/-- Those that have come up, the last one first, as marks. -/
def marks (m : Nat) : List Nat → Array Bool
  | [] => Array.replicate m false
  | i :: dl => (marks m dl).setIfInBounds i true
structure AJ (P : Program) (x : Cx) (E : List (Nat × Value)) (L L0 L1 : List HP) (s : Nat) (l : List Oper) (fuel : Nat) (dl : List Nat) (k : List Fr) : Prop where
  h : ∀ a w, EnvOK x.n x.ds E a → SAT x.w0 x.O L w → SS x L0 L1 s (marks l.length dl) w → Closed .any l.toArray (marks l.length dl) → wpAnyG P .any l.toArray (post P x k) (SS x L0 L1 s) fuel (marks l.length dl) a w
def memN (i : Nat) : List Nat → Bool
  | [] => false
  | j :: l => match Nat.beq i j with
    | true => true
    | false => memN i l
/-- Functions that may write what is owned. -/
def effs : List Nat := [25, 28, 32, 44]
def isEff : Op → Bool
  | .call { callee := .value (.func f), .. } => memN f effs
  | .call { callee := .value (.tmp _), .. } => true
  | .store .. | .mapUpdate .. | .insert .. | .entryStore .. => true
  | .call { callee := .builtin .append, .. } => true
  | .call { callee := .builtin .copy, .. } => true
  | .call { callee := .builtin .clear, .. } => true
  | _ => false
def isAct : Op → Bool
  | .box .. | .alloc .. | .buildSlice .. | .makeSlice .. | .makeMap .. | .store .. | .mapUpdate .. | .insert .. | .entryStore .. | .mapEntry .. => true
  | .call { callee := .builtin .len, .. } => false
  | .call { callee := .builtin .cap, .. } => false
  | .call { callee := .builtin .max, .. } => false
  | .call { callee := .builtin .min, .. } => false
  | .call _ => true
  | _ => false
def nums : List Nat := [0, 1, 2, 3, 4, 5, 6, 7, 8, 9, 10, 11, 12, 13, 14, 15, 16, 17, 18, 19, 20, 21, 22, 23, 24, 25, 26, 27, 28, 29, 30, 31, 32, 33, 34, 35, 36, 37, 38, 39, 40, 41, 42, 43, 44, 45, 46, 47, 48, 49, 50, 51, 52, 53, 54, 55, 56, 57, 58, 59, 60, 61, 62, 63, 64, 65, 66, 67, 68, 69, 70, 71, 72, 73, 74, 75, 76, 77, 78, 79, 80, 81, 82, 83, 84, 85, 86, 87, 88, 89, 90, 91, 92, 93, 94, 95, 96, 97, 98, 99]
/-- The first effect's number (how many operations there are, if there is none). -/
def firstEff : List Nat → List Oper → Option Nat
  | i :: _, [] => some i
  | i :: is, o :: l => match isEff o.op with
    | true => some i
    | false => firstEff is l
  | [], _ => none
def countO : List Nat → List Oper → Option Nat
  | i :: _, [] => some i
  | _ :: is, _ :: l => countO is l
  | [], _ => none
def mem (i : Nat) : List Nat → Bool
  | [] => false
  | j :: l => match Nat.beq i j with
    | true => true
    | false => mem i l
def bindsA (e : Edge) : Bool :=
  match e.ground with
  | .textOnly _ => false
  | .gcOnly _ => false
  | _ => true
def allIn : List Edge → List Nat → Bool
  | [], _ => true
  | e :: es, dl => match bindsA e with
    | true => match mem e.on dl with
      | true => allIn es dl
      | false => false
    | false => allIn es dl
/-- The next plain (b = false) operation that can come up, or the next that acts. -/
def nextP (b : Bool) (dl : List Nat) : List Nat → List Oper → Option (Nat × Oper)
  | i :: is, o :: l => match mem i dl with
    | true => nextP b dl is l
    | false => match Bool.xor b (isAct o.op) with
      | true => nextP b dl is l
      | false => match allIn o.after.toList dl with
        | true => some (i, o)
        | false => nextP b dl is l
  | _, _ => none
/-- The next guarded one. -/
def nextG (dl : List Nat) : List Nat → List Oper → Option (Nat × Oper)
  | i :: is, o :: l => match mem i dl with
    | true => nextG dl is l
    | false => match o.guard with
      | none => nextG dl is l
      | some _ => match allIn o.after.toList dl with
        | true => some (i, o)
        | false => nextG dl is l
  | _, _ => none
def selL (b : Bool) (L0 L1 : List HP) : List HP :=
  match b with
  | true => L0
  | false => L1
/-- Number s waits for number i. -/
def waits (l : List Oper) : Nat → Nat → Nat → Bool
  | 0, _, _ => false
  | f + 1, s, i => match nth l s with
    | some o => o.after.toList.any fun e => bindsA e && (Nat.beq e.on i || waits l f e.on i)
    | none => false
theorem bindsA_eq (e : Edge) : bindsA e = Region.binds .any e := by
  unfold bindsA Region.binds
  cases e.ground <;> rfl
theorem waits_listed {l : List Oper} {listed : Array Bool} {i : Nat} (hc : Closed .any l.toArray listed) (hi : listed.getD i true = false) : ∀ (f s : Nat), waits l f s i = true → listed.getD s true = false := by
  intro f
  induction f with
  | zero => intro s h; cases h
  | succ f ih =>
    intro s h
    unfold waits at h
    split at h
    · rename_i o ho
      rw [nth_eq] at ho
      have ho' : l.toArray[s]? = some o := by simpa using ho
      obtain ⟨e, he, hb⟩ := List.any_eq_true.1 h
      simp only [Bool.and_eq_true, Bool.or_eq_true, bindsA_eq] at hb
      have hlt : s < listed.size := by rw [hc.1]; exact (Array.getElem?_eq_some_iff.1 ho').1
      cases hs : listed.getD s false with
      | false => exact getD_in hlt hs
      | true =>
        have h1 := hc.2 s o ho' hs e (by simpa using he) hb.1
        rcases hb.2 with h2 | h2
        · rw [Nat.eq_of_beq_eq_true h2] at h1
          rw [getD_both hi] at h1
          cases h1
        · rw [getD_both (ih _ h2)] at h1
          cases h1
    · cases h
section
variable {P : Program} {x : Cx} {E : List (Nat × Value)} {L L0 L1 L2 : List HP} {k : List Fr} {ops : Array Oper} {l : List Oper} {s fuel i : Nat} {dl : List Nat} {v u : Value} {op : Op} {ty : TypeId} {d : Tmp} {pos : String} {aft : Array Edge}
class Wide (P : Program) : Prop where
  h : P.follows .mixedOrders = true
theorem J.drawAt (s : Nat) (L1 : List HP) [hW : Wide P] {id : Nat} (h : AJ P x E L L L1 s l l.length [] k) (he : Ent L L1) (hd : noDef x.ro l = true := by rfl) : J P x E L (.region id l.toArray true) k :=
  ⟨fun a w hE hS => by
    refine wpIn_region_any hW.h (wpAny_of_G (S := SS x L L1 s) ((noDef_spec hd).imp (fun e => e) fun h o ho => h o (by simpa using ho)) _ _ _ _ ?_)
    have hS' : SAT x.w0 x.O L { w with drawn := w.drawn + 1 } := hS.same rfl rfl rfl rfl
    have hsz : l.toArray.size = l.length := by simp
    rw [hsz]
    refine h.h a _ hE hS' ⟨fun _ => hS', hS'.ent he⟩ ⟨by simp [marks], fun j oj _ hl => ?_⟩
    exfalso
    have : (marks l.length []).getD j false = false := getD_replicate_false _ _
    rw [this] at hl
    cases hl⟩
theorem countO_eq : ∀ (l : List Oper) (is : List Nat) (b m : Nat), (∀ j i, is[j]? = some i → i = b + j) → countO is l = some m → m = b + l.length
  | [], [], _, _, _, h => by cases h
  | [], i :: is, b, m, hi, h => by
    have := hi 0 i rfl
    injection h with h
    simp only [List.length_nil]
    omega
  | _ :: _, [], _, _, _, h => by cases h
  | _ :: l, _ :: is, b, m, hi, h => by
    have := countO_eq l is (b + 1) m (fun j i hj => by have := hi (j + 1) i hj; omega) h
    simp only [List.length_cons]
    omega
theorem nums_get (j i : Nat) (h : nums[j]? = some i) : i = 0 + j := by
  have e : nums = List.range 100 := by decide +kernel
  rw [e] at h
  have := List.getElem?_eq_some_iff.1 h
  obtain ⟨h1, h2⟩ := this
  simp at h2
  omega
/-- The usual: what the region's first effect may turn is known up to it. -/
theorem J.draw [hW : Wide P] {id m : Nat} {Lx : List HP} (h : AJ P x E L L Lx s l m [] k) (hm : countO nums l = some m := by rfl) (_hs : firstEff nums l = some s := by rfl) (hL : (match Nat.blt s m with | true => [] | false => L) = Lx := by rfl) (hd : noDef x.ro l = true := by rfl) : J P x E L (.region id l.toArray true) k := by
  have hm' := countO_eq l nums 0 m nums_get hm
  rw [Nat.zero_add] at hm'
  refine J.drawAt s Lx (by rw [← hm']; exact h) ?_ hd
  subst hL
  cases Nat.blt s m <;> first | exact Ent.refl | exact Ent.nil
theorem AJ.done (h : JK P x E L k) (hr : Region.ready .any l.toArray (marks l.length dl) = [] := by decide +kernel) : AJ P x E L L0 L1 s l fuel dl k :=
  ⟨fun a w hE hS _ _ => by
    cases fuel with
    | zero => exact ⟨hr, h.h a w hE hS⟩
    | succ n => exact ⟨fun _ => h.h a w hE hS, by rw [hr]; simp⟩⟩
/-- What the rules ask of number i that is taken first. -/
def takeB (ops : Array Oper) (listed : Array Bool) (s i : Nat) : Bool := Region.noSelect ops && (Region.free .any ops listed i && ((Region.ready .any ops listed).contains i && !(Nat.beq i s)))
theorem post_panic {c : List PanicEntry} {a : Act} {w : World} : ∀ {k : List Fr}, post P x k (.panic c) a w ↔ x.Q0 (.panic c) a w
  | [] => Iff.rfl
  | .code _ :: k => post_panic (k := k)
  | .loop _ :: k => post_panic (k := k)
  | .blk _ :: k => post_panic (k := k)
theorem post_panic_put (c : List PanicEntry) (a : Act) (w : World) (d : Option Tmp) (u : Value) (h : post P x k (.panic c) (a.put d u) w) : post P x k (.panic c) a w := by
  rw [post_panic] at h ⊢
  exact x.pan c a w d u h
theorem AJ.taken {o : Oper} {T : World → Prop} (hi : l[i]? = some o) (hb : takeB l.toArray (marks l.length dl) s i = true) (hd : okD x.n o.dst = true)
    (hT : ∀ listed w, Closed .any l.toArray listed → listed.getD i true = false → SS x L0 L1 s listed w → T w) (hy : ∀ a, EnvOK x.n x.ds E a → YieldsIf P l.toArray T o v a) (hk : AJ P x (putE o.dst v E) L L0 L1 s l fuel (i :: dl) k) : AJ P x E L L0 L1 s l (fuel + 1) dl k := by
  simp only [takeB, Bool.and_eq_true, Bool.not_eq_true'] at hb
  obtain ⟨h1, h2, h3, h4⟩ := hb
  have hne : i ≠ s := fun e => by subst e; rw [Nat.beq_refl] at h4; cases h4
  refine ⟨fun a w hE hS hSS hc => ?_⟩
  have hm : ∀ listed w, SS x L0 L1 s listed w ↔ SS x L0 L1 s (listed.setIfInBounds i true) w := fun listed w => by
    unfold SS
    rw [getD_set_ne true hne]
  have hr : i ∈ Region.ready .any l.toArray (marks l.length dl) := by simpa using h3
  have hi' : l.toArray[i]? = some o := by simpa using hi
  exact wpAnyG_first hi' (Region.noSelect_spec h1) (fun c a w => post_panic_put c a w _ _) hT hm fuel (marks l.length dl) a w hc (Region.free_spec hi' h2) hr (hy a hE) hSS
    (hk.h _ w (hE.put hd) hS ((hm _ _).1 hSS) (hc.set hr))
theorem SS.pick : ∀ listed w, Closed .any l.toArray listed → listed.getD i true = false → SS x L0 L1 s listed w → SAT x.w0 x.O (selL (waits l 3 s i) L0 L1) w := by
  intro listed w hc hl hSS
  cases hw : waits l 3 s i with
  | true => exact hSS.1 (waits_listed hc hl 3 s hw)
  | false => exact hSS.2
/-- A plain operation of the region, taken first. -/
theorem AJ.take (hk : AJ P x ((d, v) :: E) L L0 L1 s l fuel (i :: dl) k) (_hn : nextP false dl nums l = some (i, ⟨some d, op, ty, pos, aft, none⟩) := by rfl) (hi : nth l i = some ⟨some d, op, ty, pos, aft, none⟩ := by rfl)
 (hps : PS P x E (selL (waits l 3 s i) L0 L1) op ty v := by first | exact PS.move | exact PS.assign | exact PS.cmp | exact PS.pickT | exact PS.pickF | exact PS.notT | exact PS.notF | exact PS.not | exact PS.extract | exact PS.inc | exact PS.ar | exact PS.arW | exact PS.nilP | exact PS.fieldB | exact PS.fieldP | exact PS.load | exact PS.loadA | exact PS.loadH | exact PS.makeFunc | exact PS.build | exact PS.len | exact PS.lenS | exact PS.index | exact PS.indexZ | exact PS.fieldE | exact PS.loadE | exact PS.loadEA | exact PS.neg | exact PS.negW | exact PS.sliceHN | exact PS.sliceLN | exact PS.sliceH | exact PS.sliceL | exact PS.sliceLH | exact PS.mn | exact PS.mx | exact PS.eqA | exact PS.neA | fail) (hb : takeB l.toArray (marks l.length dl) s i = true := by decide +kernel) (hd : Nat.blt d x.n = true := by rfl) : AJ P x E L L0 L1 s l (fuel + 1) dl k :=
  AJ.taken (o := ⟨some d, op, ty, pos, aft, none⟩) (T := SAT x.w0 x.O (selL (waits l 3 s i) L0 L1)) (by rw [← nth_eq]; exact hi) hb hd SS.pick (fun a hE => .inl ⟨by simp [Region.wanted], fun w hw => hps.h a w _ _ _ _ hE hw⟩) hk
theorem AJ.takeY {j : Nat} {b : Bool} (hk : AJ P x ((d, v) :: E) L L0 L1 s l fuel (i :: dl) k) (_hn : nextP false dl nums l = some (i, ⟨some d, op, ty, pos, aft, some (j, b)⟩) := by rfl) (hi : nth l i = some ⟨some d, op, ty, pos, aft, some (j, b)⟩ := by rfl)
    (hg : gval l.toArray E j = some u := by rfl) (hu : u = .bool b := by with_reducible rfl)
 (hps : PS P x E (selL (waits l 3 s i) L0 L1) op ty v := by first | exact PS.move | exact PS.assign | exact PS.cmp | exact PS.pickT | exact PS.pickF | exact PS.notT | exact PS.notF | exact PS.not | exact PS.extract | exact PS.inc | exact PS.ar | exact PS.arW | exact PS.nilP | exact PS.fieldB | exact PS.fieldP | exact PS.load | exact PS.loadA | exact PS.loadH | exact PS.makeFunc | exact PS.build | exact PS.len | exact PS.lenS | exact PS.index | exact PS.indexZ | exact PS.fieldE | exact PS.loadE | exact PS.loadEA | exact PS.neg | exact PS.negW | exact PS.sliceHN | exact PS.sliceLN | exact PS.sliceH | exact PS.sliceL | exact PS.sliceLH | exact PS.mn | exact PS.mx | exact PS.eqA | exact PS.neA | fail) (hb : takeB l.toArray (marks l.length dl) s i = true := by decide +kernel) (hd : Nat.blt d x.n = true := by rfl) : AJ P x E L L0 L1 s l (fuel + 1) dl k :=
  AJ.taken (o := ⟨some d, op, ty, pos, aft, some (j, b)⟩) (T := SAT x.w0 x.O (selL (waits l 3 s i) L0 L1)) (by rw [← nth_eq]; exact hi) hb hd SS.pick (fun a hE => .inl ⟨by simp [Region.wanted, yielded_of hE (hu ▸ hg)], fun w hw => hps.h a w _ _ _ _ hE hw⟩) hk
theorem AJ.takeN {j : Nat} {b t : Bool} (hk : AJ P x ((d, undef) :: E) L L0 L1 s l fuel (i :: dl) k) (_hn : nextG dl nums l = some (i, ⟨some d, op, ty, pos, aft, some (j, b)⟩) := by rfl) (hi : nth l i = some ⟨some d, op, ty, pos, aft, some (j, b)⟩ := by rfl)
    (hg : gval l.toArray E j = some u := by rfl) (hu : u = .bool t := by with_reducible rfl) (hn : t = !b := by rfl) (hb : takeB l.toArray (marks l.length dl) s i = true := by decide +kernel) (hd : Nat.blt d x.n = true := by rfl) : AJ P x E L L0 L1 s l (fuel + 1) dl k :=
  AJ.taken (o := ⟨some d, op, ty, pos, aft, some (j, b)⟩) (T := fun _ => True) (by rw [← nth_eq]; exact hi) hb hd (fun _ _ _ _ _ => trivial) (fun a hE => .inr ⟨by simp [Region.wanted, yielded_of hE (hu ▸ hg), hn], rfl⟩) hk
theorem AJ.takeNd {j : Nat} {b t : Bool} (hk : AJ P x E L L0 L1 s l fuel (i :: dl) k) (_hn : nextG dl nums l = some (i, ⟨none, op, ty, pos, aft, some (j, b)⟩) := by rfl) (hi : nth l i = some ⟨none, op, ty, pos, aft, some (j, b)⟩ := by rfl)
    (hg : gval l.toArray E j = some u := by rfl) (hu : u = .bool t := by with_reducible rfl) (hn : t = !b := by rfl) (hb : takeB l.toArray (marks l.length dl) s i = true := by decide +kernel) : AJ P x E L L0 L1 s l (fuel + 1) dl k :=
  AJ.taken (o := ⟨none, op, ty, pos, aft, some (j, b)⟩) (T := fun _ => True) (v := undef) (by rw [← nth_eq]; exact hi) hb rfl (fun _ _ _ _ _ => trivial) (fun a hE => .inr ⟨by simp [Region.wanted, yielded_of hE (hu ▸ hg), hn], rfl⟩) hk
theorem AJ.takeU {d : Option Tmp} {j : Nat} {b : Bool} (hk : AJ P x (putE d undef E) L L0 L1 s l fuel (i :: dl) k) (_hn : nextG dl nums l = some (i, ⟨d, op, ty, pos, aft, some (j, b)⟩) := by rfl) (hi : nth l i = some ⟨d, op, ty, pos, aft, some (j, b)⟩ := by rfl)
    (hg : gval l.toArray E j = some u := by rfl) (hu : u = undef := by with_reducible rfl) (hb : takeB l.toArray (marks l.length dl) s i = true := by decide +kernel) (hd : okD x.n d = true := by rfl) : AJ P x E L L0 L1 s l (fuel + 1) dl k :=
  AJ.taken (o := ⟨d, op, ty, pos, aft, some (j, b)⟩) (T := fun _ => True) (v := undef) (by rw [← nth_eq]; exact hi) hb hd (fun _ _ _ _ _ => trivial) (fun a hE => .inr ⟨by simp [Region.wanted, yielded_u hE (hu ▸ hg)], rfl⟩) hk
/-- Nothing acts any more. -/
theorem AJ.calm (h : AJ P x E L L L 1000 l fuel dl k) (he0 : Ent L L0) (he1 : Ent L L1) : AJ P x E L L0 L1 s l fuel dl k :=
  ⟨fun a w hE hS _ hc => wpAnyG_mono (S' := SS x L L 1000) (fun _ _ h => ⟨fun _ => h.2.ent he0, h.2.ent he1⟩) _ _ _ _ (h.h a w hE hS ⟨fun _ => hS, hS⟩ hc)⟩
theorem AJ.takeNS {d : Option Tmp} {j : Nat} {b t : Bool} (hk : AJ P x (putE d undef E) L L L 1000 l fuel (i :: dl) k) (_hn : nextG dl nums l = some (i, ⟨d, op, ty, pos, aft, some (j, b)⟩) := by rfl) (hi : nth l i = some ⟨d, op, ty, pos, aft, some (j, b)⟩ := by rfl)
    (hg : gval l.toArray E j = some u := by rfl) (hu : u = .bool t := by with_reducible rfl) (hn : t = !b := by rfl) (_hs : Nat.beq i s = true := by rfl) (hb : takeB l.toArray (marks l.length dl) 1000 i = true := by decide +kernel) (he0 : Ent L L0 := by ((repeat (first | exact Ent.nil | refine Ent.rowL ?_ | refine Ent.boxL ?_ | refine Ent.box2L ?_ | refine Ent.blkS ?_ | refine Ent.any ?_ | with_reducible exact Ent.refl)); first | done | fail)) (he1 : Ent L L1 := by ((repeat (first | exact Ent.nil | refine Ent.rowL ?_ | refine Ent.boxL ?_ | refine Ent.box2L ?_ | refine Ent.blkS ?_ | refine Ent.any ?_ | with_reducible exact Ent.refl)); first | done | fail)) (hd : okD x.n d = true := by rfl) : AJ P x E L L0 L1 s l (fuel + 1) dl k :=
  AJ.calm (AJ.taken (o := ⟨d, op, ty, pos, aft, some (j, b)⟩) (T := fun _ => True) (by rw [← nth_eq]; exact hi) hb hd (fun _ _ _ _ _ => trivial) (fun a hE => .inr ⟨by simp [Region.wanted, yielded_of hE (hu ▸ hg), hn], rfl⟩) hk) he0 he1
/-- A guard that is not decided. -/
theorem AJ.split {o : Oper} {j : Nat} {b' t : Bool} {p q : Prop} (h1 : p → AJ P x ((d, .bool true) :: E) L L0 L1 s l fuel dl k) (h2 : q → AJ P x ((d, .bool false) :: E) L L0 L1 s l fuel dl k)
    (_hn : nextG dl nums l = some (i, o) := by rfl) (_hg : o.guard = some (j, b') := by rfl) (hv : gval l.toArray E j = some (.bool t) := by rfl) (hd : gdst l.toArray j = some d := by rfl) (hb : BT t p q := by first | exact BT.dec | exact BT.beq | exact BT.bne | exact BT.not BT.dec | exact BT.not BT.beq | exact BT.not BT.bne | exact BT.not BT.any | exact BT.any | fail) (_hu : Und t := by ((fail_if_success (first | with_reducible exact Und.lt | with_reducible exact Und.lf)); exact Und.mk)) : AJ P x E L L0 L1 s l fuel dl k :=
  ⟨fun a w hE hS hSS hc => by
    have hl : lookup E d = some (.bool t) := by
      unfold gval at hv
      unfold gdst at hd
      cases ho : l.toArray[j]? with
      | none => rw [ho] at hv; cases hv
      | some o =>
        rw [ho] at hv hd
        simp only at hv hd
        rw [hd] at hv
        exact hv
    have hs : ∀ t', t = t' → EnvOK x.n x.ds ((d, .bool t') :: E) a := fun t' e => ⟨hE.size, hE.defers, fun s v hv => by
      simp only [lookup] at hv
      split at hv
      · rename_i hb
        injection hv with hv
        rw [← hv, Nat.eq_of_beq_eq_true hb, ← e]
        exact hE.get d _ hl
      · exact hE.get s v hv⟩
    cases ht : t with
    | true => exact (h1 (hb.yes ht)).h a w (hs true ht) hS hSS hc
    | false => exact (h2 (hb.no ht)).h a w (hs false ht) hS hSS hc⟩
/-- Number i is run: nothing but it can come up. -/
structure AO (P : Program) (x : Cx) (E : List (Nat × Value)) (L L0 L1 : List HP) (s : Nat) (l : List Oper) (fuel : Nat) (dl : List Nat) (k : List Fr) (i : Nat) (d : Option Tmp) (op : Op) (ty : TypeId) : Prop where
  h : ∃ K, AS P x E L op ty K ∧ ∀ v L2, K v L2 → (((Nat.beq i s || mem s dl) = false → Ent L2 L0) ∧ Ent L2 L1) ∧ AJ P x (putE d v E) L2 L0 L1 s l fuel (i :: dl) k
theorem AO.as {d : Option Tmp} {K : Value → List HP → Prop} (h : AS P x E L op ty K)
    (hk : ∀ v L2, K v L2 → (((Nat.beq i s || mem s dl) = false → Ent L2 L0) ∧ Ent L2 L1) ∧ AJ P x (putE d v E) L2 L0 L1 s l fuel (i :: dl) k) : AO P x E L L0 L1 s l fuel dl k i d op ty := ⟨K, h, hk⟩
theorem AO.step {d : Option Tmp} {L2 : List HP} (hk : AJ P x (putE d v E) L2 L0 L1 s l fuel (i :: dl) k) (he0 : (Nat.beq i s || mem s dl) = false → Ent L2 L0 := by first | (intro e; exact absurd e (by decide)) | (intro _; ((repeat (first | exact Ent.nil | refine Ent.rowS ?_ | refine Ent.boxS ?_ | refine Ent.box2S ?_ | refine Ent.blkS ?_ | refine Ent.any ?_ | with_reducible exact Ent.refl)); first | done | fail)) | fail) (he1 : Ent L2 L1 := by ((repeat (first | exact Ent.nil | refine Ent.rowS ?_ | refine Ent.boxS ?_ | refine Ent.box2S ?_ | refine Ent.blkS ?_ | refine Ent.any ?_ | with_reducible exact Ent.refl)); first | done | fail)) :
    (((Nat.beq i s || mem s dl) = false → Ent L2 L0) ∧ Ent L2 L1) ∧ AJ P x (putE d v E) L2 L0 L1 s l fuel (i :: dl) k := ⟨⟨he0, he1⟩, hk⟩
theorem marks_size (m : Nat) : ∀ (dl : List Nat), (marks m dl).size = m
  | [] => by simp [marks]
  | _ :: dl => by simp [marks, marks_size m dl]
theorem mem_marks {m s : Nat} (hs : s < m) : ∀ (dl : List Nat), mem s dl = true → (marks m dl).getD s false = true
  | [], h => by cases h
  | i :: dl, h => by
    simp only [mem] at h
    split at h
    · rename_i hb
      have := Nat.eq_of_beq_eq_true hb
      subst this
      have hlt : s < (marks m dl).size := by rw [marks_size]; exact hs
      simp [marks, hlt]
    · exact getD_set_true (mem_marks hs dl h)
theorem AJ.act0 {d : Option Tmp} {g : Option (Nat × Bool)} (h : AO P x E L L0 L1 s l fuel dl k i d op ty) (hi0 : nth l i = some ⟨d, op, ty, pos, aft, g⟩) (hr : Region.ready .any l.toArray (marks l.length dl) = [i])
    (hg : ∀ a, EnvOK x.n x.ds E a → Region.wanted ⟨d, op, ty, pos, aft, g⟩ (yielded l.toArray a.tmps) = true) (hd : okD x.n d = true) (hsm : (Nat.blt s l.length || !(mem s dl)) = true) : AJ P x E L L0 L1 s l (fuel + 1) dl k :=
  ⟨fun a w hE hS hSS hc => by
    obtain ⟨K, hA, hk⟩ := h.h
    have hi : l.toArray[i]? = some ⟨d, op, ty, pos, aft, g⟩ := by rw [nth_eq] at hi0; simpa using hi0
    refine ⟨fun h0 => (by rw [hr] at h0; cases h0), fun j hj => ?_⟩
    have hri := hj
    rw [hr] at hj
    have hji : j = i := by simpa using hj
    subst hji
    unfold wpW
    simp only [hi]
    rw [if_pos (hg a hE)]
    refine hA.h a w _ _ _ _ _ _ hE hS fun v L2 w' hv hS' => ?_
    obtain ⟨⟨he0, he1⟩, hA⟩ := hk v L2 hv
    have hss : SS x L0 L1 s ((marks l.length dl).setIfInBounds j true) w' := by
      refine ⟨fun hs => hS'.ent (he0 ?_), hS'.ent he1⟩
      cases hb : Nat.beq j s with
      | false =>
        rw [Bool.false_or]
        cases hmm : mem s dl with
        | false => rfl
        | true =>
          rw [hmm] at hsm
          simp at hsm
          have h1 := mem_marks hsm dl hmm
          have h2 := getD_set_true (i := j) h1
          rw [getD_both hs] at h2
          cases h2
      | true =>
        rw [Nat.eq_of_beq_eq_true hb] at hs
        have hlt : s < (marks l.length dl).size := by rw [hc.1]; rw [← Nat.eq_of_beq_eq_true hb]; exact (Array.getElem?_eq_some_iff.1 hi).1
        simp [hlt] at hs
    exact ⟨hss, hA.h _ w' (hE.put hd) hS' hss (hc.set hri)⟩⟩
theorem AJ.sel {d : Option Tmp} (h : AO P x E L L0 L1 s l fuel dl k i d op ty)
    (_hn : nextP true dl nums l = some (i, ⟨d, op, ty, pos, aft, none⟩) := by rfl) (hi0 : nth l i = some ⟨d, op, ty, pos, aft, none⟩ := by rfl) (hr : Region.ready .any l.toArray (marks l.length dl) = [i] := by decide +kernel) (hd : okD x.n d = true := by rfl) (hsm : (Nat.blt s l.length || !(mem s dl)) = true := by decide +kernel) : AJ P x E L L0 L1 s l (fuel + 1) dl k :=
  AJ.act0 h hi0 hr (fun _ _ => by simp [Region.wanted]) hd hsm
theorem AJ.selY {j0 : Nat} {b0 : Bool} {d : Option Tmp} (h : AO P x E L L0 L1 s l fuel dl k i d op ty)
    (_hn : nextP true dl nums l = some (i, ⟨d, op, ty, pos, aft, some (j0, b0)⟩) := by rfl) (hi0 : nth l i = some ⟨d, op, ty, pos, aft, some (j0, b0)⟩ := by rfl) (hg : gval l.toArray E j0 = some u := by rfl) (hu : u = .bool b0 := by with_reducible rfl)
    (hr : Region.ready .any l.toArray (marks l.length dl) = [i] := by decide +kernel) (hd : okD x.n d = true := by rfl) (hsm : (Nat.blt s l.length || !(mem s dl)) = true := by decide +kernel) : AJ P x E L L0 L1 s l (fuel + 1) dl k :=
  AJ.act0 h hi0 hr (fun _ hE => by simp [Region.wanted, yielded_of hE (hu ▸ hg)]) hd hsm
/-! ### loops -/
theorem J.loopI {c : Code} {ι : Type} (Inv : ι → Prop) (μ : ι → Nat) (E' : ι → List (Nat × Value)) (L' : ι → List HP) (i : ι) (hi : Inv i)
    (hs : ∀ i, Inv i → (∀ j, Inv j → μ j < μ i → JL P x (E' j) (L' j) c k) → J P x (E' i) (L' i) c (.loop c :: k)) (hE : sub (E' i) E := by repeat (first | exact sub.nil | refine sub.cons (by rfl) ?_)) (hL : Ent L (L' i) := by ((repeat (first | exact Ent.nil | refine Ent.rowL ?_ | refine Ent.boxL ?_ | refine Ent.box2L ?_ | refine Ent.blkS ?_ | refine Ent.any ?_ | with_reducible exact Ent.refl)); first | done | fail)) : J P x E L (.loop c) k := by
  have key : ∀ m i, μ i = m → Inv i → JL P x (E' i) (L' i) c k := by
    intro m
    induction m using Nat.strongRecOn with
    | _ m ih => exact fun i hm hi => JL.round (hs i hi fun j hj hlt => ih (μ j) (hm ▸ hlt) j rfl hj)
  exact J.loop (JL.ent hL (JL.weaken hE (key _ i rfl hi)))
theorem JL.use {c : Code} {E' : List (Nat × Value)} {L' : List HP} (h : JL P x E' L' c k) (hE : sub E' E := by repeat (first | exact sub.nil | refine sub.cons (by rfl) ?_)) (hL : Ent L L' := by ((repeat (first | exact Ent.nil | refine Ent.rowL ?_ | refine Ent.boxL ?_ | refine Ent.box2L ?_ | refine Ent.blkS ?_ | refine Ent.any ?_ | with_reducible exact Ent.refl)); first | done | fail)) : JL P x E L c k := JL.ent hL (JL.weaken hE h)
theorem J.retB {rs : List ResultVar} {b b' : Bool} (he : b = b') (hR : x.R = Ends x.w0 x.O (fun _ : Unit => Value.bool b') (fun _ => []) (fun _ => True) := by rfl) (hf : x.fn.results = rs.toArray := by rfl) (hv : resV E rs = some [.bool b] := by rfl) (hq : x.Q0 = bodyPost P x.fn x.R := by rfl) (hds : x.ds = [] := by rfl) : J P x E L .ret k := by
  subst he
  exact J.ret (vs := [.bool b]) (fun w hS => hR ▸ ends () trivial rfl Ent.nil w hS) hf hv hq hds
theorem JK.finB {rs : List ResultVar} {b b' : Bool} (he : b = b') (hR : x.R = Ends x.w0 x.O (fun _ : Unit => Value.bool b') (fun _ => []) (fun _ => True) := by rfl) (hf : x.fn.results = rs.toArray := by rfl) (hv : resV E rs = some [.bool b] := by rfl) (hq : x.Q0 = bodyPost P x.fn x.R := by rfl) (hds : x.ds = [] := by rfl) : JK P x E L [] := by
  subst he
  exact JK.fin (vs := [.bool b]) (fun w hS => hR ▸ ends () trivial rfl Ent.nil w hS) hf hv hq hds
theorem toNat1 (i : Nat) : ((i : Int) - 1).toNat = i - 1 := by omega
def allI (f : Nat → Bool) : Nat → Nat → Bool
  | 0, _ => true
  | m + 1, i => f i && allI f m (i + 1)
theorem allI_step {f : Nat → Bool} {n i : Nat} (h : i < n) : allI f (n - i) i = (f i && allI f (n - (i + 1)) (i + 1)) := by
  rw [show n - i = (n - (i + 1)) + 1 by omega]
  rfl
theorem allI_end {f : Nat → Bool} {n i : Nat} (h : n ≤ i) : allI f (n - i) i = true := by
  rw [show n - i = 0 by omega]
  rfl
theorem allI_on {f : Nat → Bool} {n i : Nat} {a r : Bool} (hm : a = (allI f (n - i) i && r)) (h : i < n) (hf : f i = true) : a = (allI f (n - (i + 1)) (i + 1) && r) := by rw [hm, allI_step h, hf, Bool.true_and]
theorem allI_off {f : Nat → Bool} {n i : Nat} {a r : Bool} (hm : a = (allI f (n - i) i && r)) (h : i < n) (hf : f i = false) : false = a := by rw [hm, allI_step h, hf, Bool.false_and, Bool.false_and]
theorem allI_fin {f : Nat → Bool} {n i : Nat} {a b r : Bool} (hm : a = (allI f (n - i) i && r)) (h : n ≤ i) (hf : b = r) : b = a := by rw [hm, allI_end h, hf, Bool.true_and]
/-! ### plain operations, whatever they are -/
theorem OJ.p {rest : List Oper} (hk : OJ P x ((d, v) :: E) L ops rest k) (h : PS P x E L op ty v := by first | exact PS.move | exact PS.assign | exact PS.cmp | exact PS.pickT | exact PS.pickF | exact PS.notT | exact PS.notF | exact PS.not | exact PS.extract | exact PS.inc | exact PS.ar | exact PS.arW | exact PS.nilP | exact PS.fieldB | exact PS.fieldP | exact PS.load | exact PS.loadA | exact PS.loadH | exact PS.makeFunc | exact PS.build | exact PS.len | exact PS.lenS | exact PS.index | exact PS.indexZ | exact PS.fieldE | exact PS.loadE | exact PS.loadEA | exact PS.neg | exact PS.negW | exact PS.sliceHN | exact PS.sliceLN | exact PS.sliceH | exact PS.sliceL | exact PS.sliceLH | exact PS.mn | exact PS.mx | exact PS.eqA | exact PS.neA | fail) (hd : Nat.blt d x.n = true := by rfl) : OJ P x E L ops (⟨some d, op, ty, pos, aft, none⟩ :: rest) k := OJ.ps h hk hd
end
end Go.SL
