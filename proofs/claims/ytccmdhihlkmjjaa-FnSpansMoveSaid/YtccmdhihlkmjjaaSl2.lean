/- The judgement on code: frames as lists of slots, a stack of what is still to be done. -/
import Derived.Test.YtccmdhihlkmjjaaSl1
namespace Go.SL
open Go.RowKit

/-! ### frames -/
def lookup : List (Nat × Value) → Nat → Option Value
  | [], _ => none
  | (i, v) :: E, t => match Nat.beq t i with
    | true => some v
    | false => lookup E t
/-- The marks of ranges over functions that have been. -/
def markL (ds : List Nat) : List Deferred := ds.map fun D => { target := .collected D, args := #[] }
structure EnvOK (n : Nat) (ds : List Nat) (E : List (Nat × Value)) (a : Act) : Prop where
  size : a.tmps.size = n
  defers : a.defers = markL ds
  get : ∀ t v, lookup E t = some v → a.tmps.getD t undef = v
def ev (E : List (Nat × Value)) : Operand → Option Value
  | .tmp t => lookup E t
  | .const v => some v
  | .func f => some (.func (.func f) #[] #[])
  | .global g => some (.pointer (some ⟨g, 0, none⟩))
def evs (E : List (Nat × Value)) : List Operand → Option (List Value)
  | [] => some []
  | x :: xs => match ev E x with
    | some v => match evs E xs with
      | some vs => some (v :: vs)
      | none => none
    | none => none
def putE (d : Option Tmp) (v : Value) (E : List (Nat × Value)) : List (Nat × Value) :=
  match d with
  | some d => (d, v) :: E
  | none => E
def okD (n : Nat) : Option Tmp → Bool
  | some d => Nat.blt d n
  | none => true
section
variable {n : Nat} {ds : List Nat} {E : List (Nat × Value)} {a : Act}
theorem EnvOK.ev (h : EnvOK n ds E a) {x : Operand} {v : Value} (hx : ev E x = some v) : a.eval x = v := by
  cases x with
  | tmp t => exact h.get t v hx
  | const v' => injection hx
  | func f => injection hx
  | global g => injection hx
theorem EnvOK.evs (h : EnvOK n ds E a) : ∀ {xs : List Operand} {vs : List Value}, evs E xs = some vs → xs.map a.eval = vs
  | [], vs, hx => by cases hx; rfl
  | x :: xs, vs, hx => by
    unfold SL.evs at hx
    split at hx
    · rename_i v hv
      split at hx
      · rename_i vs' hvs
        injection hx with hx
        subst hx
        simp [h.ev hv, h.evs hvs]
      · cases hx
    · cases hx
theorem EnvOK.put (h : EnvOK n ds E a) {d : Option Tmp} {v : Value} (hd : okD n d = true) : EnvOK n ds (putE d v E) (a.put d v) := by
  cases d with
  | none => exact h
  | some d =>
    have hlt : d < n := by simpa [okD, Nat.blt_eq] using hd
    refine ⟨by simp [Act.put, h.size], h.defers, fun t u hu => ?_⟩
    simp only [putE, lookup] at hu
    by_cases e : t = d
    · subst e
      rw [Nat.beq_refl] at hu
      injection hu with hu
      subst hu
      simp [Act.put, Array.getD, h.size, hlt]
    · have hb : Nat.beq t d = false := by
        cases hb : Nat.beq t d with
        | false => rfl
        | true => exact absurd (Nat.eq_of_beq_eq_true hb) e
      rw [hb] at hu
      have := h.get t u hu
      rw [← this]
      simp only [Act.put, Array.getD_eq_getD_getElem?]
      rw [Array.getElem?_setIfInBounds_ne (Ne.symm e)]
/-- Fewer slots known. -/
theorem EnvOK.weaken (h : EnvOK n ds E a) {E' : List (Nat × Value)} (hs : ∀ t v, lookup E' t = some v → lookup E t = some v) : EnvOK n ds E' a :=
  ⟨h.size, h.defers, fun t v hv => h.get t v (hs t v hv)⟩
/-- E' says of each slot what E does (checked slot by slot). -/
def sub (E' E : List (Nat × Value)) : Prop := ∀ t v, lookup E' t = some v → lookup E t = some v
theorem sub.nil : sub [] E := fun _ _ h => by cases h
theorem sub.cons {t : Nat} {v : Value} {E' : List (Nat × Value)} (hv : lookup E t = some v) (h : sub E' E) : sub ((t, v) :: E') E := by
  intro u x hx
  simp only [lookup] at hx
  split at hx
  · rename_i hb
    injection hx with hx
    subst hx
    rw [Nat.eq_of_beq_eq_true hb]
    exact hv
  · exact h u x hx
end

/-! ### the stack -/
/-- A loop that has begun: the machine stands at its body. -/
def InLoop (F : Fence) (P : Program) (c : Code) (Q : Exit → Act → World → Prop) (a : Act) (w : World) : Prop :=
  ∀ (b : Frame) (k : List Item) (cs : List Frame), b.roundOf = F.round → F.fn b.fn → F.room (cs.length + 1 + 0) →
    ∃ e a' w', Q e a' w' ∧ ArrivesIn (Machine.fenced P F) P (lone (b.atR a (.code c :: .inLoop c :: k)) cs w) b k cs e a' w'
section
variable {F : Fence} {P : Program} {c : Code} {Q : Exit → Act → World → Prop} {a : Act} {w : World}
theorem InLoop.wp (h : InLoop F P c Q a w) : (Code.loop c).wpIn F 0 P Q a w := fun b k cs hro hb hr => by
  obtain ⟨e, a', w', hq, harr⟩ := h b k cs hro hb hr
  exact ⟨e, a', w', hq, .of_steps (.one (fenced_calm hb hr rfl) stepR_loop) harr⟩
theorem InLoop.round (h : c.wpIn F 0 P (Exit.then (InLoop F P c Q) Q) a w) : InLoop F P c Q a w := fun b k cs hro hb hr => by
  obtain ⟨e, a₁, w₁, hq, harr⟩ := h b (.inLoop c :: k) cs hro hb hr
  cases e with
  | normal =>
    obtain ⟨e₂, a₂, w₂, hq₂, harr₂⟩ := hq b k cs hro hb hr
    exact ⟨e₂, a₂, w₂, hq₂, .of_steps (StepsIn.trans harr (.one (fenced_calm hb hr rfl) stepR_inLoop)) harr₂⟩
  | exit id => exact ⟨_, a₁, w₁, hq, .pass (x := .inLoop c) rfl (fun _ _ => .inl (by simp)) harr⟩
  | goto l => exact ⟨_, a₁, w₁, hq, .pass (x := .inLoop c) rfl (fun _ _ => .inl (by simp)) harr⟩
  | ret => exact ⟨_, a₁, w₁, hq, .pass (x := .inLoop c) rfl (fun _ _ => .inl (by simp)) harr⟩
  | panic ch => exact ⟨_, a₁, w₁, hq, .pass (x := .inLoop c) rfl (fun _ _ => .inl (by simp)) harr⟩
  | outgrown => exact ⟨_, a₁, w₁, hq, .pass (x := .inLoop c) rfl (fun _ _ => .inl (by simp)) harr⟩
end

inductive Fr where
  | code (c : Code)
  | blk (id : Nat)
  | loop (body : Code)
structure Cx where
  fn : Func
  n : Nat
  R : Ending → World → Prop
  w0 : World
  O : Nat → Prop
  ro : Option Nat
  ds : List Nat
  Q0 : Exit → Act → World → Prop
  pan : ∀ c a w d u, Q0 (.panic c) (Act.put a d u) w → Q0 (.panic c) a w
def post (P : Program) (x : Cx) : List Fr → Exit → Act → World → Prop
  | [] => x.Q0
  | .code c :: k => Exit.then (c.wpIn (fen x.ro) 0 P (post P x k)) (post P x k)
  | .blk id :: k => Exit.inBlock id (post P x k)
  | .loop b :: k => Exit.then (InLoop (fen x.ro) P b (post P x k)) (post P x k)
structure J (P : Program) (x : Cx) (E : List (Nat × Value)) (L : List HP) (c : Code) (k : List Fr) : Prop where
  h : ∀ a w, EnvOK x.n x.ds E a → SAT x.w0 x.O L w → c.wpIn (fen x.ro) 0 P (post P x k) a w
/-- The next thing on the stack. -/
structure JK (P : Program) (x : Cx) (E : List (Nat × Value)) (L : List HP) (k : List Fr) : Prop where
  h : ∀ a w, EnvOK x.n x.ds E a → SAT x.w0 x.O L w → post P x k .normal a w
structure JL (P : Program) (x : Cx) (E : List (Nat × Value)) (L : List HP) (b : Code) (k : List Fr) : Prop where
  h : ∀ a w, EnvOK x.n x.ds E a → SAT x.w0 x.O L w → InLoop (fen x.ro) P b (post P x k) a w
structure OJ (P : Program) (x : Cx) (E : List (Nat × Value)) (L : List HP) (ops : Array Oper) (rest : List Oper) (k : List Fr) : Prop where
  h : ∀ a w, EnvOK x.n x.ds E a → SAT x.w0 x.O L w → wpL P ops (post P x k) rest a w
theorem iJ {P : Program} {x : Cx} {E : List (Nat × Value)} {L : List HP} {c : Code} {k : List Fr} (h : J P x E L c k) : J P x E L c k := h
theorem iJK {P : Program} {x : Cx} {E : List (Nat × Value)} {L : List HP} {k : List Fr} (h : JK P x E L k) : JK P x E L k := h
theorem iJL {P : Program} {x : Cx} {E : List (Nat × Value)} {L : List HP} {c : Code} {k : List Fr} (h : JL P x E L c k) : JL P x E L c k := h
theorem iOJ {P : Program} {x : Cx} {E : List (Nat × Value)} {L : List HP} {ops : Array Oper} {rest : List Oper} {k : List Fr} (h : OJ P x E L ops rest k) : OJ P x E L ops rest k := h
def popTo (id : Nat) : List Fr → Option (List Fr)
  | [] => none
  | .blk i :: k => match Nat.beq i id with
    | true => some k
    | false => popTo id k
  | _ :: k => popTo id k

section
variable {P : Program} {x : Cx} {E : List (Nat × Value)} {L : List HP} {k : List Fr}
theorem J.seq {a b : Code} (h : J P x E L a (.code b :: k)) : J P x E L (.seq a b) k := ⟨fun s w hE hS => wpIn_seq (h.h s w hE hS)⟩
theorem J.skip (h : JK P x E L k) : J P x E L .skip k := ⟨fun s w hE hS => wpIn_skip (h.h s w hE hS)⟩
theorem J.block {id : Nat} {c : Code} (h : J P x E L c (.blk id :: k)) : J P x E L (.block id c) k := ⟨fun s w hE hS => wpIn_block (h.h s w hE hS)⟩
theorem J.loop {c : Code} (h : JL P x E L c k) : J P x E L (.loop c) k := ⟨fun s w hE hS => (h.h s w hE hS).wp⟩
theorem JL.round {c : Code} (h : J P x E L c (.loop c :: k)) : JL P x E L c k := ⟨fun s w hE hS => InLoop.round (h.h s w hE hS)⟩
theorem JK.code {c : Code} (h : J P x E L c k) : JK P x E L (.code c :: k) := ⟨h.h⟩
theorem JK.blk {id : Nat} (h : JK P x E L k) : JK P x E L (.blk id :: k) := ⟨h.h⟩
theorem JK.loop {c : Code} (h : JL P x E L c k) : JK P x E L (.loop c :: k) := ⟨h.h⟩
theorem post_exit {id : Nat} {a : Act} {w : World} : ∀ {k k' : List Fr}, popTo id k = some k' → post P x k' .normal a w → post P x k (.exit id) a w
  | [], _, h, _ => by cases h
  | .code c :: k, k', h, hp => post_exit (k := k) h hp
  | .loop c :: k, k', h, hp => post_exit (k := k) h hp
  | .blk i :: k, k', h, hp => by
    show (if id = i then post P x k .normal a w else post P x k (.exit id) a w)
    simp only [popTo] at h
    split at h
    · rename_i hb
      rw [if_pos (Nat.eq_of_beq_eq_true hb).symm]
      injection h with h
      rw [h]
      exact hp
    · rename_i hb
      rw [if_neg (fun e => by subst e; rw [Nat.beq_refl] at hb; cases hb)]
      exact post_exit (k := k) h hp
theorem J.exit {id : Nat} {k' : List Fr} (h : JK P x E L k') (hk : popTo id k = some k' := by rfl) : J P x E L (.exit id) k := ⟨fun s w hE hS => wpIn_exit (post_exit hk (h.h s w hE hS))⟩
theorem post_ret {a : Act} {w : World} : ∀ {k : List Fr}, x.Q0 .ret a w → post P x k .ret a w
  | [], h => h
  | .code _ :: k, h => post_ret (k := k) h
  | .loop _ :: k, h => post_ret (k := k) h
  | .blk _ :: k, h => post_ret (k := k) h
/-- What a condition says, as it stands in a walk. -/
structure BT (t : Bool) (p q : Prop) : Prop where
  yes : t = true → p
  no : t = false → q
theorem BT.dec {p : Prop} [Decidable p] : BT (decide p) p (¬ p) := ⟨of_decide_eq_true, of_decide_eq_false⟩
theorem BT.not {t : Bool} {p q : Prop} (h : BT t p q) : BT (!t) q p := ⟨fun e => h.no (by cases t <;> simp_all), fun e => h.yes (by cases t <;> simp_all)⟩
theorem BT.beq {a b : Int} : BT (a == b) (a = b) (a ≠ b) := ⟨fun e => by simpa using e, fun e => by simpa using e⟩
theorem BT.bne {a b : Int} : BT (a != b) (a ≠ b) (a = b) := ⟨fun e => by simpa using e, fun e => by simpa using e⟩
theorem BT.any {t : Bool} : BT t (t = true) (t = false) := ⟨id, id⟩
theorem J.cond {c : Operand} {a b : Code} {t : Bool} {p q : Prop} (h1 : p → J P x E L a k) (h2 : q → J P x E L b k) (hc : ev E c = some (.bool t) := by rfl) (hb : BT t p q := by first | exact BT.dec | exact BT.beq | exact BT.bne | exact BT.not BT.dec | exact BT.not BT.beq | exact BT.not BT.bne | exact BT.not BT.any | exact BT.any | fail) :
    J P x E L (.cond c a b) k := ⟨fun s w hE hS => wpIn_cond_split (hE.ev hc) (fun e => (h1 (hb.yes e)).h s w hE hS) (fun e => (h2 (hb.no e)).h s w hE hS)⟩
theorem J.condT {c : Operand} {a b : Code} {u : Value} (h1 : J P x E L a k) (hc : ev E c = some u := by rfl) (hu : u = .bool true := by with_reducible rfl) : J P x E L (.cond c a b) k := ⟨fun s w hE hS => wpIn_cond_true (hE.ev (hu ▸ hc)) (h1.h s w hE hS)⟩
theorem J.condF {c : Operand} {a b : Code} {u : Value} (h1 : J P x E L b k) (hc : ev E c = some u := by rfl) (hu : u = .bool false := by with_reducible rfl) : J P x E L (.cond c a b) k := ⟨fun s w hE hS => wpIn_cond_false (hE.ev (hu ▸ hc)) (h1.h s w hE hS)⟩
def isDefer : Op → Bool
  | .defer _ => true
  | _ => false
def noDefL : List Oper → Bool
  | [] => true
  | o :: l => match isDefer o.op with
    | true => false
    | false => noDefL l
def noDef : Option Nat → List Oper → Bool
  | none, _ => true
  | some _, l => noDefL l
theorem noDefL_spec : ∀ (l : List Oper), noDefL l = true → ∀ o ∈ l, ∀ c, o.op ≠ .defer c
  | [], _, _, h => by cases h
  | o :: l, h, u, hu => fun c e => by
    simp only [noDefL] at h
    split at h
    · cases h
    · rename_i hd
      rcases List.mem_cons.1 hu with rfl | hu
      · rw [e] at hd; cases hd
      · exact noDefL_spec l h u hu c e
theorem noDef_spec {ro : Option Nat} {l : List Oper} (h : noDef ro l = true) : ro = none ∨ ∀ o ∈ l, ∀ c, o.op ≠ .defer c := by
  cases ro with
  | none => exact .inl rfl
  | some _ => exact .inr (noDefL_spec l h)
theorem J.region {id : Nat} {l : List Oper} (h : OJ P x E L l.toArray l k) (hd : noDef x.ro l = true := by rfl) : J P x E L (.region id l.toArray false) k := ⟨fun s w hE hS => wpIn_region_lit (wpL_in l s w (noDef_spec hd) (h.h s w hE hS))⟩
theorem OJ.nil {ops : Array Oper} (h : JK P x E L k) : OJ P x E L ops [] k := ⟨fun s w hE hS => h.h s w hE hS⟩
theorem J.weaken {c : Code} {E' : List (Nat × Value)} (hs : sub E' E) (h : J P x E' L c k) : J P x E L c k := ⟨fun s w hE hS => h.h s w (hE.weaken hs) hS⟩
theorem JL.weaken {c : Code} {E' : List (Nat × Value)} (hs : sub E' E) (h : JL P x E' L c k) : JL P x E L c k := ⟨fun s w hE hS => h.h s w (hE.weaken hs) hS⟩
theorem JK.weaken {E' : List (Nat × Value)} (hs : sub E' E) (h : JK P x E' L k) : JK P x E L k := ⟨fun s w hE hS => h.h s w (hE.weaken hs) hS⟩
end

/-! ### contracts -/
/-- What a call gives: a value out of X, resources, a fact. -/
def Ends (w0 : World) (O : Nat → Prop) {X : Type} (ret : X → Value) (Lo : X → List HP) (po : X → Prop) (e : Ending) (w' : World) : Prop :=
  ∃ y, po y ∧ e = .returned (ret y) ∧ SAT w0 O (Lo y) w'
def Spec (P : Program) (f : FuncId) (args : List Value) (Rs : List (World → Prop)) (Lin : List HP) {X : Type} (ret : X → Value) (Lo : X → List HP) (po : X → Prop) : Prop :=
  ∀ w0 O, (∀ R ∈ Rs, Rd w0 O [] R) → SAT w0 O Lin w0 → Calls P f args.toArray w0 (Ends w0 O ret Lo po)
/-- Resources may be let go. -/
structure Ent (L L' : List HP) : Prop where
  h : ∃ L1, ∀ h, sepL L h → sepL (L1 ++ L') h
theorem iEnt {L L' : List HP} (h : Ent L L') : Ent L L' := h
theorem iEBlk {L L' : List HP} {b : Nat} {o : Obj} (h : Ent L (blk b o :: L')) : Ent L (blk b o :: L') := h
theorem Ent.refl {L : List HP} : Ent L L := ⟨[], fun _ h => h⟩
theorem Ent.nil {L : List HP} : Ent L [] := ⟨L, fun _ h => by rw [List.append_nil]; exact h⟩
theorem Ent.pick {L L1 L2 : List HP} {p : HP} (hp : Pick L p L1) (h : Ent L1 L2) : Ent L (p :: L2) := by
  obtain ⟨L3, h3⟩ := h.h
  refine ⟨L3, fun g hg => ?_⟩
  obtain ⟨h1, h2, d, rfl, a, b⟩ := hp.h g hg
  obtain ⟨h4, h5, d', rfl, a', b'⟩ := sepL_append.1 (h3 h2 b)
  obtain ⟨da, db⟩ := disj_join.1 d
  refine sepL_append.2 ⟨h4, PH.join h1 h5, disj_join.2 ⟨disj_comm da, d'⟩, ?_, a', h1, h5, db, rfl, a, b'⟩
  rw [← join_assoc, join_comm da, join_assoc]
theorem SAT.ent {w0 w : World} {O : Nat → Prop} {L L' : List HP} (h : SAT w0 O L w) (he : Ent L L') : SAT w0 O L' w := by
  obtain ⟨L1, h1⟩ := he.h
  exact SAT.drop (L1 := L1) ⟨h.1, let ⟨g, a, b, c⟩ := h.2; ⟨g, a, b, h1 g c⟩⟩
theorem J.ent {P : Program} {x : Cx} {E : List (Nat × Value)} {L L' : List HP} {c : Code} {k : List Fr} (he : Ent L L') (h : J P x E L' c k) : J P x E L c k := ⟨fun s w hE hS => h.h s w hE (hS.ent he)⟩
theorem JL.ent {P : Program} {x : Cx} {E : List (Nat × Value)} {L L' : List HP} {c : Code} {k : List Fr} (he : Ent L L') (h : JL P x E L' c k) : JL P x E L c k := ⟨fun s w hE hS => h.h s w hE (hS.ent he)⟩
theorem JK.ent {P : Program} {x : Cx} {E : List (Nat × Value)} {L L' : List HP} {k : List Fr} (he : Ent L L') (h : JK P x E L' k) : JK P x E L k := ⟨fun s w hE hS => h.h s w hE (hS.ent he)⟩

def argE : Nat → List Value → List (Nat × Value)
  | _, [] => []
  | i, v :: vs => (i, v) :: argE (i + 1) vs
theorem argE_get : ∀ (i : Nat) (vs : List Value) (t : Nat) (v : Value), lookup (argE i vs) t = some v → i ≤ t ∧ vs[t - i]? = some v
  | _, [], _, _, h => by cases h
  | i, u :: vs, t, v, h => by
    simp only [argE, lookup] at h
    split at h
    · rename_i hb
      have := Nat.eq_of_beq_eq_true hb
      subst this
      exact ⟨Nat.le_refl _, by simpa using h⟩
    · rename_i hb
      obtain ⟨h1, h2⟩ := argE_get (i + 1) vs t v h
      refine ⟨by omega, ?_⟩
      have : t - i = (t - (i + 1)) + 1 := by omega
      rw [this]
      simpa using h2
theorem body_pan {P : Program} {fn : Func} {R : Ending → World → Prop} (c : List PanicEntry) (a : Act) (w : World) (d : Option Tmp) (u : Value) (h : bodyPost P fn R (.panic c) (Act.put a d u) w) : bodyPost P fn R (.panic c) a w := by
  cases d <;> exact h
theorem Spec.mk {P : Program} {f : FuncId} {fn : Func} {c : Code} {args : List Value} {Rs : List (World → Prop)} {Lin : List HP} {X : Type} {ret : X → Value} {Lo : X → List HP} {po : X → Prop} {n : Nat}
    (hf : P.funcs[f]? = some fn) (hb : fn.body = some c) (hn : fn.ntmps = n) (hl : Nat.ble args.length n = true)
    (h : ∀ w0 O, (∀ R ∈ Rs, Rd w0 O [] R) → SAT w0 O Lin w0 → J P ⟨fn, n, Ends w0 O ret Lo po, w0, O, none, [], bodyPost P fn (Ends w0 O ret Lo po), body_pan⟩ (argE 0 args) Lin c []) : Spec P f args Rs Lin ret Lo po := by
  intro w0 O hR hS
  refine callsIn_wide.1 (callsIn_of_wp (F := Fence.wide) (n := 0) hf hb trivial ((h w0 O hR hS).h _ w0 ⟨?_, rfl, ?_⟩ hS))
  · have := Nat.le_of_ble_eq_true hl
    simp [hn]
    omega
  · intro t v hv
    obtain ⟨_, h2⟩ := argE_get 0 args t v hv
    simp only [Nat.sub_zero] at h2
    have hlt := (List.getElem?_eq_some_iff.1 h2).1
    have := (List.getElem?_eq_some_iff.1 h2).2
    show (args.toArray ++ Array.replicate (fn.ntmps - args.toArray.size) undef).getD t undef = v
    rw [Array.getD_eq_getD_getElem?, Array.getElem?_append_left (by simpa using hlt)]
    simp [hlt, this]
/-- Results. -/
def resV (E : List (Nat × Value)) : List ResultVar → Option (List Value)
  | [] => some []
  | .tmp t :: r => match lookup E t with
    | some v => match resV E r with
      | some vs => some (v :: vs)
      | none => none
    | none => none
  | _ => none
def tup : List Value → Value
  | [v] => v
  | vs => .tuple vs.toArray
end Go.SL
