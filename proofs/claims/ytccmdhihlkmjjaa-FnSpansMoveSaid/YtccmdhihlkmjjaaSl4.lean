/- The rules, an operation each. -/
import Derived.Test.YtccmdhihlkmjjaaSl3
import Derived.Laws.CopyRow
namespace Go.SL
open Go.RowKit

/-! ### lists of cells -/
def updO : List Value → Nat → List Value → Option (List Value)
  | l, 0, [] => some l
  | _ :: l, 0, v :: vs => match updO l 0 vs with
    | some r => some (v :: r)
    | none => none
  | x :: l, f + 1, vs => match updO l f vs with
    | some r => some (x :: r)
    | none => none
  | [], 0, _ :: _ => none
  | [], _ + 1, _ => none
theorem updO_eq : ∀ (l : List Value) (f : Nat) (vs r : List Value), updO l f vs = some r → f + vs.length ≤ l.length ∧ r = l.take f ++ vs ++ l.drop (f + vs.length)
  | l, 0, [], r, h => by cases l <;> (injection h with h; subst h; simp)
  | x :: l, 0, v :: vs, r, h => by
    simp only [updO] at h
    split at h
    · rename_i r' hr
      injection h with h
      obtain ⟨h1, h2⟩ := updO_eq l 0 vs r' hr
      subst h
      rw [h2]
      simp at h1 ⊢
      exact h1
    · cases h
  | x :: l, f + 1, vs, r, h => by
    simp only [updO] at h
    split at h
    · rename_i r' hr
      injection h with h
      obtain ⟨h1, h2⟩ := updO_eq l f vs r' hr
      subst h
      rw [h2]
      refine ⟨by simp; omega, ?_⟩
      rw [show f + 1 + vs.length = (f + vs.length) + 1 by omega]
      simp
    · cases h
  | [], 0, _ :: _, _, h => by cases h
  | [], _ + 1, vs, _, h => by cases vs <;> cases h
def allOne : List Value → Bool
  | [] => true
  | v :: vs => match v.oneCell' with
    | true => allOne vs
    | false => false
theorem allOne_eq : ∀ (vs : List Value), allOne vs = true → ∀ v ∈ vs, v.oneCell' = true
  | [], _, _, h => by cases h
  | v :: vs, h, u, hu => by
    simp only [allOne] at h
    split at h
    · rename_i h1
      rcases List.mem_cons.1 hu with rfl | hu
      · exact h1
      · exact allOne_eq vs h u hu
    · cases h

/-- A block that can be read. -/
def holds (b : Nat) (o : Obj) (w : World) : Prop := w.heap[b]? = some o
theorem Rd.blk {w0 : World} {O : Nat → Prop} {L L' : List HP} {b : Nat} {o : Obj} (hp : Pick L (SL.blk b o) L') : Rd w0 O L (holds b o) := ⟨fun _ hw => (hw.pick hp).read⟩
theorem Rd.sub {w0 : World} {O : Nat → Prop} {L L' : List HP} {p : HP} {R : World → Prop} (h : Rd w0 O [p] R) (hp : Pick L p L') : Rd w0 O L R := ⟨fun w hw => h.h w ((hw.pick hp).ent (Ent.pick Pick.here Ent.nil))⟩
section
variable {P : Program} {x : Cx} {L : List HP}
theorem storeRun {b f : Nat} {cs : Array Value} {T : TypeId} {w : World} {vs r : List Value} (hw : w.heap[b]? = some (.cells cs T (0, 0))) (hu : updO cs.toList f vs = some r) (h1 : ∀ v ∈ vs, v.oneCell' = true) :
    (storeCells ⟨b, f, none⟩ vs).run P w = .ok () (w.setRow b r.toArray) := by
  obtain ⟨hl, rfl⟩ := updO_eq _ _ _ _ hu
  have := run_storeCells_at (P := P) b f T vs 0 cs w hw (by simpa using hl) h1
  simpa using this
theorem setRow_else {b j : Nat} {cs : Array Value} {w : World} (h : j ≠ b) : (w.setRow b cs).heap[j]? = w.heap[j]? := by
  simp only [World.setRow]
  simp [Array.getElem?_modify]
  exact fun e => absurd e.symm h
theorem setRow_at {b : Nat} {cs cs' : Array Value} {T : TypeId} {w : World} (hw : w.heap[b]? = some (.cells cs T (0, 0))) : (w.setRow b cs').heap[b]? = some (.cells cs' T (0, 0)) := by
  simp only [World.setRow]
  simp [Array.getElem?_modify, hw]
theorem SAT.setRow {b : Nat} {cs cs' : Array Value} {T : TypeId} {w0 w : World} {O : Nat → Prop} (h : SAT w0 O (blk b (.cells cs T (0, 0)) :: L) w) : SAT w0 O (blk b (.cells cs' T (0, 0)) :: L) (w.setRow b cs') :=
  h.put rfl rfl rfl (by simp [World.setRow]) (fun j hj => setRow_else hj) (setRow_at h.read)
/-- A value of one cell. -/
structure One (x : Cx) (L : List HP) (v : Value) : Prop where
  h : ∀ w, SAT x.w0 x.O L w → v.oneCell' = true
theorem One.lit {v : Value} (h : v.oneCell' = true := by rfl) : One x L v := ⟨fun _ _ => h⟩
theorem One.rd {α : Type} {q : Enc α} {xs : List α} {v : Value} (h : Rd x.w0 x.O L (SL.rd q v xs)) : One x L v := ⟨fun w hw => by
  obtain ⟨_, _, rfl, _⟩ := h.h w hw
  rfl⟩
theorem cells_one {v : Value} (h : v.oneCell' = true) : v.cells = #[v] := by cases v <;> first | rfl | cases h
end
section
variable {P : Program} {x : Cx} {E : List (Nat × Value)} {L L' : List HP} {k : List Fr} {ops : Array Oper} {rest : List Oper}
/-- The form behind all rules: the operation runs to a value. -/
theorem OJ.run {o : Oper} (hg : o.guard = none) (hd : okD x.n o.dst = true)
    (h : ∀ a w, EnvOK x.n x.ds E a → SAT x.w0 x.O L w → ∃ v w' L1, (execOp a.eval o).run P w = .ok (.value v) w' ∧ SAT x.w0 x.O L1 w' ∧ OJ P x (putE o.dst v E) L1 ops rest k) : OJ P x E L ops (o :: rest) k := by
  refine ⟨fun a w hE hS => ?_⟩
  obtain ⟨v, w', L1, hr, hS', hk⟩ := h a w hE hS
  refine wpL_plain hg (.inl ?_)
  unfold Oper.wp
  rw [hr]
  exact hk.h _ _ (hE.put hd) hS'
/-- .. to nothing. -/
theorem OJ.runU {o : Oper} (hg : o.guard = none) (hd : o.dst = none)
    (h : ∀ a w, EnvOK x.n x.ds E a → SAT x.w0 x.O L w → ∃ w' L1, (execOp a.eval o).run P w = .ok .skip w' ∧ SAT x.w0 x.O L1 w' ∧ OJ P x E L1 ops rest k) : OJ P x E L ops (o :: rest) k := by
  refine ⟨fun a w hE hS => ?_⟩
  obtain ⟨w', L1, hr, hS', hk⟩ := h a w hE hS
  refine wpL_plain hg (.inl ?_)
  unfold Oper.wp
  rw [hr]
  refine hk.h _ _ ?_ hS'
  have := hE.put (d := none) (v := undef) rfl
  rw [hd]
  exact this
/-- .. and the world stays. -/
theorem OJ.pure {o : Oper} {v : Value} (hg : o.guard = none) (hd : okD x.n o.dst = true)
    (h : ∀ a w, EnvOK x.n x.ds E a → SAT x.w0 x.O L w → (execOp a.eval o).run P w = .ok (.value v) w) (hk : OJ P x (putE o.dst v E) L ops rest k) : OJ P x E L ops (o :: rest) k :=
  OJ.run hg hd fun a w hE hS => ⟨v, w, L, h a w hE hS, hS, hk⟩

/-- A plain operation: it gives a value, the world stays. -/
structure PS (P : Program) (x : Cx) (E : List (Nat × Value)) (L : List HP) (op : Op) (ty : TypeId) (v : Value) : Prop where
  h : ∀ a w dst pos aft g, EnvOK x.n x.ds E a → SAT x.w0 x.O L w → (execOp a.eval ⟨dst, op, ty, pos, aft, g⟩).run P w = .ok (.value v) w
theorem iPload {P : Program} {x : Cx} {E : List (Nat × Value)} {L : List HP} {ty : TypeId} {v : Value} {a0 : TypeId} {a1 : Operand} (h : PS P x E L (.load a0 a1) ty v) : PS P x E L (.load a0 a1) ty v := h
theorem iPmove {P : Program} {x : Cx} {E : List (Nat × Value)} {L : List HP} {ty : TypeId} {v : Value} {a0 : Operand} (h : PS P x E L (.move a0) ty v) : PS P x E L (.move a0) ty v := h
theorem iPbinOp {P : Program} {x : Cx} {E : List (Nat × Value)} {L : List HP} {ty : TypeId} {v : Value} {a0 : BinOp} {a1 : TypeId} {a2 : Operand} {a3 : Operand} {a4 : TypeId} (h : PS P x E L (.binOp a0 a1 a2 a3 a4) ty v) : PS P x E L (.binOp a0 a1 a2 a3 a4) ty v := h
theorem iPindexAddr {P : Program} {x : Cx} {E : List (Nat × Value)} {L : List HP} {ty : TypeId} {v : Value} {a0 : TypeId} {a1 : Operand} {a2 : Operand} (h : PS P x E L (.indexAddr a0 a1 a2) ty v) : PS P x E L (.indexAddr a0 a1 a2) ty v := h
theorem iPfieldAddr {P : Program} {x : Cx} {E : List (Nat × Value)} {L : List HP} {ty : TypeId} {v : Value} {a0 : TypeId} {a1 : Operand} {a2 : Nat} (h : PS P x E L (.fieldAddr a0 a1 a2) ty v) : PS P x E L (.fieldAddr a0 a1 a2) ty v := h
theorem iPcall {P : Program} {x : Cx} {E : List (Nat × Value)} {L : List HP} {ty : TypeId} {v : Value} {a0 : Call} (h : PS P x E L (.call a0) ty v) : PS P x E L (.call a0) ty v := h
theorem iPunOp {P : Program} {x : Cx} {E : List (Nat × Value)} {L : List HP} {ty : TypeId} {v : Value} {a0 : UnOp} {a1 : TypeId} {a2 : Operand} (h : PS P x E L (.unOp a0 a1 a2) ty v) : PS P x E L (.unOp a0 a1 a2) ty v := h
theorem iPassign {P : Program} {x : Cx} {E : List (Nat × Value)} {L : List HP} {ty : TypeId} {v : Value} {a0 : Operand} (h : PS P x E L (.assign a0) ty v) : PS P x E L (.assign a0) ty v := h
theorem iPpick {P : Program} {x : Cx} {E : List (Nat × Value)} {L : List HP} {ty : TypeId} {v : Value} {a0 : Operand} {a1 : Operand} {a2 : Operand} (h : PS P x E L (.pick a0 a1 a2) ty v) : PS P x E L (.pick a0 a1 a2) ty v := h
theorem iPextract {P : Program} {x : Cx} {E : List (Nat × Value)} {L : List HP} {ty : TypeId} {v : Value} {a0 : Operand} {a1 : Nat} (h : PS P x E L (.extract a0 a1) ty v) : PS P x E L (.extract a0 a1) ty v := h
theorem iPconvert {P : Program} {x : Cx} {E : List (Nat × Value)} {L : List HP} {ty : TypeId} {v : Value} {a0 : TypeId} {a1 : TypeId} {a2 : Operand} (h : PS P x E L (.convert a0 a1 a2) ty v) : PS P x E L (.convert a0 a1 a2) ty v := h
theorem iPnilCheck {P : Program} {x : Cx} {E : List (Nat × Value)} {L : List HP} {ty : TypeId} {v : Value} {a0 : Operand} (h : PS P x E L (.nilCheck a0) ty v) : PS P x E L (.nilCheck a0) ty v := h
theorem iPbuild {P : Program} {x : Cx} {E : List (Nat × Value)} {L : List HP} {ty : TypeId} {v : Value} {a0 : TypeId} {a1 : Array (Nat × Operand)} (h : PS P x E L (.build a0 a1) ty v) : PS P x E L (.build a0 a1) ty v := h
theorem iPslice {P : Program} {x : Cx} {E : List (Nat × Value)} {L : List HP} {ty : TypeId} {v : Value} {a0 : TypeId} {a1 : Operand} {a2 : Option Operand} {a3 : Option Operand} {a4 : Option Operand} (h : PS P x E L (.slice a0 a1 a2 a3 a4) ty v) : PS P x E L (.slice a0 a1 a2 a3 a4) ty v := h
theorem iPmakeFunc {P : Program} {x : Cx} {E : List (Nat × Value)} {L : List HP} {ty : TypeId} {v : Value} {a0 : Fn} {a1 : Array Operand} {a2 : Array Operand} (h : PS P x E L (.makeFunc a0 a1 a2) ty v) : PS P x E L (.makeFunc a0 a1 a2) ty v := h
theorem iOp {P : Program} {x : Cx} {E : List (Nat × Value)} {L : List HP} {ops : Array Oper} {rest : List Oper} {k : List Fr} {op : Op} {ty : TypeId} {pos : String} {aft : Array Edge} {d : Tmp} (h : OJ P x E L ops (⟨some d, op, ty, pos, aft, none⟩ :: rest) k) : OJ P x E L ops (⟨some d, op, ty, pos, aft, none⟩ :: rest) k := h
theorem iOg {P : Program} {x : Cx} {E : List (Nat × Value)} {L : List HP} {ops : Array Oper} {rest : List Oper} {k : List Fr} {op : Op} {ty : TypeId} {pos : String} {aft : Array Edge} {d : Option Tmp} {g : Nat × Bool} (h : OJ P x E L ops (⟨d, op, ty, pos, aft, some g⟩ :: rest) k) : OJ P x E L ops (⟨d, op, ty, pos, aft, some g⟩ :: rest) k := h
theorem iOstore {P : Program} {x : Cx} {E : List (Nat × Value)} {L : List HP} {ops : Array Oper} {rest : List Oper} {k : List Fr} {d : Option Tmp} {ty : TypeId} {pos : String} {aft : Array Edge} {a0 : TypeId} {a1 : Operand} {a2 : Operand} (h : OJ P x E L ops (⟨d, .store a0 a1 a2, ty, pos, aft, none⟩ :: rest) k) : OJ P x E L ops (⟨d, .store a0 a1 a2, ty, pos, aft, none⟩ :: rest) k := h
theorem iOcall {P : Program} {x : Cx} {E : List (Nat × Value)} {L : List HP} {ops : Array Oper} {rest : List Oper} {k : List Fr} {d : Option Tmp} {ty : TypeId} {pos : String} {aft : Array Edge} {a0 : Call} (h : OJ P x E L ops (⟨d, .call a0, ty, pos, aft, none⟩ :: rest) k) : OJ P x E L ops (⟨d, .call a0, ty, pos, aft, none⟩ :: rest) k := h
theorem iObox {P : Program} {x : Cx} {E : List (Nat × Value)} {L : List HP} {ops : Array Oper} {rest : List Oper} {k : List Fr} {d : Option Tmp} {ty : TypeId} {pos : String} {aft : Array Edge} {a0 : TypeId} {a1 : Operand} (h : OJ P x E L ops (⟨d, .box a0 a1, ty, pos, aft, none⟩ :: rest) k) : OJ P x E L ops (⟨d, .box a0 a1, ty, pos, aft, none⟩ :: rest) k := h
theorem iOalloc {P : Program} {x : Cx} {E : List (Nat × Value)} {L : List HP} {ops : Array Oper} {rest : List Oper} {k : List Fr} {d : Option Tmp} {ty : TypeId} {pos : String} {aft : Array Edge} {a0 : TypeId} (h : OJ P x E L ops (⟨d, .alloc a0, ty, pos, aft, none⟩ :: rest) k) : OJ P x E L ops (⟨d, .alloc a0, ty, pos, aft, none⟩ :: rest) k := h
theorem iObuildSlice {P : Program} {x : Cx} {E : List (Nat × Value)} {L : List HP} {ops : Array Oper} {rest : List Oper} {k : List Fr} {d : Option Tmp} {ty : TypeId} {pos : String} {aft : Array Edge} {a0 : TypeId} {a1 : Nat} {a2 : Array (Nat × Operand)} (h : OJ P x E L ops (⟨d, .buildSlice a0 a1 a2, ty, pos, aft, none⟩ :: rest) k) : OJ P x E L ops (⟨d, .buildSlice a0 a1 a2, ty, pos, aft, none⟩ :: rest) k := h
theorem iOmakeSlice {P : Program} {x : Cx} {E : List (Nat × Value)} {L : List HP} {ops : Array Oper} {rest : List Oper} {k : List Fr} {d : Option Tmp} {ty : TypeId} {pos : String} {aft : Array Edge} {a0 : TypeId} {a1 : Operand} {a2 : Operand} (h : OJ P x E L ops (⟨d, .makeSlice a0 a1 a2, ty, pos, aft, none⟩ :: rest) k) : OJ P x E L ops (⟨d, .makeSlice a0 a1 a2, ty, pos, aft, none⟩ :: rest) k := h
theorem OJ.ps {op : Op} {ty : TypeId} {v : Value} {d : Tmp} {pos : String} {aft : Array Edge} (h : PS P x E L op ty v) (hk : OJ P x ((d, v) :: E) L ops rest k) (hd : Nat.blt d x.n = true := by rfl) : OJ P x E L ops (⟨some d, op, ty, pos, aft, none⟩ :: rest) k :=
  OJ.pure (v := v) rfl hd (fun a w hE hS => h.h a w _ _ _ _ hE hS) hk
/-! guards -/
def gval (ops : Array Oper) (E : List (Nat × Value)) (j : Nat) : Option Value :=
  match ops[j]? with
  | some o => match o.dst with
    | some d => lookup E d
    | none => none
  | none => none
def gdst (ops : Array Oper) (j : Nat) : Option Tmp :=
  match ops[j]? with
  | some o => o.dst
  | none => none
theorem yielded_of {a : Act} {j : Nat} {t : Bool} (hE : EnvOK x.n x.ds E a) (h : gval ops E j = some (.bool t)) : yielded ops a.tmps j = some t := by
  unfold gval at h
  unfold yielded
  cases ho : ops[j]? with
  | none => rw [ho] at h; cases h
  | some o =>
    rw [ho] at h
    simp only at h
    cases hd : o.dst with
    | none => rw [hd] at h; cases h
    | some d =>
      rw [hd] at h
      have := hE.get d _ h
      simp [hd]
      rw [Array.getD_eq_getD_getElem?] at this
      cases hx : a.tmps[d]? with
      | none => rw [hx] at this; cases this
      | some u => rw [hx] at this; simp at this; rw [this]
theorem OJ.guardY0 {o : Oper} {j : Nat} {b : Bool} {u : Value} (h : OJ P x E L ops ({ o with guard := none } :: rest) k)
    (hg : o.guard = some (j, b) := by rfl) (hv : gval ops E j = some u := by rfl) (hb : u = .bool b := by with_reducible rfl) : OJ P x E L ops (o :: rest) k := by
  refine ⟨fun a w hE hS => ?_⟩
  have hh := h.h a w hE hS
  unfold wpL at hh ⊢
  have hw : Region.wanted o (yielded ops a.tmps) = true := by simp [Region.wanted, hg, yielded_of hE (hb ▸ hv)]
  rw [if_pos hw]
  rw [if_pos (by simp [Region.wanted])] at hh
  exact hh
theorem OJ.guardY {op : Op} {ty : TypeId} {pos : String} {aft : Array Edge} {d : Option Tmp} {j : Nat} {b : Bool} {u : Value} (h : OJ P x E L ops (⟨d, op, ty, pos, aft, none⟩ :: rest) k)
    (hv : gval ops E j = some u := by rfl) (hb : u = .bool b := by with_reducible rfl) : OJ P x E L ops (⟨d, op, ty, pos, aft, some (j, b)⟩ :: rest) k :=
  OJ.guardY0 (o := ⟨d, op, ty, pos, aft, some (j, b)⟩) h rfl hv hb
theorem OJ.guardN0 {o : Oper} {j : Nat} {b t : Bool} {u : Value} (h : OJ P x (putE o.dst undef E) L ops rest k)
    (hg : o.guard = some (j, b) := by rfl) (hv : gval ops E j = some u := by rfl) (hb : u = .bool t := by with_reducible rfl) (hn : t = !b := by rfl) (hd : okD x.n o.dst = true := by rfl) : OJ P x E L ops (o :: rest) k := by
  refine ⟨fun a w hE hS => ?_⟩
  unfold wpL
  rw [if_neg (by simp [Region.wanted, hg, yielded_of hE (hb ▸ hv), hn])]
  exact h.h _ _ (hE.put hd) hS
theorem OJ.guardN {op : Op} {ty : TypeId} {pos : String} {aft : Array Edge} {d : Tmp} {j : Nat} {b t : Bool} {u : Value} (h : OJ P x ((d, undef) :: E) L ops rest k)
    (hv : gval ops E j = some u := by rfl) (hb : u = .bool t := by with_reducible rfl) (hn : t = !b := by rfl) (hd : Nat.blt d x.n = true := by rfl) : OJ P x E L ops (⟨some d, op, ty, pos, aft, some (j, b)⟩ :: rest) k :=
  OJ.guardN0 (o := ⟨some d, op, ty, pos, aft, some (j, b)⟩) h rfl hv hb hn hd
theorem yielded_u {a : Act} {j : Nat} (hE : EnvOK x.n x.ds E a) (h : gval ops E j = some undef) : yielded ops a.tmps j = none := by
  unfold gval at h
  unfold yielded
  cases ho : ops[j]? with
  | none => rw [ho] at h; cases h
  | some o =>
    rw [ho] at h
    simp only at h
    cases hd : o.dst with
    | none => rw [hd] at h; cases h
    | some d =>
      rw [hd] at h
      have := hE.get d _ h
      simp [hd]
      rw [Array.getD_eq_getD_getElem?] at this
      cases hx : a.tmps[d]? with
      | none => rfl
      | some u => rw [hx] at this; simp at this; rw [this]; rfl
theorem OJ.guardNd {op : Op} {ty : TypeId} {pos : String} {aft : Array Edge} {j : Nat} {b t : Bool} {u : Value} (h : OJ P x E L ops rest k)
    (hv : gval ops E j = some u := by rfl) (hb : u = .bool t := by with_reducible rfl) (hn : t = !b := by rfl) : OJ P x E L ops (⟨none, op, ty, pos, aft, some (j, b)⟩ :: rest) k :=
  OJ.guardN0 (o := ⟨none, op, ty, pos, aft, some (j, b)⟩) h rfl hv hb hn rfl
theorem OJ.guardU {op : Op} {ty : TypeId} {pos : String} {aft : Array Edge} {d : Option Tmp} {j : Nat} {b : Bool} {u : Value} (h : OJ P x (putE d undef E) L ops rest k)
    (hv : gval ops E j = some u := by rfl) (hb : u = undef := by with_reducible rfl) (hd : okD x.n d = true := by rfl) : OJ P x E L ops (⟨d, op, ty, pos, aft, some (j, b)⟩ :: rest) k := by
  refine ⟨fun a w hE hS => ?_⟩
  unfold wpL
  rw [if_neg (by simp [Region.wanted, yielded_u hE (hb ▸ hv)])]
  exact h.h _ _ (hE.put hd) hS
/-- A truth value that is not known (a mark alone). -/
inductive Und (t : Bool) : Prop
  | mk : Und t
theorem Und.lt : Und true := .mk
theorem Und.lf : Und false := .mk
/-- A guard that is not decided: both ways, the guard's slot being known then. -/
theorem OJ.guardS {o : Oper} {j : Nat} {b' t : Bool} {d : Tmp} {p q : Prop} (h1 : p → OJ P x ((d, .bool true) :: E) L ops (o :: rest) k) (h2 : q → OJ P x ((d, .bool false) :: E) L ops (o :: rest) k)
    (_hg : o.guard = some (j, b') := by rfl) (hv : gval ops E j = some (.bool t) := by rfl) (hd : gdst ops j = some d := by rfl) (hb : BT t p q := by first | exact BT.dec | exact BT.beq | exact BT.bne | exact BT.not BT.dec | exact BT.not BT.beq | exact BT.not BT.bne | exact BT.not BT.any | exact BT.any | fail) (_hu : Und t := by ((fail_if_success (first | with_reducible exact Und.lt | with_reducible exact Und.lf)); exact Und.mk)) : OJ P x E L ops (o :: rest) k := by
  refine ⟨fun a w hE hS => ?_⟩
  have hl : lookup E d = some (.bool t) := by
    unfold gval at hv
    unfold gdst at hd
    cases ho : ops[j]? with
    | none => rw [ho] at hv; cases hv
    | some o =>
      rw [ho] at hv hd
      simp only at hv hd
      rw [hd] at hv
      exact hv
  have hs : ∀ t', t = t' → EnvOK x.n x.ds ((d, .bool t') :: E) a := fun t' e => ⟨hE.size, hE.defers, fun s v hv => by
    simp only [lookup] at hv
    split at hv
    · rename_i hb
      injection hv with hv
      rw [← hv, Nat.eq_of_beq_eq_true hb, ← e]
      exact hE.get d _ hl
    · exact hE.get s v hv⟩
  cases ht : t with
  | true => exact (h1 (hb.yes ht)).h a w (hs true ht) hS
  | false => exact (h2 (hb.no ht)).h a w (hs false ht) hS

section rules
variable {ty t t' t'' : TypeId} {y z c : Operand} {v u : Value}
theorem PS.move (hv : ev E y = some v := by rfl) : PS P x E L (.move y) ty v := ⟨fun a w _ _ _ _ hE _ => by simp only [execOp, hE.ev hv]; rfl⟩
theorem PS.assign (hv : ev E y = some v := by rfl) : PS P x E L (.assign y) ty v := ⟨fun a w _ _ _ _ hE _ => by simp only [execOp, hE.ev hv]; rfl⟩
theorem PS.pickT (hc : ev E c = some u := by rfl) (hu : u = .bool true := by with_reducible rfl) (hv : ev E y = some v := by rfl) : PS P x E L (.pick c y z) ty v := ⟨fun a w _ _ _ _ hE _ => by simp only [execOp, hE.ev hv, hE.ev hc, hu]; rfl⟩
theorem PS.pickF (hc : ev E c = some u := by rfl) (hu : u = .bool false := by with_reducible rfl) (hv : ev E z = some v := by rfl) : PS P x E L (.pick c y z) ty v := ⟨fun a w _ _ _ _ hE _ => by simp only [execOp, hE.ev hv, hE.ev hc, hu]; rfl⟩
theorem PS.not {b : Bool} (hv : ev E y = some (.bool b) := by rfl) : PS P x E L (.unOp .not t y) ty (.bool (!b)) := ⟨fun a w _ _ _ _ hE _ => by simp only [execOp, hE.ev hv]; rfl⟩
theorem PS.notT (hv : ev E y = some u := by rfl) (hu : u = .bool true := by with_reducible rfl) : PS P x E L (.unOp .not t y) ty (.bool false) := PS.not (b := true) (hu ▸ hv)
theorem PS.notF (hv : ev E y = some u := by rfl) (hu : u = .bool false := by with_reducible rfl) : PS P x E L (.unOp .not t y) ty (.bool true) := PS.not (b := false) (hu ▸ hv)
theorem PS.neg {i : Int} (hv : ev E y = some (.int .i64 i) := by rfl) (hb : -9223372036854775807 ≤ i ∧ i ≤ 9223372036854775807 := by omega) : PS P x E L (.unOp .neg t y) ty (.int .i64 (-i)) := ⟨fun a w _ _ _ _ hE _ => by
  simp only [execOp, hE.ev hv]
  show Result.ok (Next.value (.int .i64 (IntKind.i64.wrap (0 - i)))) w = _
  rw [IntWalk.i64_in (0 - i) (by omega), Int.zero_sub]⟩
/-- Comparisons of ints. -/
def cmpV : BinOp → Int → Int → Option Bool
  | .eql, a, b => some (a == b)
  | .neq, a, b => some (a != b)
  | .lss, a, b => some (decide (a < b))
  | .leq, a, b => some (decide (a ≤ b))
  | .gtr, a, b => some (decide (b < a))
  | .geq, a, b => some (decide (b ≤ a))
  | _, _, _ => none
theorem PS.cmp {op : BinOp} {kd : IntKind} {i j : Int} {b : Bool} (hy : ev E y = some (.int kd i) := by rfl) (hz : ev E z = some (.int kd j) := by rfl) (hc : cmpV op i j = some b := by rfl) : PS P x E L (.binOp op t y z t') ty (.bool b) := ⟨fun a w _ _ _ _ hE _ => by
  simp only [execOp, hE.ev hy, hE.ev hz]
  cases op <;> simp only [cmpV] at hc <;> first
    | cases hc; done
    | (injection hc with hc; subst hc; simp [eqGuard, binOp, Op.intCmp]; done)
    | (injection hc with hc; subst hc; simp [eqGuard, binOp, Op.intCmp]; rfl)⟩
def arV : BinOp → Int → Int → Option Int
  | .add, a, b => some (a + b)
  | .sub, a, b => some (a - b)
  | .mul, a, b => some (a * b)
  | _, _, _ => none
theorem run_ar {op : BinOp} {kd : IntKind} {i j m : Int} (hc : arV op i j = some m) (w : World) : (do eqGuard op t y z (.int kd i) (.int kd j); binOp op t (.int kd i) (.int kd j) : Sem Value).run P w = .ok (.int kd (kd.wrap m)) w := by
  cases op <;> simp only [arV] at hc <;> first
    | cases hc; done
    | (injection hc with hc; subst hc; simp [eqGuard, binOp, Op.intArith]; done)
/-- Sums, wrapped round. -/
theorem PS.arW {op : BinOp} {kd : IntKind} {i j m : Int} (hy : ev E y = some (.int kd i) := by rfl) (hz : ev E z = some (.int kd j) := by rfl) (hc : arV op i j = some m := by rfl) : PS P x E L (.binOp op t y z t') ty (.int kd (kd.wrap m)) := ⟨fun a w _ _ _ _ hE _ => by
  simp only [execOp, hE.ev hy, hE.ev hz]
  have := run_ar (P := P) (t := t) (y := y) (z := z) (kd := kd) hc w
  simp only [Sem.run_bind, Result.andThen] at this ⊢
  rw [this]
  rfl⟩
/-- Sums in range. -/
theorem PS.ar {op : BinOp} {i j m : Int} (hy : ev E y = some (.int .i64 i) := by rfl) (hz : ev E z = some (.int .i64 j) := by rfl) (hc : arV op i j = some m := by rfl) (hb : -9223372036854775808 ≤ m ∧ m ≤ 9223372036854775807 := by omega) : PS P x E L (.binOp op t y z t') ty (.int .i64 m) := by
  have h := PS.arW (P := P) (x := x) (L := L) (t := t) (t' := t') (ty := ty) hy hz hc
  rw [IntWalk.i64_in m hb] at h
  exact h
/-- A counter goes up. -/
theorem PS.inc {i : Nat} {c : Nat} (hy : ev E y = some (.int .i64 (i : Int)) := by rfl) (hb : i + c ≤ 9223372036854775807 := by omega) : PS P x E L (.binOp .add t y (.const (.int .i64 (OfNat.ofNat c))) t') ty (.int .i64 ((i + c : Nat) : Int)) := by
  have hc : (OfNat.ofNat c : Int) = (c : Int) := rfl
  have h := PS.ar (P := P) (x := x) (E := E) (L := L) (t := t) (t' := t') (ty := ty) (op := .add) (z := .const (.int .i64 (OfNat.ofNat c))) hy rfl rfl (by rw [hc]; omega)
  rwa [show (i : Int) + (OfNat.ofNat c : Int) = ((i + c : Nat) : Int) by rw [hc]; omega] at h
/-- Conversions between ints. -/
theorem PS.convW {kd k1 k2 : IntKind} {n : Int} [h1 : IntT P t k1] [h2 : IntT P t' k2] (hy : ev E y = some (.int kd n) := by rfl) : PS P x E L (.convert t t' y) ty (.int k2 (k2.wrap n)) := ⟨fun a w _ _ _ _ hE _ => by
  simp [execOp, hE.ev hy, convert, run_underlying h1.h, run_underlying h2.h, Conv.intToInt]⟩
theorem PS.conv {kd k1 : IntKind} {n : Int} [h1 : IntT P t k1] [h2 : IntT P t' .i64] (hy : ev E y = some (.int kd n) := by rfl) (hb : -9223372036854775808 ≤ n ∧ n ≤ 9223372036854775807 := by omega) : PS P x E L (.convert t t' y) ty (.int .i64 n) := by
  have h := PS.convW (P := P) (x := x) (E := E) (L := L) (t := t) (t' := t') (ty := ty) hy
  rwa [IntWalk.i64_in n hb] at h
theorem PS.rem {i j : Int} (hy : ev E y = some (.int .i64 i) := by rfl) (hz : ev E z = some (.int .i64 j) := by rfl) (hi : 0 ≤ i := by omega) (hj : 0 < j := by first | omega | (simp only [List.length_nil, List.length_cons, List.length_append, List.length_take, List.length_drop, List.length_replicate, List.length_map, List.length_set, List.length_range]; omega) | fail) : PS P x E L (.binOp .rem t y z t') ty (.int .i64 (i % j)) := ⟨fun a w _ _ _ _ hE _ => by
  have h0 : j ≠ 0 := by omega
  have h1 : i.tmod j = i % j := Int.tmod_eq_emod_of_nonneg hi
  simp [execOp, hE.ev hy, hE.ev hz, eqGuard, binOp, Op.intDiv, h0, h1]⟩
theorem PS.quo {i j : Int} (hy : ev E y = some (.int .i64 i) := by rfl) (hz : ev E z = some (.int .i64 j) := by rfl) (hi : 0 ≤ i ∧ i ≤ 9223372036854775807 := by omega) (hj : 0 < j := by first | omega | (simp only [List.length_nil, List.length_cons, List.length_append, List.length_take, List.length_drop, List.length_replicate, List.length_map, List.length_set, List.length_range]; omega) | fail) : PS P x E L (.binOp .quo t y z t') ty (.int .i64 (i / j)) := ⟨fun a w _ _ _ _ hE _ => by
  have h0 : j ≠ 0 := by omega
  have h1 : i.tdiv j = i / j := Int.tdiv_eq_ediv_of_nonneg hi.1
  have h2 : i / j ≤ i := Int.ediv_le_self _ hi.1
  have h3 : 0 ≤ i / j := Int.ediv_nonneg hi.1 (by omega)
  simp [execOp, hE.ev hy, hE.ev hz, eqGuard, binOp, Op.intDiv, h0, h1]
  rw [IntWalk.i64_in (i / j) (by omega)]⟩
def xorV (a b : Int) : Int := IntKind.i64.wrap (((BitVec.ofInt IntKind.i64.bits a) ^^^ (BitVec.ofInt IntKind.i64.bits b)).toNat : Int)
theorem PS.xor {i j : Int} (hy : ev E y = some (.int .i64 i) := by rfl) (hz : ev E z = some (.int .i64 j) := by rfl) : PS P x E L (.binOp .xor t y z t') ty (.int .i64 (xorV i j)) := ⟨fun a w _ _ _ _ hE _ => by
  simp [execOp, hE.ev hy, hE.ev hz, eqGuard, binOp, Op.intBits, xorV]⟩
theorem PS.nilP {b : Addr} (hv : ev E y = some (.pointer (some b)) := by rfl) : PS P x E L (.nilCheck y) ty (.pointer (some b)) := ⟨fun a w _ _ _ _ hE _ => by simp only [execOp, hE.ev hv]; rfl⟩
/-- The n-th of a list, as a term. -/
def nth {α : Type} : List α → Nat → Option α
  | [], _ => none
  | v :: l, n => match n with
    | 0 => some v
    | n + 1 => nth l n
theorem nth_eq {α : Type} : ∀ (l : List α) (n : Nat), nth l n = l[n]?
  | [], _ => rfl
  | _ :: _, 0 => rfl
  | _ :: l, n + 1 => nth_eq l n
theorem PS.extract {vs : List Value} {i : Nat} (hv : ev E y = some (.tuple vs.toArray) := by rfl) (hi : nth vs i = some v := by rfl) : PS P x E L (.extract y i) ty v := ⟨fun a w _ _ _ _ hE _ => by
  rw [nth_eq] at hi
  simp [execOp, hE.ev hv, Instr.extract, hi]⟩
theorem PS.fieldP {b : Addr} {j off : Nat} [hF : FldT P t j off] (hv : ev E y = some (.pointer (some b)) := by rfl) : PS P x E L (.fieldAddr t y j) ty (.pointer (some (b.add off))) := ⟨fun a w _ _ _ _ hE _ => by simp [execOp, hE.ev hv, hF.h b w]⟩
/-! memory: blocks -/
def slc {α : Type} : List α → Nat → Nat → List α
  | l, 0, n => l.take n
  | [], _ + 1, _ => []
  | _ :: l, f + 1, n => slc l f n
theorem slc_eq {α : Type} : ∀ (l : List α) (f n : Nat), slc l f n = (l.drop f).take n
  | l, 0, n => by cases l <;> rfl
  | [], _ + 1, _ => by simp [slc]
  | _ :: l, f + 1, n => slc_eq l f n
/-- A field of a block. -/
theorem PS.fieldB {b f : Nat} {j off m : Nat} [hF : FldT P t j off] (hv : ev E y = some (.pointer (some ⟨b, f, none⟩)) := by rfl) (hm : f + off = m := by rfl) : PS P x E L (.fieldAddr t y j) ty (.pointer (some ⟨b, m, none⟩)) := ⟨fun a w _ _ _ _ hE _ => by
  have : (⟨b, f, none⟩ : Addr).add off = ⟨b, m, none⟩ := by subst hm; unfold Addr.add; split <;> simp_all
  simp [execOp, hE.ev hv, hF.h _ w, this]⟩
theorem at_off (b f : Nat) (j : Nat) : (⟨b, f, none⟩ : Addr).add j = ⟨b, f + j, none⟩ := by unfold Addr.add; split <;> simp_all
theorem PS.load {b f sz bt : Nat} {zv : Value} {cs : Array Value} {T : TypeId} {fr : Nat × Nat} [hT : Ty P t false sz bt zv] (hy : ev E y = some (.pointer (some ⟨b, f, none⟩)) := by rfl) (hp : Pick L (blk b (.cells cs T fr)) L' := by first | (first | ((with_reducible apply iRow); ((repeat (first | with_reducible apply Pick.here | ((with_reducible apply Pick.blkRow); (all_goals rfl)) | with_reducible apply Pick.nilRow | with_reducible apply Pick.there)); first | done | fail)) | ((with_reducible apply iBox); (first | ((repeat (first | with_reducible apply Pick.here | with_reducible apply Pick.there)); done) | exact Pick.box (by ((repeat (first | with_reducible apply Pick.here | with_reducible apply Pick.there)); first | done | fail)) (by ((repeat (first | with_reducible apply Pick.here | ((with_reducible apply Pick.blkRow); (all_goals rfl)) | with_reducible apply Pick.nilRow | with_reducible apply Pick.there)); first | done | fail)) | fail)) | ((repeat (first | with_reducible apply Pick.here | with_reducible apply Pick.there)); first | done | fail)) | (first | ((with_reducible apply iRow); ((repeat (first | apply Pick.here | ((apply Pick.blkRow); (all_goals rfl)) | apply Pick.nilRow | apply Pick.there)); first | done | fail)) | ((with_reducible apply iBox); (first | ((repeat (first | apply Pick.here | apply Pick.there)); done) | exact Pick.box (by ((repeat (first | apply Pick.here | apply Pick.there)); first | done | fail)) (by ((repeat (first | apply Pick.here | ((apply Pick.blkRow); (all_goals rfl)) | apply Pick.nilRow | apply Pick.there)); first | done | fail)) | fail)) | ((repeat (first | apply Pick.here | apply Pick.there)); first | done | fail))) (hv0 : nth cs.toList f = some v := by rfl) :
    PS P x E L (.load t y) ty v := ⟨fun a w _ _ _ _ hE hS => by
  have hw := (hS.pick hp).read
  have hv : cs[f]? = some v := by rw [nth_eq] at hv0; simpa using hv0
  simp [execOp, hE.ev hy, Instr.loadAt, Instr.sureAddr, loadVar, hT.isAgg, Go.load, Sem.run, World.cell?, hw, hv]⟩
theorem PS.loadH {b f sz bt : Nat} {zv : Value} {cs : Array Value} {T : TypeId} {fr : Nat × Nat} [hT : Ty P t false sz bt zv] (hy : ev E y = some (.pointer (some ⟨b, f, none⟩)) := by rfl) (hr : Rd x.w0 x.O L (holds b (.cells cs T fr)) := by first | (first | assumption | exact Rd.base (by assumption) | ((with_reducible apply iSlice); exact Rd.slice (by first | assumption | exact Rd.base (by assumption) | exact Rd.row (by first | ((with_reducible apply iRow); ((repeat (first | with_reducible apply Pick.here | ((with_reducible apply Pick.blkRow); (all_goals rfl)) | with_reducible apply Pick.nilRow | with_reducible apply Pick.there)); first | done | fail)) | ((with_reducible apply iBox); (first | ((repeat (first | with_reducible apply Pick.here | with_reducible apply Pick.there)); done) | exact Pick.box (by ((repeat (first | with_reducible apply Pick.here | with_reducible apply Pick.there)); first | done | fail)) (by ((repeat (first | with_reducible apply Pick.here | ((with_reducible apply Pick.blkRow); (all_goals rfl)) | with_reducible apply Pick.nilRow | with_reducible apply Pick.there)); first | done | fail)) | fail)) | ((repeat (first | with_reducible apply Pick.here | with_reducible apply Pick.there)); first | done | fail)) | exact Rd.sub (by assumption) (by first | ((with_reducible apply iRow); ((repeat (first | with_reducible apply Pick.here | ((with_reducible apply Pick.blkRow); (all_goals rfl)) | with_reducible apply Pick.nilRow | with_reducible apply Pick.there)); first | done | fail)) | ((with_reducible apply iBox); (first | ((repeat (first | with_reducible apply Pick.here | with_reducible apply Pick.there)); done) | exact Pick.box (by ((repeat (first | with_reducible apply Pick.here | with_reducible apply Pick.there)); first | done | fail)) (by ((repeat (first | with_reducible apply Pick.here | ((with_reducible apply Pick.blkRow); (all_goals rfl)) | with_reducible apply Pick.nilRow | with_reducible apply Pick.there)); first | done | fail)) | fail)) | ((repeat (first | with_reducible apply Pick.here | with_reducible apply Pick.there)); first | done | fail)) | fail)) | exact Rd.row (by first | ((with_reducible apply iRow); ((repeat (first | with_reducible apply Pick.here | ((with_reducible apply Pick.blkRow); (all_goals rfl)) | with_reducible apply Pick.nilRow | with_reducible apply Pick.there)); first | done | fail)) | ((with_reducible apply iBox); (first | ((repeat (first | with_reducible apply Pick.here | with_reducible apply Pick.there)); done) | exact Pick.box (by ((repeat (first | with_reducible apply Pick.here | with_reducible apply Pick.there)); first | done | fail)) (by ((repeat (first | with_reducible apply Pick.here | ((with_reducible apply Pick.blkRow); (all_goals rfl)) | with_reducible apply Pick.nilRow | with_reducible apply Pick.there)); first | done | fail)) | fail)) | ((repeat (first | with_reducible apply Pick.here | with_reducible apply Pick.there)); first | done | fail)) | exact Rd.sub (by assumption) (by first | ((with_reducible apply iRow); ((repeat (first | with_reducible apply Pick.here | ((with_reducible apply Pick.blkRow); (all_goals rfl)) | with_reducible apply Pick.nilRow | with_reducible apply Pick.there)); first | done | fail)) | ((with_reducible apply iBox); (first | ((repeat (first | with_reducible apply Pick.here | with_reducible apply Pick.there)); done) | exact Pick.box (by ((repeat (first | with_reducible apply Pick.here | with_reducible apply Pick.there)); first | done | fail)) (by ((repeat (first | with_reducible apply Pick.here | ((with_reducible apply Pick.blkRow); (all_goals rfl)) | with_reducible apply Pick.nilRow | with_reducible apply Pick.there)); first | done | fail)) | fail)) | ((repeat (first | with_reducible apply Pick.here | with_reducible apply Pick.there)); first | done | fail)) | exact Rd.blk (by first | ((with_reducible apply iRow); ((repeat (first | with_reducible apply Pick.here | ((with_reducible apply Pick.blkRow); (all_goals rfl)) | with_reducible apply Pick.nilRow | with_reducible apply Pick.there)); first | done | fail)) | ((with_reducible apply iBox); (first | ((repeat (first | with_reducible apply Pick.here | with_reducible apply Pick.there)); done) | exact Pick.box (by ((repeat (first | with_reducible apply Pick.here | with_reducible apply Pick.there)); first | done | fail)) (by ((repeat (first | with_reducible apply Pick.here | ((with_reducible apply Pick.blkRow); (all_goals rfl)) | with_reducible apply Pick.nilRow | with_reducible apply Pick.there)); first | done | fail)) | fail)) | ((repeat (first | with_reducible apply Pick.here | with_reducible apply Pick.there)); first | done | fail)) | fail) | (first | assumption | exact Rd.base (by assumption) | ((with_reducible apply iSlice); exact Rd.slice (by first | assumption | exact Rd.base (by assumption) | exact Rd.row (by first | ((with_reducible apply iRow); ((repeat (first | apply Pick.here | ((apply Pick.blkRow); (all_goals rfl)) | apply Pick.nilRow | apply Pick.there)); first | done | fail)) | ((with_reducible apply iBox); (first | ((repeat (first | apply Pick.here | apply Pick.there)); done) | exact Pick.box (by ((repeat (first | apply Pick.here | apply Pick.there)); first | done | fail)) (by ((repeat (first | apply Pick.here | ((apply Pick.blkRow); (all_goals rfl)) | apply Pick.nilRow | apply Pick.there)); first | done | fail)) | fail)) | ((repeat (first | apply Pick.here | apply Pick.there)); first | done | fail)) | exact Rd.sub (by assumption) (by first | ((with_reducible apply iRow); ((repeat (first | apply Pick.here | ((apply Pick.blkRow); (all_goals rfl)) | apply Pick.nilRow | apply Pick.there)); first | done | fail)) | ((with_reducible apply iBox); (first | ((repeat (first | apply Pick.here | apply Pick.there)); done) | exact Pick.box (by ((repeat (first | apply Pick.here | apply Pick.there)); first | done | fail)) (by ((repeat (first | apply Pick.here | ((apply Pick.blkRow); (all_goals rfl)) | apply Pick.nilRow | apply Pick.there)); first | done | fail)) | fail)) | ((repeat (first | apply Pick.here | apply Pick.there)); first | done | fail)) | fail)) | exact Rd.row (by first | ((with_reducible apply iRow); ((repeat (first | apply Pick.here | ((apply Pick.blkRow); (all_goals rfl)) | apply Pick.nilRow | apply Pick.there)); first | done | fail)) | ((with_reducible apply iBox); (first | ((repeat (first | apply Pick.here | apply Pick.there)); done) | exact Pick.box (by ((repeat (first | apply Pick.here | apply Pick.there)); first | done | fail)) (by ((repeat (first | apply Pick.here | ((apply Pick.blkRow); (all_goals rfl)) | apply Pick.nilRow | apply Pick.there)); first | done | fail)) | fail)) | ((repeat (first | apply Pick.here | apply Pick.there)); first | done | fail)) | exact Rd.sub (by assumption) (by first | ((with_reducible apply iRow); ((repeat (first | apply Pick.here | ((apply Pick.blkRow); (all_goals rfl)) | apply Pick.nilRow | apply Pick.there)); first | done | fail)) | ((with_reducible apply iBox); (first | ((repeat (first | apply Pick.here | apply Pick.there)); done) | exact Pick.box (by ((repeat (first | apply Pick.here | apply Pick.there)); first | done | fail)) (by ((repeat (first | apply Pick.here | ((apply Pick.blkRow); (all_goals rfl)) | apply Pick.nilRow | apply Pick.there)); first | done | fail)) | fail)) | ((repeat (first | apply Pick.here | apply Pick.there)); first | done | fail)) | exact Rd.blk (by first | ((with_reducible apply iRow); ((repeat (first | apply Pick.here | ((apply Pick.blkRow); (all_goals rfl)) | apply Pick.nilRow | apply Pick.there)); first | done | fail)) | ((with_reducible apply iBox); (first | ((repeat (first | apply Pick.here | apply Pick.there)); done) | exact Pick.box (by ((repeat (first | apply Pick.here | apply Pick.there)); first | done | fail)) (by ((repeat (first | apply Pick.here | ((apply Pick.blkRow); (all_goals rfl)) | apply Pick.nilRow | apply Pick.there)); first | done | fail)) | fail)) | ((repeat (first | apply Pick.here | apply Pick.there)); first | done | fail)) | fail)) (hv0 : nth cs.toList f = some v := by rfl) :
    PS P x E L (.load t y) ty v := ⟨fun a w _ _ _ _ hE hS => by
  have hw : w.heap[b]? = _ := hr.h w hS
  have hv : cs[f]? = some v := by rw [nth_eq] at hv0; simpa using hv0
  simp [execOp, hE.ev hy, Instr.loadAt, Instr.sureAddr, loadVar, hT.isAgg, Go.load, Sem.run, World.cell?, hw, hv]⟩
theorem PS.loadA {b f sz bt : Nat} {zv : Value} {cs : Array Value} {vs : List Value} {T : TypeId} {fr : Nat × Nat} [hT : Ty P t true sz bt zv] (hy : ev E y = some (.pointer (some ⟨b, f, none⟩)) := by rfl) (hp : Pick L (blk b (.cells cs T fr)) L' := by first | (first | ((with_reducible apply iRow); ((repeat (first | with_reducible apply Pick.here | ((with_reducible apply Pick.blkRow); (all_goals rfl)) | with_reducible apply Pick.nilRow | with_reducible apply Pick.there)); first | done | fail)) | ((with_reducible apply iBox); (first | ((repeat (first | with_reducible apply Pick.here | with_reducible apply Pick.there)); done) | exact Pick.box (by ((repeat (first | with_reducible apply Pick.here | with_reducible apply Pick.there)); first | done | fail)) (by ((repeat (first | with_reducible apply Pick.here | ((with_reducible apply Pick.blkRow); (all_goals rfl)) | with_reducible apply Pick.nilRow | with_reducible apply Pick.there)); first | done | fail)) | fail)) | ((repeat (first | with_reducible apply Pick.here | with_reducible apply Pick.there)); first | done | fail)) | (first | ((with_reducible apply iRow); ((repeat (first | apply Pick.here | ((apply Pick.blkRow); (all_goals rfl)) | apply Pick.nilRow | apply Pick.there)); first | done | fail)) | ((with_reducible apply iBox); (first | ((repeat (first | apply Pick.here | apply Pick.there)); done) | exact Pick.box (by ((repeat (first | apply Pick.here | apply Pick.there)); first | done | fail)) (by ((repeat (first | apply Pick.here | ((apply Pick.blkRow); (all_goals rfl)) | apply Pick.nilRow | apply Pick.there)); first | done | fail)) | fail)) | ((repeat (first | apply Pick.here | apply Pick.there)); first | done | fail)))
    (hv0 : slc cs.toList f sz = vs := by rfl) (hl : Nat.ble (f + sz) cs.toList.length = true := by rfl) : PS P x E L (.load t y) ty (.agg vs.toArray) := ⟨fun a w _ _ _ _ hE hS => by
  have hv := (slc_eq cs.toList f sz).symm.trans hv0
  have hw := (hS.pick hp).read
  have hlen := Nat.le_of_ble_eq_true hl
  have hvl : vs.length = sz := by rw [← hv]; simp; simp at hlen; omega
  have hr := run_loadCells_list (P := P) w ⟨b, f, none⟩ vs (fun j u hu => by
    rw [at_off, ← hv, List.getElem?_take] at *
    split at hu
    · rw [List.getElem?_drop] at hu
      simp [World.cell?, hw]
      simpa using hu
    · cases hu)
  rw [hvl] at hr
  simp [execOp, hE.ev hy, Instr.loadAt, Instr.sureAddr, loadVar, hT.isAgg, hT.sizeOf, hr]⟩
end rules

/-! ### operations that act -/
/-- An operation: what may be told of its value and of what is owned behind it. -/
structure AS (P : Program) (x : Cx) (E : List (Nat × Value)) (L : List HP) (op : Op) (ty : TypeId) (K : Value → List HP → Prop) : Prop where
  h : ∀ a w dst pos aft g (next : Act → World → Prop) (Q : Exit → Act → World → Prop), EnvOK x.n x.ds E a → SAT x.w0 x.O L w → (∀ v L1 w', K v L1 → SAT x.w0 x.O L1 w' → next (a.put dst v) w') → opW P (⟨dst, op, ty, pos, aft, g⟩ : Oper) a w next Q
theorem AS.run {op : Op} {ty : TypeId} {K : Value → List HP → Prop} (h : ∀ a w dst pos aft g, EnvOK x.n x.ds E a → SAT x.w0 x.O L w → ∃ v w' L1, (execOp a.eval ⟨dst, op, ty, pos, aft, g⟩).run P w = .ok (.value v) w' ∧ SAT x.w0 x.O L1 w' ∧ K v L1) : AS P x E L op ty K :=
  ⟨fun a w dst pos aft g next Q hE hS hn => by
    obtain ⟨v, w', L1, hr, hS', hK⟩ := h a w dst pos aft g hE hS
    refine .inl ?_
    unfold Oper.wp
    rw [hr]
    exact hn v L1 w' hK hS'⟩
theorem AS.ps {op : Op} {ty : TypeId} {v : Value} (h : PS P x E L op ty v) : AS P x E L op ty (fun u L1 => u = v ∧ L1 = L) :=
  AS.run fun a w dst pos aft g hE hS => ⟨v, w, L, h.h a w dst pos aft g hE hS, hS, rfl, rfl⟩
theorem OJ.as {op : Op} {ty : TypeId} {d : Option Tmp} {pos : String} {aft : Array Edge} {K : Value → List HP → Prop} (h : AS P x E L op ty K) (hk : ∀ v L1, K v L1 → OJ P x (putE d v E) L1 ops rest k) (hd : okD x.n d = true := by rfl) : OJ P x E L ops (⟨d, op, ty, pos, aft, none⟩ :: rest) k :=
  ⟨fun a w hE hS => wpL_plain rfl (h.h a w _ _ _ _ _ _ hE hS fun v L1 _ hv hS' => (hk v L1 hv).h _ _ (hE.put hd) hS')⟩
section acts
variable {ty t t' t'' : TypeId} {y z c : Operand} {v u : Value}
theorem AS.store {b f sz bt : Nat} {zv : Value} {cs : Array Value} {T : TypeId} {r : List Value} [hT : Ty P t false sz bt zv] (hs : sz = 1 := by rfl) (hy : ev E y = some (.pointer (some ⟨b, f, none⟩)) := by rfl) (hz : ev E z = some v := by rfl) (h1 : One x L v := by first | exact One.lit | exact One.rd (by first | (first | assumption | exact Rd.base (by assumption) | ((with_reducible apply iSlice); exact Rd.slice (by first | assumption | exact Rd.base (by assumption) | exact Rd.row (by first | ((with_reducible apply iRow); ((repeat (first | with_reducible apply Pick.here | ((with_reducible apply Pick.blkRow); (all_goals rfl)) | with_reducible apply Pick.nilRow | with_reducible apply Pick.there)); first | done | fail)) | ((with_reducible apply iBox); (first | ((repeat (first | with_reducible apply Pick.here | with_reducible apply Pick.there)); done) | exact Pick.box (by ((repeat (first | with_reducible apply Pick.here | with_reducible apply Pick.there)); first | done | fail)) (by ((repeat (first | with_reducible apply Pick.here | ((with_reducible apply Pick.blkRow); (all_goals rfl)) | with_reducible apply Pick.nilRow | with_reducible apply Pick.there)); first | done | fail)) | fail)) | ((repeat (first | with_reducible apply Pick.here | with_reducible apply Pick.there)); first | done | fail)) | exact Rd.sub (by assumption) (by first | ((with_reducible apply iRow); ((repeat (first | with_reducible apply Pick.here | ((with_reducible apply Pick.blkRow); (all_goals rfl)) | with_reducible apply Pick.nilRow | with_reducible apply Pick.there)); first | done | fail)) | ((with_reducible apply iBox); (first | ((repeat (first | with_reducible apply Pick.here | with_reducible apply Pick.there)); done) | exact Pick.box (by ((repeat (first | with_reducible apply Pick.here | with_reducible apply Pick.there)); first | done | fail)) (by ((repeat (first | with_reducible apply Pick.here | ((with_reducible apply Pick.blkRow); (all_goals rfl)) | with_reducible apply Pick.nilRow | with_reducible apply Pick.there)); first | done | fail)) | fail)) | ((repeat (first | with_reducible apply Pick.here | with_reducible apply Pick.there)); first | done | fail)) | fail)) | exact Rd.row (by first | ((with_reducible apply iRow); ((repeat (first | with_reducible apply Pick.here | ((with_reducible apply Pick.blkRow); (all_goals rfl)) | with_reducible apply Pick.nilRow | with_reducible apply Pick.there)); first | done | fail)) | ((with_reducible apply iBox); (first | ((repeat (first | with_reducible apply Pick.here | with_reducible apply Pick.there)); done) | exact Pick.box (by ((repeat (first | with_reducible apply Pick.here | with_reducible apply Pick.there)); first | done | fail)) (by ((repeat (first | with_reducible apply Pick.here | ((with_reducible apply Pick.blkRow); (all_goals rfl)) | with_reducible apply Pick.nilRow | with_reducible apply Pick.there)); first | done | fail)) | fail)) | ((repeat (first | with_reducible apply Pick.here | with_reducible apply Pick.there)); first | done | fail)) | exact Rd.sub (by assumption) (by first | ((with_reducible apply iRow); ((repeat (first | with_reducible apply Pick.here | ((with_reducible apply Pick.blkRow); (all_goals rfl)) | with_reducible apply Pick.nilRow | with_reducible apply Pick.there)); first | done | fail)) | ((with_reducible apply iBox); (first | ((repeat (first | with_reducible apply Pick.here | with_reducible apply Pick.there)); done) | exact Pick.box (by ((repeat (first | with_reducible apply Pick.here | with_reducible apply Pick.there)); first | done | fail)) (by ((repeat (first | with_reducible apply Pick.here | ((with_reducible apply Pick.blkRow); (all_goals rfl)) | with_reducible apply Pick.nilRow | with_reducible apply Pick.there)); first | done | fail)) | fail)) | ((repeat (first | with_reducible apply Pick.here | with_reducible apply Pick.there)); first | done | fail)) | exact Rd.blk (by first | ((with_reducible apply iRow); ((repeat (first | with_reducible apply Pick.here | ((with_reducible apply Pick.blkRow); (all_goals rfl)) | with_reducible apply Pick.nilRow | with_reducible apply Pick.there)); first | done | fail)) | ((with_reducible apply iBox); (first | ((repeat (first | with_reducible apply Pick.here | with_reducible apply Pick.there)); done) | exact Pick.box (by ((repeat (first | with_reducible apply Pick.here | with_reducible apply Pick.there)); first | done | fail)) (by ((repeat (first | with_reducible apply Pick.here | ((with_reducible apply Pick.blkRow); (all_goals rfl)) | with_reducible apply Pick.nilRow | with_reducible apply Pick.there)); first | done | fail)) | fail)) | ((repeat (first | with_reducible apply Pick.here | with_reducible apply Pick.there)); first | done | fail)) | fail) | (first | assumption | exact Rd.base (by assumption) | ((with_reducible apply iSlice); exact Rd.slice (by first | assumption | exact Rd.base (by assumption) | exact Rd.row (by first | ((with_reducible apply iRow); ((repeat (first | apply Pick.here | ((apply Pick.blkRow); (all_goals rfl)) | apply Pick.nilRow | apply Pick.there)); first | done | fail)) | ((with_reducible apply iBox); (first | ((repeat (first | apply Pick.here | apply Pick.there)); done) | exact Pick.box (by ((repeat (first | apply Pick.here | apply Pick.there)); first | done | fail)) (by ((repeat (first | apply Pick.here | ((apply Pick.blkRow); (all_goals rfl)) | apply Pick.nilRow | apply Pick.there)); first | done | fail)) | fail)) | ((repeat (first | apply Pick.here | apply Pick.there)); first | done | fail)) | exact Rd.sub (by assumption) (by first | ((with_reducible apply iRow); ((repeat (first | apply Pick.here | ((apply Pick.blkRow); (all_goals rfl)) | apply Pick.nilRow | apply Pick.there)); first | done | fail)) | ((with_reducible apply iBox); (first | ((repeat (first | apply Pick.here | apply Pick.there)); done) | exact Pick.box (by ((repeat (first | apply Pick.here | apply Pick.there)); first | done | fail)) (by ((repeat (first | apply Pick.here | ((apply Pick.blkRow); (all_goals rfl)) | apply Pick.nilRow | apply Pick.there)); first | done | fail)) | fail)) | ((repeat (first | apply Pick.here | apply Pick.there)); first | done | fail)) | fail)) | exact Rd.row (by first | ((with_reducible apply iRow); ((repeat (first | apply Pick.here | ((apply Pick.blkRow); (all_goals rfl)) | apply Pick.nilRow | apply Pick.there)); first | done | fail)) | ((with_reducible apply iBox); (first | ((repeat (first | apply Pick.here | apply Pick.there)); done) | exact Pick.box (by ((repeat (first | apply Pick.here | apply Pick.there)); first | done | fail)) (by ((repeat (first | apply Pick.here | ((apply Pick.blkRow); (all_goals rfl)) | apply Pick.nilRow | apply Pick.there)); first | done | fail)) | fail)) | ((repeat (first | apply Pick.here | apply Pick.there)); first | done | fail)) | exact Rd.sub (by assumption) (by first | ((with_reducible apply iRow); ((repeat (first | apply Pick.here | ((apply Pick.blkRow); (all_goals rfl)) | apply Pick.nilRow | apply Pick.there)); first | done | fail)) | ((with_reducible apply iBox); (first | ((repeat (first | apply Pick.here | apply Pick.there)); done) | exact Pick.box (by ((repeat (first | apply Pick.here | apply Pick.there)); first | done | fail)) (by ((repeat (first | apply Pick.here | ((apply Pick.blkRow); (all_goals rfl)) | apply Pick.nilRow | apply Pick.there)); first | done | fail)) | fail)) | ((repeat (first | apply Pick.here | apply Pick.there)); first | done | fail)) | exact Rd.blk (by first | ((with_reducible apply iRow); ((repeat (first | apply Pick.here | ((apply Pick.blkRow); (all_goals rfl)) | apply Pick.nilRow | apply Pick.there)); first | done | fail)) | ((with_reducible apply iBox); (first | ((repeat (first | apply Pick.here | apply Pick.there)); done) | exact Pick.box (by ((repeat (first | apply Pick.here | apply Pick.there)); first | done | fail)) (by ((repeat (first | apply Pick.here | ((apply Pick.blkRow); (all_goals rfl)) | apply Pick.nilRow | apply Pick.there)); first | done | fail)) | fail)) | ((repeat (first | apply Pick.here | apply Pick.there)); first | done | fail)) | fail)) | fail)
    (hp : Pick L (blk b (.cells cs T (0, 0))) L' := by first | (first | ((with_reducible apply iRow); ((repeat (first | with_reducible apply Pick.here | ((with_reducible apply Pick.blkRow); (all_goals rfl)) | with_reducible apply Pick.nilRow | with_reducible apply Pick.there)); first | done | fail)) | ((with_reducible apply iBox); (first | ((repeat (first | with_reducible apply Pick.here | with_reducible apply Pick.there)); done) | exact Pick.box (by ((repeat (first | with_reducible apply Pick.here | with_reducible apply Pick.there)); first | done | fail)) (by ((repeat (first | with_reducible apply Pick.here | ((with_reducible apply Pick.blkRow); (all_goals rfl)) | with_reducible apply Pick.nilRow | with_reducible apply Pick.there)); first | done | fail)) | fail)) | ((repeat (first | with_reducible apply Pick.here | with_reducible apply Pick.there)); first | done | fail)) | (first | ((with_reducible apply iRow); ((repeat (first | apply Pick.here | ((apply Pick.blkRow); (all_goals rfl)) | apply Pick.nilRow | apply Pick.there)); first | done | fail)) | ((with_reducible apply iBox); (first | ((repeat (first | apply Pick.here | apply Pick.there)); done) | exact Pick.box (by ((repeat (first | apply Pick.here | apply Pick.there)); first | done | fail)) (by ((repeat (first | apply Pick.here | ((apply Pick.blkRow); (all_goals rfl)) | apply Pick.nilRow | apply Pick.there)); first | done | fail)) | fail)) | ((repeat (first | apply Pick.here | apply Pick.there)); first | done | fail))) (hf : updO cs.toList f [v] = some r := by rfl) : AS P x E L (.store t y z) ty (fun _ L1 => L1 = blk b (.cells r.toArray T (0, 0)) :: L') := by
  refine ⟨fun a w dst pos aft g next Q hE hS hn => ?_⟩
  have h1 := h1.h w hS
  have hS' := hS.pick hp
  have hr0 := storeRun (P := P) hS'.read hf (fun u hu => by rw [List.mem_singleton.1 hu]; exact h1)
  have hr : (execOp a.eval ⟨dst, .store t y z, ty, pos, aft, g⟩).run P w = .ok .skip (w.setRow b r.toArray) := by
    subst hs
    simp [execOp, hE.ev hy, hE.ev hz, Instr.storeAt, Instr.sureAddr, storeVar, cells_one h1, hT.sizeOf, hr0]
  refine .inl ?_
  unfold Oper.wp
  rw [hr]
  exact hn undef _ _ rfl hS'.setRow
theorem AS.box1 (hv : ev E y = some v := by rfl) (h1 : One x L v := by first | exact One.lit | exact One.rd (by first | (first | assumption | exact Rd.base (by assumption) | ((with_reducible apply iSlice); exact Rd.slice (by first | assumption | exact Rd.base (by assumption) | exact Rd.row (by first | ((with_reducible apply iRow); ((repeat (first | with_reducible apply Pick.here | ((with_reducible apply Pick.blkRow); (all_goals rfl)) | with_reducible apply Pick.nilRow | with_reducible apply Pick.there)); first | done | fail)) | ((with_reducible apply iBox); (first | ((repeat (first | with_reducible apply Pick.here | with_reducible apply Pick.there)); done) | exact Pick.box (by ((repeat (first | with_reducible apply Pick.here | with_reducible apply Pick.there)); first | done | fail)) (by ((repeat (first | with_reducible apply Pick.here | ((with_reducible apply Pick.blkRow); (all_goals rfl)) | with_reducible apply Pick.nilRow | with_reducible apply Pick.there)); first | done | fail)) | fail)) | ((repeat (first | with_reducible apply Pick.here | with_reducible apply Pick.there)); first | done | fail)) | exact Rd.sub (by assumption) (by first | ((with_reducible apply iRow); ((repeat (first | with_reducible apply Pick.here | ((with_reducible apply Pick.blkRow); (all_goals rfl)) | with_reducible apply Pick.nilRow | with_reducible apply Pick.there)); first | done | fail)) | ((with_reducible apply iBox); (first | ((repeat (first | with_reducible apply Pick.here | with_reducible apply Pick.there)); done) | exact Pick.box (by ((repeat (first | with_reducible apply Pick.here | with_reducible apply Pick.there)); first | done | fail)) (by ((repeat (first | with_reducible apply Pick.here | ((with_reducible apply Pick.blkRow); (all_goals rfl)) | with_reducible apply Pick.nilRow | with_reducible apply Pick.there)); first | done | fail)) | fail)) | ((repeat (first | with_reducible apply Pick.here | with_reducible apply Pick.there)); first | done | fail)) | fail)) | exact Rd.row (by first | ((with_reducible apply iRow); ((repeat (first | with_reducible apply Pick.here | ((with_reducible apply Pick.blkRow); (all_goals rfl)) | with_reducible apply Pick.nilRow | with_reducible apply Pick.there)); first | done | fail)) | ((with_reducible apply iBox); (first | ((repeat (first | with_reducible apply Pick.here | with_reducible apply Pick.there)); done) | exact Pick.box (by ((repeat (first | with_reducible apply Pick.here | with_reducible apply Pick.there)); first | done | fail)) (by ((repeat (first | with_reducible apply Pick.here | ((with_reducible apply Pick.blkRow); (all_goals rfl)) | with_reducible apply Pick.nilRow | with_reducible apply Pick.there)); first | done | fail)) | fail)) | ((repeat (first | with_reducible apply Pick.here | with_reducible apply Pick.there)); first | done | fail)) | exact Rd.sub (by assumption) (by first | ((with_reducible apply iRow); ((repeat (first | with_reducible apply Pick.here | ((with_reducible apply Pick.blkRow); (all_goals rfl)) | with_reducible apply Pick.nilRow | with_reducible apply Pick.there)); first | done | fail)) | ((with_reducible apply iBox); (first | ((repeat (first | with_reducible apply Pick.here | with_reducible apply Pick.there)); done) | exact Pick.box (by ((repeat (first | with_reducible apply Pick.here | with_reducible apply Pick.there)); first | done | fail)) (by ((repeat (first | with_reducible apply Pick.here | ((with_reducible apply Pick.blkRow); (all_goals rfl)) | with_reducible apply Pick.nilRow | with_reducible apply Pick.there)); first | done | fail)) | fail)) | ((repeat (first | with_reducible apply Pick.here | with_reducible apply Pick.there)); first | done | fail)) | exact Rd.blk (by first | ((with_reducible apply iRow); ((repeat (first | with_reducible apply Pick.here | ((with_reducible apply Pick.blkRow); (all_goals rfl)) | with_reducible apply Pick.nilRow | with_reducible apply Pick.there)); first | done | fail)) | ((with_reducible apply iBox); (first | ((repeat (first | with_reducible apply Pick.here | with_reducible apply Pick.there)); done) | exact Pick.box (by ((repeat (first | with_reducible apply Pick.here | with_reducible apply Pick.there)); first | done | fail)) (by ((repeat (first | with_reducible apply Pick.here | ((with_reducible apply Pick.blkRow); (all_goals rfl)) | with_reducible apply Pick.nilRow | with_reducible apply Pick.there)); first | done | fail)) | fail)) | ((repeat (first | with_reducible apply Pick.here | with_reducible apply Pick.there)); first | done | fail)) | fail) | (first | assumption | exact Rd.base (by assumption) | ((with_reducible apply iSlice); exact Rd.slice (by first | assumption | exact Rd.base (by assumption) | exact Rd.row (by first | ((with_reducible apply iRow); ((repeat (first | apply Pick.here | ((apply Pick.blkRow); (all_goals rfl)) | apply Pick.nilRow | apply Pick.there)); first | done | fail)) | ((with_reducible apply iBox); (first | ((repeat (first | apply Pick.here | apply Pick.there)); done) | exact Pick.box (by ((repeat (first | apply Pick.here | apply Pick.there)); first | done | fail)) (by ((repeat (first | apply Pick.here | ((apply Pick.blkRow); (all_goals rfl)) | apply Pick.nilRow | apply Pick.there)); first | done | fail)) | fail)) | ((repeat (first | apply Pick.here | apply Pick.there)); first | done | fail)) | exact Rd.sub (by assumption) (by first | ((with_reducible apply iRow); ((repeat (first | apply Pick.here | ((apply Pick.blkRow); (all_goals rfl)) | apply Pick.nilRow | apply Pick.there)); first | done | fail)) | ((with_reducible apply iBox); (first | ((repeat (first | apply Pick.here | apply Pick.there)); done) | exact Pick.box (by ((repeat (first | apply Pick.here | apply Pick.there)); first | done | fail)) (by ((repeat (first | apply Pick.here | ((apply Pick.blkRow); (all_goals rfl)) | apply Pick.nilRow | apply Pick.there)); first | done | fail)) | fail)) | ((repeat (first | apply Pick.here | apply Pick.there)); first | done | fail)) | fail)) | exact Rd.row (by first | ((with_reducible apply iRow); ((repeat (first | apply Pick.here | ((apply Pick.blkRow); (all_goals rfl)) | apply Pick.nilRow | apply Pick.there)); first | done | fail)) | ((with_reducible apply iBox); (first | ((repeat (first | apply Pick.here | apply Pick.there)); done) | exact Pick.box (by ((repeat (first | apply Pick.here | apply Pick.there)); first | done | fail)) (by ((repeat (first | apply Pick.here | ((apply Pick.blkRow); (all_goals rfl)) | apply Pick.nilRow | apply Pick.there)); first | done | fail)) | fail)) | ((repeat (first | apply Pick.here | apply Pick.there)); first | done | fail)) | exact Rd.sub (by assumption) (by first | ((with_reducible apply iRow); ((repeat (first | apply Pick.here | ((apply Pick.blkRow); (all_goals rfl)) | apply Pick.nilRow | apply Pick.there)); first | done | fail)) | ((with_reducible apply iBox); (first | ((repeat (first | apply Pick.here | apply Pick.there)); done) | exact Pick.box (by ((repeat (first | apply Pick.here | apply Pick.there)); first | done | fail)) (by ((repeat (first | apply Pick.here | ((apply Pick.blkRow); (all_goals rfl)) | apply Pick.nilRow | apply Pick.there)); first | done | fail)) | fail)) | ((repeat (first | apply Pick.here | apply Pick.there)); first | done | fail)) | exact Rd.blk (by first | ((with_reducible apply iRow); ((repeat (first | apply Pick.here | ((apply Pick.blkRow); (all_goals rfl)) | apply Pick.nilRow | apply Pick.there)); first | done | fail)) | ((with_reducible apply iBox); (first | ((repeat (first | apply Pick.here | apply Pick.there)); done) | exact Pick.box (by ((repeat (first | apply Pick.here | apply Pick.there)); first | done | fail)) (by ((repeat (first | apply Pick.here | ((apply Pick.blkRow); (all_goals rfl)) | apply Pick.nilRow | apply Pick.there)); first | done | fail)) | fail)) | ((repeat (first | apply Pick.here | apply Pick.there)); first | done | fail)) | fail)) | fail) : AS P x E L (.box t y) ty (fun u L1 => ∃ b, u = .pointer (some ⟨b, 0, none⟩) ∧ L1 = blk b (.cells #[v] t (0, 0)) :: L) :=
  AS.run fun a w dst pos aft g hE hS => ⟨.pointer (some ⟨w.heap.size, 0, none⟩), w.alloc (.cells v.cells t (0, 0)), _, by
    simp only [execOp, hE.ev hv]; rfl, hS.alloc _, _, rfl, by rw [cells_one (h1.h w hS)]⟩
theorem AS.boxA {cs : Array Value} (hv : ev E y = some (.agg cs) := by rfl) : AS P x E L (.box t y) ty (fun u L1 => ∃ b, u = .pointer (some ⟨b, 0, none⟩) ∧ L1 = blk b (.cells cs t (0, 0)) :: L) :=
  AS.run fun a w dst pos aft g hE hS => ⟨.pointer (some ⟨w.heap.size, 0, none⟩), w.alloc (.cells cs t (0, 0)), _, by
    simp only [execOp, hE.ev hv]; rfl, hS.alloc _, _, rfl, rfl⟩
theorem AS.alloc {ag : Bool} {sz bt : Nat} {zv : Value} [hT : Ty P t ag sz bt zv] : AS P x E L (.alloc t) ty (fun u L1 => ∃ b, u = .pointer (some ⟨b, 0, none⟩) ∧ L1 = blk b (.cells zv.cells t (0, 0)) :: L) :=
  AS.run fun a w dst pos aft g hE hS => ⟨.pointer (some ⟨w.heap.size, 0, none⟩), w.alloc (.cells zv.cells t (0, 0)), _, by
    simp [execOp, Instr.alloc, hT.zeroValue]; rfl, hS.alloc _, _, rfl, rfl⟩
end acts
end
end Go.SL
