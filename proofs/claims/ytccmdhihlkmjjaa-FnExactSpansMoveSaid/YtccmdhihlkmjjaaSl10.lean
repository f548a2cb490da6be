/- Function values; ranges over functions: iterators' contracts, rounds, leaving with marks. -/
import Derived.Test.YtccmdhihlkmjjaaSl9
import Derived.RangeFuncRecord
namespace Go.SL
open Go.RowKit

/-- Resources as one. -/
def grp (L : List HP) : HP := fun h => sepL L h
/-- One of several. -/
def exR {ι : Type} (L : ι → List HP) : HP := fun h => ∃ i, sepL (L i) h
theorem SAT.grp {w0 w : World} {O : Nat → Prop} {L1 L2 : List HP} (h : SAT w0 O (L1 ++ L2) w) : SAT w0 O (SL.grp L1 :: L2) w :=
  ⟨h.1, let ⟨g, a, b, c⟩ := h.2; ⟨g, a, b, let ⟨h1, h2, d, e, p, q⟩ := sepL_append.1 c; ⟨h1, h2, d, e, p, q⟩⟩⟩
theorem SAT.ungrp {w0 w : World} {O : Nat → Prop} {L1 L2 : List HP} (h : SAT w0 O (SL.grp L1 :: L2) w) : SAT w0 O (L1 ++ L2) w :=
  ⟨h.1, let ⟨g, a, b, c⟩ := h.2; ⟨g, a, b, let ⟨h1, h2, d, e, p, q⟩ := c; sepL_append.2 ⟨h1, h2, d, e, p, q⟩⟩⟩
theorem SAT.ex {ι : Type} {L : ι → List HP} {w0 w : World} {O : Nat → Prop} {L2 : List HP} (h : SAT w0 O (exR L :: L2) w) : ∃ i, SAT w0 O (L i ++ L2) w := by
  obtain ⟨hk, g, a, b, h1, h2, d, e, ⟨i, p⟩, q⟩ := h
  exact ⟨i, hk, g, a, b, sepL_append.2 ⟨h1, h2, d, e, p, q⟩⟩
theorem SAT.inEx {ι : Type} {L : ι → List HP} (i : ι) {w0 w : World} {O : Nat → Prop} {L2 : List HP} (h : SAT w0 O (L i ++ L2) w) : SAT w0 O (exR L :: L2) w :=
  ⟨h.1, let ⟨g, a, b, c⟩ := h.2; ⟨g, a, b, let ⟨h1, h2, d, e, p, q⟩ := sepL_append.1 c; ⟨h1, h2, d, e, ⟨i, p⟩, q⟩⟩⟩
theorem SAT.perm {w0 w : World} {O : Nat → Prop} {L L' : List HP} (hp : ∀ h, sepL L h → sepL L' h) (h : SAT w0 O L w) : SAT w0 O L' w := ⟨h.1, let ⟨g, a, b, c⟩ := h.2; ⟨g, a, b, hp g c⟩⟩
theorem Rd.ent {w0 : World} {O : Nat → Prop} {L L' : List HP} {R : World → Prop} (he : Ent L L') (h : Rd w0 O L' R) : Rd w0 O L R := ⟨fun w hw => h.h w (hw.ent he)⟩
theorem RdAll.mem {w0 : World} {O : Nat → Prop} {L : List HP} {Rs : List (World → Prop)} {R : World → Prop} (h : RdAll w0 O L Rs) (hR : R ∈ Rs) : Rd w0 O L R := h.h R hR

section
variable {P : Program} {x : Cx} {E : List (Nat × Value)} {L L' L1 L2 : List HP} {k : List Fr} {ops : Array Oper} {rest : List Oper}
variable {ty t t' t'' : TypeId} {y z c : Operand} {v u : Value}

/-! ### function values -/
theorem PS.makeFunc {fn : Fn} {cs : List Operand} {bs : List Value} (hv : evs E cs = some bs := by rfl) : PS P x E L (.makeFunc fn #[] cs.toArray) ty (.func fn #[] bs.toArray) := ⟨fun a w _ _ _ _ hE _ => by
  simp [execOp, Instr.makeFunc, hE.evs hv]⟩
/-- A call of a function value. -/
theorem AS.callV {f : FuncId} {as : List Operand} {ts : Array TypeId} {args bs : List Value} {Rs : List (World → Prop)} {X : Type} {ret : X → Value} {Lo : X → List HP} {po : X → Prop} [hF : FnB P f]
    (hs : Spec P f (args ++ bs) Rs L1 ret Lo po) (hy : ev E y = some (.func (.func f) #[] bs.toArray) := by rfl) (ha : evs E as = some args := by rfl) (hL : Parts L L1 L2 := by first | exact Parts.nil | exact Parts.cons (by first | (show Pick _ (row _ _ _ _) _; ((repeat (first | exact Pick.here | exact Pick.blkRow | exact Pick.nilRow | apply Pick.there)); first | done | fail)) | (show Pick _ (boxR _ _ _ _ _) _; (first | ((repeat (first | exact Pick.here | apply Pick.there)); done) | exact Pick.box (by ((repeat (first | exact Pick.here | apply Pick.there)); first | done | fail)) (by ((repeat (first | exact Pick.here | exact Pick.blkRow | exact Pick.nilRow | apply Pick.there)); first | done | fail)) | fail)) | ((repeat (first | exact Pick.here | apply Pick.there)); first | done | fail)) Parts.nil | exact Parts.cons (by first | (show Pick _ (row _ _ _ _) _; ((repeat (first | exact Pick.here | exact Pick.blkRow | exact Pick.nilRow | apply Pick.there)); first | done | fail)) | (show Pick _ (boxR _ _ _ _ _) _; (first | ((repeat (first | exact Pick.here | apply Pick.there)); done) | exact Pick.box (by ((repeat (first | exact Pick.here | apply Pick.there)); first | done | fail)) (by ((repeat (first | exact Pick.here | exact Pick.blkRow | exact Pick.nilRow | apply Pick.there)); first | done | fail)) | fail)) | ((repeat (first | exact Pick.here | apply Pick.there)); first | done | fail)) (Parts.cons (by first | (show Pick _ (row _ _ _ _) _; ((repeat (first | exact Pick.here | exact Pick.blkRow | exact Pick.nilRow | apply Pick.there)); first | done | fail)) | (show Pick _ (boxR _ _ _ _ _) _; (first | ((repeat (first | exact Pick.here | apply Pick.there)); done) | exact Pick.box (by ((repeat (first | exact Pick.here | apply Pick.there)); first | done | fail)) (by ((repeat (first | exact Pick.here | exact Pick.blkRow | exact Pick.nilRow | apply Pick.there)); first | done | fail)) | fail)) | ((repeat (first | exact Pick.here | apply Pick.there)); first | done | fail)) Parts.nil) | exact Parts.cons (by first | (show Pick _ (row _ _ _ _) _; ((repeat (first | exact Pick.here | exact Pick.blkRow | exact Pick.nilRow | apply Pick.there)); first | done | fail)) | (show Pick _ (boxR _ _ _ _ _) _; (first | ((repeat (first | exact Pick.here | apply Pick.there)); done) | exact Pick.box (by ((repeat (first | exact Pick.here | apply Pick.there)); first | done | fail)) (by ((repeat (first | exact Pick.here | exact Pick.blkRow | exact Pick.nilRow | apply Pick.there)); first | done | fail)) | fail)) | ((repeat (first | exact Pick.here | apply Pick.there)); first | done | fail)) (Parts.cons (by first | (show Pick _ (row _ _ _ _) _; ((repeat (first | exact Pick.here | exact Pick.blkRow | exact Pick.nilRow | apply Pick.there)); first | done | fail)) | (show Pick _ (boxR _ _ _ _ _) _; (first | ((repeat (first | exact Pick.here | apply Pick.there)); done) | exact Pick.box (by ((repeat (first | exact Pick.here | apply Pick.there)); first | done | fail)) (by ((repeat (first | exact Pick.here | exact Pick.blkRow | exact Pick.nilRow | apply Pick.there)); first | done | fail)) | fail)) | ((repeat (first | exact Pick.here | apply Pick.there)); first | done | fail)) (Parts.cons (by first | (show Pick _ (row _ _ _ _) _; ((repeat (first | exact Pick.here | exact Pick.blkRow | exact Pick.nilRow | apply Pick.there)); first | done | fail)) | (show Pick _ (boxR _ _ _ _ _) _; (first | ((repeat (first | exact Pick.here | apply Pick.there)); done) | exact Pick.box (by ((repeat (first | exact Pick.here | apply Pick.there)); first | done | fail)) (by ((repeat (first | exact Pick.here | exact Pick.blkRow | exact Pick.nilRow | apply Pick.there)); first | done | fail)) | fail)) | ((repeat (first | exact Pick.here | apply Pick.there)); first | done | fail)) Parts.nil)) | fail) (hR : RdAll x.w0 x.O L2 Rs := by first | exact RdAll.nil | exact RdAll.cons (by first | assumption | exact Rd.base (by assumption) | exact Rd.slice (by first | assumption | exact Rd.base (by assumption) | exact Rd.row (by first | (show Pick _ (row _ _ _ _) _; ((repeat (first | exact Pick.here | exact Pick.blkRow | exact Pick.nilRow | apply Pick.there)); first | done | fail)) | (show Pick _ (boxR _ _ _ _ _) _; (first | ((repeat (first | exact Pick.here | apply Pick.there)); done) | exact Pick.box (by ((repeat (first | exact Pick.here | apply Pick.there)); first | done | fail)) (by ((repeat (first | exact Pick.here | exact Pick.blkRow | exact Pick.nilRow | apply Pick.there)); first | done | fail)) | fail)) | ((repeat (first | exact Pick.here | apply Pick.there)); first | done | fail)) | exact Rd.sub (by assumption) (by first | (show Pick _ (row _ _ _ _) _; ((repeat (first | exact Pick.here | exact Pick.blkRow | exact Pick.nilRow | apply Pick.there)); first | done | fail)) | (show Pick _ (boxR _ _ _ _ _) _; (first | ((repeat (first | exact Pick.here | apply Pick.there)); done) | exact Pick.box (by ((repeat (first | exact Pick.here | apply Pick.there)); first | done | fail)) (by ((repeat (first | exact Pick.here | exact Pick.blkRow | exact Pick.nilRow | apply Pick.there)); first | done | fail)) | fail)) | ((repeat (first | exact Pick.here | apply Pick.there)); first | done | fail)) | fail) | exact Rd.row (by first | (show Pick _ (row _ _ _ _) _; ((repeat (first | exact Pick.here | exact Pick.blkRow | exact Pick.nilRow | apply Pick.there)); first | done | fail)) | (show Pick _ (boxR _ _ _ _ _) _; (first | ((repeat (first | exact Pick.here | apply Pick.there)); done) | exact Pick.box (by ((repeat (first | exact Pick.here | apply Pick.there)); first | done | fail)) (by ((repeat (first | exact Pick.here | exact Pick.blkRow | exact Pick.nilRow | apply Pick.there)); first | done | fail)) | fail)) | ((repeat (first | exact Pick.here | apply Pick.there)); first | done | fail)) | exact Rd.sub (by assumption) (by first | (show Pick _ (row _ _ _ _) _; ((repeat (first | exact Pick.here | exact Pick.blkRow | exact Pick.nilRow | apply Pick.there)); first | done | fail)) | (show Pick _ (boxR _ _ _ _ _) _; (first | ((repeat (first | exact Pick.here | apply Pick.there)); done) | exact Pick.box (by ((repeat (first | exact Pick.here | apply Pick.there)); first | done | fail)) (by ((repeat (first | exact Pick.here | exact Pick.blkRow | exact Pick.nilRow | apply Pick.there)); first | done | fail)) | fail)) | ((repeat (first | exact Pick.here | apply Pick.there)); first | done | fail)) | exact Rd.blk (by first | (show Pick _ (row _ _ _ _) _; ((repeat (first | exact Pick.here | exact Pick.blkRow | exact Pick.nilRow | apply Pick.there)); first | done | fail)) | (show Pick _ (boxR _ _ _ _ _) _; (first | ((repeat (first | exact Pick.here | apply Pick.there)); done) | exact Pick.box (by ((repeat (first | exact Pick.here | apply Pick.there)); first | done | fail)) (by ((repeat (first | exact Pick.here | exact Pick.blkRow | exact Pick.nilRow | apply Pick.there)); first | done | fail)) | fail)) | ((repeat (first | exact Pick.here | apply Pick.there)); first | done | fail)) | fail) RdAll.nil | exact RdAll.cons (by first | assumption | exact Rd.base (by assumption) | exact Rd.slice (by first | assumption | exact Rd.base (by assumption) | exact Rd.row (by first | (show Pick _ (row _ _ _ _) _; ((repeat (first | exact Pick.here | exact Pick.blkRow | exact Pick.nilRow | apply Pick.there)); first | done | fail)) | (show Pick _ (boxR _ _ _ _ _) _; (first | ((repeat (first | exact Pick.here | apply Pick.there)); done) | exact Pick.box (by ((repeat (first | exact Pick.here | apply Pick.there)); first | done | fail)) (by ((repeat (first | exact Pick.here | exact Pick.blkRow | exact Pick.nilRow | apply Pick.there)); first | done | fail)) | fail)) | ((repeat (first | exact Pick.here | apply Pick.there)); first | done | fail)) | exact Rd.sub (by assumption) (by first | (show Pick _ (row _ _ _ _) _; ((repeat (first | exact Pick.here | exact Pick.blkRow | exact Pick.nilRow | apply Pick.there)); first | done | fail)) | (show Pick _ (boxR _ _ _ _ _) _; (first | ((repeat (first | exact Pick.here | apply Pick.there)); done) | exact Pick.box (by ((repeat (first | exact Pick.here | apply Pick.there)); first | done | fail)) (by ((repeat (first | exact Pick.here | exact Pick.blkRow | exact Pick.nilRow | apply Pick.there)); first | done | fail)) | fail)) | ((repeat (first | exact Pick.here | apply Pick.there)); first | done | fail)) | fail) | exact Rd.row (by first | (show Pick _ (row _ _ _ _) _; ((repeat (first | exact Pick.here | exact Pick.blkRow | exact Pick.nilRow | apply Pick.there)); first | done | fail)) | (show Pick _ (boxR _ _ _ _ _) _; (first | ((repeat (first | exact Pick.here | apply Pick.there)); done) | exact Pick.box (by ((repeat (first | exact Pick.here | apply Pick.there)); first | done | fail)) (by ((repeat (first | exact Pick.here | exact Pick.blkRow | exact Pick.nilRow | apply Pick.there)); first | done | fail)) | fail)) | ((repeat (first | exact Pick.here | apply Pick.there)); first | done | fail)) | exact Rd.sub (by assumption) (by first | (show Pick _ (row _ _ _ _) _; ((repeat (first | exact Pick.here | exact Pick.blkRow | exact Pick.nilRow | apply Pick.there)); first | done | fail)) | (show Pick _ (boxR _ _ _ _ _) _; (first | ((repeat (first | exact Pick.here | apply Pick.there)); done) | exact Pick.box (by ((repeat (first | exact Pick.here | apply Pick.there)); first | done | fail)) (by ((repeat (first | exact Pick.here | exact Pick.blkRow | exact Pick.nilRow | apply Pick.there)); first | done | fail)) | fail)) | ((repeat (first | exact Pick.here | apply Pick.there)); first | done | fail)) | exact Rd.blk (by first | (show Pick _ (row _ _ _ _) _; ((repeat (first | exact Pick.here | exact Pick.blkRow | exact Pick.nilRow | apply Pick.there)); first | done | fail)) | (show Pick _ (boxR _ _ _ _ _) _; (first | ((repeat (first | exact Pick.here | apply Pick.there)); done) | exact Pick.box (by ((repeat (first | exact Pick.here | apply Pick.there)); first | done | fail)) (by ((repeat (first | exact Pick.here | exact Pick.blkRow | exact Pick.nilRow | apply Pick.there)); first | done | fail)) | fail)) | ((repeat (first | exact Pick.here | apply Pick.there)); first | done | fail)) | fail) (RdAll.cons (by first | assumption | exact Rd.base (by assumption) | exact Rd.slice (by first | assumption | exact Rd.base (by assumption) | exact Rd.row (by first | (show Pick _ (row _ _ _ _) _; ((repeat (first | exact Pick.here | exact Pick.blkRow | exact Pick.nilRow | apply Pick.there)); first | done | fail)) | (show Pick _ (boxR _ _ _ _ _) _; (first | ((repeat (first | exact Pick.here | apply Pick.there)); done) | exact Pick.box (by ((repeat (first | exact Pick.here | apply Pick.there)); first | done | fail)) (by ((repeat (first | exact Pick.here | exact Pick.blkRow | exact Pick.nilRow | apply Pick.there)); first | done | fail)) | fail)) | ((repeat (first | exact Pick.here | apply Pick.there)); first | done | fail)) | exact Rd.sub (by assumption) (by first | (show Pick _ (row _ _ _ _) _; ((repeat (first | exact Pick.here | exact Pick.blkRow | exact Pick.nilRow | apply Pick.there)); first | done | fail)) | (show Pick _ (boxR _ _ _ _ _) _; (first | ((repeat (first | exact Pick.here | apply Pick.there)); done) | exact Pick.box (by ((repeat (first | exact Pick.here | apply Pick.there)); first | done | fail)) (by ((repeat (first | exact Pick.here | exact Pick.blkRow | exact Pick.nilRow | apply Pick.there)); first | done | fail)) | fail)) | ((repeat (first | exact Pick.here | apply Pick.there)); first | done | fail)) | fail) | exact Rd.row (by first | (show Pick _ (row _ _ _ _) _; ((repeat (first | exact Pick.here | exact Pick.blkRow | exact Pick.nilRow | apply Pick.there)); first | done | fail)) | (show Pick _ (boxR _ _ _ _ _) _; (first | ((repeat (first | exact Pick.here | apply Pick.there)); done) | exact Pick.box (by ((repeat (first | exact Pick.here | apply Pick.there)); first | done | fail)) (by ((repeat (first | exact Pick.here | exact Pick.blkRow | exact Pick.nilRow | apply Pick.there)); first | done | fail)) | fail)) | ((repeat (first | exact Pick.here | apply Pick.there)); first | done | fail)) | exact Rd.sub (by assumption) (by first | (show Pick _ (row _ _ _ _) _; ((repeat (first | exact Pick.here | exact Pick.blkRow | exact Pick.nilRow | apply Pick.there)); first | done | fail)) | (show Pick _ (boxR _ _ _ _ _) _; (first | ((repeat (first | exact Pick.here | apply Pick.there)); done) | exact Pick.box (by ((repeat (first | exact Pick.here | apply Pick.there)); first | done | fail)) (by ((repeat (first | exact Pick.here | exact Pick.blkRow | exact Pick.nilRow | apply Pick.there)); first | done | fail)) | fail)) | ((repeat (first | exact Pick.here | apply Pick.there)); first | done | fail)) | exact Rd.blk (by first | (show Pick _ (row _ _ _ _) _; ((repeat (first | exact Pick.here | exact Pick.blkRow | exact Pick.nilRow | apply Pick.there)); first | done | fail)) | (show Pick _ (boxR _ _ _ _ _) _; (first | ((repeat (first | exact Pick.here | apply Pick.there)); done) | exact Pick.box (by ((repeat (first | exact Pick.here | apply Pick.there)); first | done | fail)) (by ((repeat (first | exact Pick.here | exact Pick.blkRow | exact Pick.nilRow | apply Pick.there)); first | done | fail)) | fail)) | ((repeat (first | exact Pick.here | apply Pick.there)); first | done | fail)) | fail) RdAll.nil) | exact RdAll.cons (by first | assumption | exact Rd.base (by assumption) | exact Rd.slice (by first | assumption | exact Rd.base (by assumption) | exact Rd.row (by first | (show Pick _ (row _ _ _ _) _; ((repeat (first | exact Pick.here | exact Pick.blkRow | exact Pick.nilRow | apply Pick.there)); first | done | fail)) | (show Pick _ (boxR _ _ _ _ _) _; (first | ((repeat (first | exact Pick.here | apply Pick.there)); done) | exact Pick.box (by ((repeat (first | exact Pick.here | apply Pick.there)); first | done | fail)) (by ((repeat (first | exact Pick.here | exact Pick.blkRow | exact Pick.nilRow | apply Pick.there)); first | done | fail)) | fail)) | ((repeat (first | exact Pick.here | apply Pick.there)); first | done | fail)) | exact Rd.sub (by assumption) (by first | (show Pick _ (row _ _ _ _) _; ((repeat (first | exact Pick.here | exact Pick.blkRow | exact Pick.nilRow | apply Pick.there)); first | done | fail)) | (show Pick _ (boxR _ _ _ _ _) _; (first | ((repeat (first | exact Pick.here | apply Pick.there)); done) | exact Pick.box (by ((repeat (first | exact Pick.here | apply Pick.there)); first | done | fail)) (by ((repeat (first | exact Pick.here | exact Pick.blkRow | exact Pick.nilRow | apply Pick.there)); first | done | fail)) | fail)) | ((repeat (first | exact Pick.here | apply Pick.there)); first | done | fail)) | fail) | exact Rd.row (by first | (show Pick _ (row _ _ _ _) _; ((repeat (first | exact Pick.here | exact Pick.blkRow | exact Pick.nilRow | apply Pick.there)); first | done | fail)) | (show Pick _ (boxR _ _ _ _ _) _; (first | ((repeat (first | exact Pick.here | apply Pick.there)); done) | exact Pick.box (by ((repeat (first | exact Pick.here | apply Pick.there)); first | done | fail)) (by ((repeat (first | exact Pick.here | exact Pick.blkRow | exact Pick.nilRow | apply Pick.there)); first | done | fail)) | fail)) | ((repeat (first | exact Pick.here | apply Pick.there)); first | done | fail)) | exact Rd.sub (by assumption) (by first | (show Pick _ (row _ _ _ _) _; ((repeat (first | exact Pick.here | exact Pick.blkRow | exact Pick.nilRow | apply Pick.there)); first | done | fail)) | (show Pick _ (boxR _ _ _ _ _) _; (first | ((repeat (first | exact Pick.here | apply Pick.there)); done) | exact Pick.box (by ((repeat (first | exact Pick.here | apply Pick.there)); first | done | fail)) (by ((repeat (first | exact Pick.here | exact Pick.blkRow | exact Pick.nilRow | apply Pick.there)); first | done | fail)) | fail)) | ((repeat (first | exact Pick.here | apply Pick.there)); first | done | fail)) | exact Rd.blk (by first | (show Pick _ (row _ _ _ _) _; ((repeat (first | exact Pick.here | exact Pick.blkRow | exact Pick.nilRow | apply Pick.there)); first | done | fail)) | (show Pick _ (boxR _ _ _ _ _) _; (first | ((repeat (first | exact Pick.here | apply Pick.there)); done) | exact Pick.box (by ((repeat (first | exact Pick.here | apply Pick.there)); first | done | fail)) (by ((repeat (first | exact Pick.here | exact Pick.blkRow | exact Pick.nilRow | apply Pick.there)); first | done | fail)) | fail)) | ((repeat (first | exact Pick.here | apply Pick.there)); first | done | fail)) | fail) (RdAll.cons (by first | assumption | exact Rd.base (by assumption) | exact Rd.slice (by first | assumption | exact Rd.base (by assumption) | exact Rd.row (by first | (show Pick _ (row _ _ _ _) _; ((repeat (first | exact Pick.here | exact Pick.blkRow | exact Pick.nilRow | apply Pick.there)); first | done | fail)) | (show Pick _ (boxR _ _ _ _ _) _; (first | ((repeat (first | exact Pick.here | apply Pick.there)); done) | exact Pick.box (by ((repeat (first | exact Pick.here | apply Pick.there)); first | done | fail)) (by ((repeat (first | exact Pick.here | exact Pick.blkRow | exact Pick.nilRow | apply Pick.there)); first | done | fail)) | fail)) | ((repeat (first | exact Pick.here | apply Pick.there)); first | done | fail)) | exact Rd.sub (by assumption) (by first | (show Pick _ (row _ _ _ _) _; ((repeat (first | exact Pick.here | exact Pick.blkRow | exact Pick.nilRow | apply Pick.there)); first | done | fail)) | (show Pick _ (boxR _ _ _ _ _) _; (first | ((repeat (first | exact Pick.here | apply Pick.there)); done) | exact Pick.box (by ((repeat (first | exact Pick.here | apply Pick.there)); first | done | fail)) (by ((repeat (first | exact Pick.here | exact Pick.blkRow | exact Pick.nilRow | apply Pick.there)); first | done | fail)) | fail)) | ((repeat (first | exact Pick.here | apply Pick.there)); first | done | fail)) | fail) | exact Rd.row (by first | (show Pick _ (row _ _ _ _) _; ((repeat (first | exact Pick.here | exact Pick.blkRow | exact Pick.nilRow | apply Pick.there)); first | done | fail)) | (show Pick _ (boxR _ _ _ _ _) _; (first | ((repeat (first | exact Pick.here | apply Pick.there)); done) | exact Pick.box (by ((repeat (first | exact Pick.here | apply Pick.there)); first | done | fail)) (by ((repeat (first | exact Pick.here | exact Pick.blkRow | exact Pick.nilRow | apply Pick.there)); first | done | fail)) | fail)) | ((repeat (first | exact Pick.here | apply Pick.there)); first | done | fail)) | exact Rd.sub (by assumption) (by first | (show Pick _ (row _ _ _ _) _; ((repeat (first | exact Pick.here | exact Pick.blkRow | exact Pick.nilRow | apply Pick.there)); first | done | fail)) | (show Pick _ (boxR _ _ _ _ _) _; (first | ((repeat (first | exact Pick.here | apply Pick.there)); done) | exact Pick.box (by ((repeat (first | exact Pick.here | apply Pick.there)); first | done | fail)) (by ((repeat (first | exact Pick.here | exact Pick.blkRow | exact Pick.nilRow | apply Pick.there)); first | done | fail)) | fail)) | ((repeat (first | exact Pick.here | apply Pick.there)); first | done | fail)) | exact Rd.blk (by first | (show Pick _ (row _ _ _ _) _; ((repeat (first | exact Pick.here | exact Pick.blkRow | exact Pick.nilRow | apply Pick.there)); first | done | fail)) | (show Pick _ (boxR _ _ _ _ _) _; (first | ((repeat (first | exact Pick.here | apply Pick.there)); done) | exact Pick.box (by ((repeat (first | exact Pick.here | apply Pick.there)); first | done | fail)) (by ((repeat (first | exact Pick.here | exact Pick.blkRow | exact Pick.nilRow | apply Pick.there)); first | done | fail)) | fail)) | ((repeat (first | exact Pick.here | apply Pick.there)); first | done | fail)) | fail) (RdAll.cons (by first | assumption | exact Rd.base (by assumption) | exact Rd.slice (by first | assumption | exact Rd.base (by assumption) | exact Rd.row (by first | (show Pick _ (row _ _ _ _) _; ((repeat (first | exact Pick.here | exact Pick.blkRow | exact Pick.nilRow | apply Pick.there)); first | done | fail)) | (show Pick _ (boxR _ _ _ _ _) _; (first | ((repeat (first | exact Pick.here | apply Pick.there)); done) | exact Pick.box (by ((repeat (first | exact Pick.here | apply Pick.there)); first | done | fail)) (by ((repeat (first | exact Pick.here | exact Pick.blkRow | exact Pick.nilRow | apply Pick.there)); first | done | fail)) | fail)) | ((repeat (first | exact Pick.here | apply Pick.there)); first | done | fail)) | exact Rd.sub (by assumption) (by first | (show Pick _ (row _ _ _ _) _; ((repeat (first | exact Pick.here | exact Pick.blkRow | exact Pick.nilRow | apply Pick.there)); first | done | fail)) | (show Pick _ (boxR _ _ _ _ _) _; (first | ((repeat (first | exact Pick.here | apply Pick.there)); done) | exact Pick.box (by ((repeat (first | exact Pick.here | apply Pick.there)); first | done | fail)) (by ((repeat (first | exact Pick.here | exact Pick.blkRow | exact Pick.nilRow | apply Pick.there)); first | done | fail)) | fail)) | ((repeat (first | exact Pick.here | apply Pick.there)); first | done | fail)) | fail) | exact Rd.row (by first | (show Pick _ (row _ _ _ _) _; ((repeat (first | exact Pick.here | exact Pick.blkRow | exact Pick.nilRow | apply Pick.there)); first | done | fail)) | (show Pick _ (boxR _ _ _ _ _) _; (first | ((repeat (first | exact Pick.here | apply Pick.there)); done) | exact Pick.box (by ((repeat (first | exact Pick.here | apply Pick.there)); first | done | fail)) (by ((repeat (first | exact Pick.here | exact Pick.blkRow | exact Pick.nilRow | apply Pick.there)); first | done | fail)) | fail)) | ((repeat (first | exact Pick.here | apply Pick.there)); first | done | fail)) | exact Rd.sub (by assumption) (by first | (show Pick _ (row _ _ _ _) _; ((repeat (first | exact Pick.here | exact Pick.blkRow | exact Pick.nilRow | apply Pick.there)); first | done | fail)) | (show Pick _ (boxR _ _ _ _ _) _; (first | ((repeat (first | exact Pick.here | apply Pick.there)); done) | exact Pick.box (by ((repeat (first | exact Pick.here | apply Pick.there)); first | done | fail)) (by ((repeat (first | exact Pick.here | exact Pick.blkRow | exact Pick.nilRow | apply Pick.there)); first | done | fail)) | fail)) | ((repeat (first | exact Pick.here | apply Pick.there)); first | done | fail)) | exact Rd.blk (by first | (show Pick _ (row _ _ _ _) _; ((repeat (first | exact Pick.here | exact Pick.blkRow | exact Pick.nilRow | apply Pick.there)); first | done | fail)) | (show Pick _ (boxR _ _ _ _ _) _; (first | ((repeat (first | exact Pick.here | apply Pick.there)); done) | exact Pick.box (by ((repeat (first | exact Pick.here | apply Pick.there)); first | done | fail)) (by ((repeat (first | exact Pick.here | exact Pick.blkRow | exact Pick.nilRow | apply Pick.there)); first | done | fail)) | fail)) | ((repeat (first | exact Pick.here | apply Pick.there)); first | done | fail)) | fail) RdAll.nil)) | fail) :
    AS P x E L (.call ⟨.value y, as.toArray, ts⟩) ty (fun v L3 => ∃ y, po y ∧ v = ret y ∧ L3 = Lo y ++ L2) := by
  refine ⟨fun a w dst pos aft g next Q hE hS hn => ?_⟩
  have hS' : SAT x.w0 x.O (L1 ++ L2) w := ⟨hS.1, let ⟨g, a, b, c⟩ := hS.2; ⟨g, a, b, hL.h g c⟩⟩
  obtain ⟨Oc, h1, h2, h3⟩ := hS'.split
  refine .inl (wp_calls (f := f) (args := (args ++ bs).toArray) ?_ (hs w Oc (fun R hR' => h2 R (hR.h R hR')) h1) ?_)
  · have := hF.h (args ++ bs).toArray w
    simp only [execOp, resolve, hE.ev hy, Deferred.ofValue]
    simp [invoke, hE.evs ha]
    simpa using this
  · rintro e w' ⟨y, hy, rfl, hS2⟩
    exact ⟨_, rfl, hn _ _ _ ⟨y, hy, rfl, rfl⟩ (h3 _ _ hS2)⟩

/-- What can be read is so. -/
theorem J.know {c : Code} {R : World → Prop} (hk : ∀ w, R w → J P x E L c k) (hr : Rd x.w0 x.O L R := by first | assumption | exact Rd.base (by assumption) | exact Rd.slice (by first | assumption | exact Rd.base (by assumption) | exact Rd.row (by first | (show Pick _ (row _ _ _ _) _; ((repeat (first | exact Pick.here | exact Pick.blkRow | exact Pick.nilRow | apply Pick.there)); first | done | fail)) | (show Pick _ (boxR _ _ _ _ _) _; (first | ((repeat (first | exact Pick.here | apply Pick.there)); done) | exact Pick.box (by ((repeat (first | exact Pick.here | apply Pick.there)); first | done | fail)) (by ((repeat (first | exact Pick.here | exact Pick.blkRow | exact Pick.nilRow | apply Pick.there)); first | done | fail)) | fail)) | ((repeat (first | exact Pick.here | apply Pick.there)); first | done | fail)) | exact Rd.sub (by assumption) (by first | (show Pick _ (row _ _ _ _) _; ((repeat (first | exact Pick.here | exact Pick.blkRow | exact Pick.nilRow | apply Pick.there)); first | done | fail)) | (show Pick _ (boxR _ _ _ _ _) _; (first | ((repeat (first | exact Pick.here | apply Pick.there)); done) | exact Pick.box (by ((repeat (first | exact Pick.here | apply Pick.there)); first | done | fail)) (by ((repeat (first | exact Pick.here | exact Pick.blkRow | exact Pick.nilRow | apply Pick.there)); first | done | fail)) | fail)) | ((repeat (first | exact Pick.here | apply Pick.there)); first | done | fail)) | fail) | exact Rd.row (by first | (show Pick _ (row _ _ _ _) _; ((repeat (first | exact Pick.here | exact Pick.blkRow | exact Pick.nilRow | apply Pick.there)); first | done | fail)) | (show Pick _ (boxR _ _ _ _ _) _; (first | ((repeat (first | exact Pick.here | apply Pick.there)); done) | exact Pick.box (by ((repeat (first | exact Pick.here | apply Pick.there)); first | done | fail)) (by ((repeat (first | exact Pick.here | exact Pick.blkRow | exact Pick.nilRow | apply Pick.there)); first | done | fail)) | fail)) | ((repeat (first | exact Pick.here | apply Pick.there)); first | done | fail)) | exact Rd.sub (by assumption) (by first | (show Pick _ (row _ _ _ _) _; ((repeat (first | exact Pick.here | exact Pick.blkRow | exact Pick.nilRow | apply Pick.there)); first | done | fail)) | (show Pick _ (boxR _ _ _ _ _) _; (first | ((repeat (first | exact Pick.here | apply Pick.there)); done) | exact Pick.box (by ((repeat (first | exact Pick.here | apply Pick.there)); first | done | fail)) (by ((repeat (first | exact Pick.here | exact Pick.blkRow | exact Pick.nilRow | apply Pick.there)); first | done | fail)) | fail)) | ((repeat (first | exact Pick.here | apply Pick.there)); first | done | fail)) | exact Rd.blk (by first | (show Pick _ (row _ _ _ _) _; ((repeat (first | exact Pick.here | exact Pick.blkRow | exact Pick.nilRow | apply Pick.there)); first | done | fail)) | (show Pick _ (boxR _ _ _ _ _) _; (first | ((repeat (first | exact Pick.here | apply Pick.there)); done) | exact Pick.box (by ((repeat (first | exact Pick.here | apply Pick.there)); first | done | fail)) (by ((repeat (first | exact Pick.here | exact Pick.blkRow | exact Pick.nilRow | apply Pick.there)); first | done | fail)) | fail)) | ((repeat (first | exact Pick.here | apply Pick.there)); first | done | fail)) | fail) : J P x E L c k := ⟨fun a w hE hS => (hk w (hr.h w hS)).h a w hE hS⟩
/-! ### iterators -/
/-- The value that a range hands to the function it ranges over. -/
def yv (l : Nat) : Value := .func (.yield l) #[] #[]
/-- What a call of yield does, from p (whatever lies beside). -/
def YAt (P : Program) (w0 : World) (O : Nat → Prop) (l : Nat) (args : List Value) (p pt pf : HP) : Prop :=
  ∀ (F : List HP) (w : World), SAT w0 O (p :: F) w → ∃ f tmps assign body, (Instr.yield l args.toArray).run P w = .ok (.round l f tmps assign body) w ∧
    RoundIn Fence.wide 0 P l f tmps assign body w (fun e w' => (e = .returned (.bool true) ∧ SAT w0 O (pt :: F) w') ∨ (e = .returned (.bool false) ∧ SAT w0 O (pf :: F) w'))
def IEnds (w0 : World) (O : Nat → Prop) (p : HP) (px : Nat → HP) (e : Ending) (w' : World) : Prop := ∃ v, e = .returned v ∧ (SAT w0 O [p] w' ∨ ∃ k, SAT w0 O [px k] w')
/-- An iterator's contract: it hands xs to yield, one by one, until yield says no. -/
structure IterSpec (P : Program) (gf : FuncId) (lb : List Value) (Rs : List (World → Prop)) (xs : List (List Value)) : Prop where
  h : ∀ w0 O (l : Nat) (Iy Ix : Nat → HP), (∀ k, RdAll w0 O [Iy k] Rs) → (∀ k a, xs[k]? = some a → YAt P w0 O l a (Iy k) (Iy (k + 1)) (Ix k)) →
    ∀ w, SAT w0 O [Iy 0] w → Calls P gf (yv l :: lb).toArray w (IEnds w0 O (Iy xs.length) Ix)
theorem IterSpec.mk' {f : FuncId} {fn : Func} {c : Code} {lb : List Value} {Rs : List (World → Prop)} {xs : List (List Value)} {n : Nat}
    (hf : P.funcs[f]? = some fn) (hb : fn.body = some c) (hn : fn.ntmps = n) (hl : Nat.ble (lb.length + 1) n = true)
    (h : ∀ w0 O (l : Nat) (Iy Ix : Nat → HP), (∀ k, RdAll w0 O [Iy k] Rs) → (∀ k a, xs[k]? = some a → YAt P w0 O l a (Iy k) (Iy (k + 1)) (Ix k)) →
      J P ⟨fn, n, IEnds w0 O (Iy xs.length) Ix, w0, O, none, [], bodyPost P fn (IEnds w0 O (Iy xs.length) Ix), body_pan⟩ (argE 0 (yv l :: lb)) [Iy 0] c []) : IterSpec P f lb Rs xs := by
  refine ⟨fun w0 O l Iy Ix hR hY w hS => ?_⟩
  refine callsIn_wide.1 (callsIn_of_wp (F := Fence.wide) (n := 0) hf hb trivial ((h w0 O l Iy Ix hR hY).h _ w ⟨?_, rfl, ?_⟩ hS))
  · have := Nat.le_of_ble_eq_true hl
    simp [hn]
    omega
  · intro t v hv
    obtain ⟨_, h2⟩ := argE_get 0 _ t v hv
    simp only [Nat.sub_zero] at h2
    have hlt := (List.getElem?_eq_some_iff.1 h2).1
    have := (List.getElem?_eq_some_iff.1 h2).2
    show ((yv l :: lb).toArray ++ Array.replicate (fn.ntmps - (yv l :: lb).toArray.size) undef).getD t undef = v
    rw [Array.getD_eq_getD_getElem?, Array.getElem?_append_left (by simpa using hlt), List.getElem?_toArray, h2]
    rfl
/-- yield is called. -/
theorem AS.yield {l : Nat} {as : List Operand} {ts : Array TypeId} {args : List Value} {p pt pf : HP} (hY : YAt P x.w0 x.O l args p pt pf) (hy : ev E y = some (yv l) := by rfl) (ha : evs E as = some args := by rfl) (hp : Pick L p L' := by first | (show Pick _ (row _ _ _ _) _; ((repeat (first | exact Pick.here | exact Pick.blkRow | exact Pick.nilRow | apply Pick.there)); first | done | fail)) | (show Pick _ (boxR _ _ _ _ _) _; (first | ((repeat (first | exact Pick.here | apply Pick.there)); done) | exact Pick.box (by ((repeat (first | exact Pick.here | apply Pick.there)); first | done | fail)) (by ((repeat (first | exact Pick.here | exact Pick.blkRow | exact Pick.nilRow | apply Pick.there)); first | done | fail)) | fail)) | ((repeat (first | exact Pick.here | apply Pick.there)); first | done | fail)) :
    AS P x E L (.call ⟨.value y, as.toArray, ts⟩) ty (fun v L3 => (v = .bool true ∧ L3 = pt :: L') ∨ (v = .bool false ∧ L3 = pf :: L')) := by
  refine ⟨fun a w dst pos aft g next Q hE hS hn => ?_⟩
  obtain ⟨f, tmps, assign, body, h1, h2⟩ := hY L' w (hS.pick hp)
  refine .inr ⟨l, f, tmps, assign, body, w, ?_, RoundIn.mono h2 ?_⟩
  · simp only [execOp, resolve, hE.ev hy, yv, Deferred.ofValue]
    simp [invoke, hE.evs ha]
    simpa using h1
  · rintro e w' (⟨rfl, h⟩ | ⟨rfl, h⟩)
    · exact ⟨_, rfl, hn _ _ _ (.inl ⟨rfl, rfl⟩) h⟩
    · exact ⟨_, rfl, hn _ _ _ (.inr ⟨rfl, rfl⟩) h⟩
theorem iends {w0 : World} {O : Nat → Prop} {p : HP} {px : Nat → HP} (hL : Ent L [p]) : ∀ w, SAT w0 O L w → IEnds w0 O p px (.returned v) w := fun _ hS => ⟨v, rfl, .inl (hS.ent hL)⟩
theorem iendsX {w0 : World} {O : Nat → Prop} {p : HP} {px : Nat → HP} (k : Nat) (hL : Ent L [px k]) : ∀ w, SAT w0 O L w → IEnds w0 O p px (.returned v) w := fun _ hS => ⟨v, rfl, .inr ⟨k, hS.ent hL⟩⟩

/-! ### rounds -/
def lp (rc : Loop) (st : LoopState) (pe : Option Code) : Obj := .loop { rc with state := st, pending := pe }
/-- How a round must end. -/
def Rr (x : Cx) (l : Nat) (rc : Loop) (fr : HP) (Lm : List HP) (Lx : Code → List HP) (e : Ending) (w' : World) : Prop :=
  (e = .returned (.bool true) ∧ SAT x.w0 x.O (fr :: blk l (lp rc .ready none) :: Lm) w') ∨ (e = .returned (.bool false) ∧ ∃ c, SAT x.w0 x.O (fr :: blk l (lp rc .done (some c)) :: Lx c) w')
@[reducible] def xB (P : Program) (x : Cx) (l : Nat) (rc : Loop) (fr : HP) (Lm : List HP) (Lx : Code → List HP) : Cx :=
  ⟨x.fn, x.n, x.R, x.w0, x.O, some l, [], roundPost P l (Rr x l rc fr Lm Lx), fun _ _ _ _ _ h => h.elim⟩
def asgQ (P : Program) (l : Nat) (body : Code) (Q : Exit → Act → World → Prop) : Exit → Act → World → Prop :=
  Exit.then (fun a w => ∃ w2, (Instr.beginRound l).run P w = .ok () w2 ∧ body.wpIn (fen (some l)) 0 P Q a w2) (fun _ _ _ => False)
@[reducible] def xA (P : Program) (x : Cx) (l : Nat) (rc : Loop) (fr : HP) (Lm : List HP) (Lx : Code → List HP) (body : Code) : Cx :=
  ⟨x.fn, x.n, x.R, x.w0, x.O, some l, [], asgQ P l body (roundPost P l (Rr x l rc fr Lm Lx)), fun _ _ _ _ _ h => h.elim⟩
theorem SAT.putObj {w0 w : World} {O : Nat → Prop} {b : Nat} {o : Obj} (o' : Obj) (h : SAT w0 O (blk b o :: L) w) : SAT w0 O (blk b o' :: L) (w.putObj b o') :=
  h.put rfl rfl rfl World.putObj_size (fun j hj => World.putObj_heap_other hj) (World.putObj_heap_same (Array.getElem?_eq_some_iff.1 h.read).1)
variable {l : Nat} {rc : Loop} {fr : HP} {Lm : List HP} {Lx : Code → List HP} {body : Code}
theorem JK.begin (h : J P (xB P x l rc fr Lm Lx) E (SL.blk l (lp rc .busy none) :: L') body []) (hp : Pick L (SL.blk l (lp rc .ready none)) L' := by first | (show Pick _ (row _ _ _ _) _; ((repeat (first | exact Pick.here | exact Pick.blkRow | exact Pick.nilRow | apply Pick.there)); first | done | fail)) | (show Pick _ (boxR _ _ _ _ _) _; (first | ((repeat (first | exact Pick.here | apply Pick.there)); done) | exact Pick.box (by ((repeat (first | exact Pick.here | apply Pick.there)); first | done | fail)) (by ((repeat (first | exact Pick.here | exact Pick.blkRow | exact Pick.nilRow | apply Pick.there)); first | done | fail)) | fail)) | ((repeat (first | exact Pick.here | apply Pick.there)); first | done | fail)) : JK P (xA P x l rc fr Lm Lx body) E L [] := ⟨fun a w hE hS => by
  have hS' := hS.pick hp
  exact ⟨_, run_beginRound (r := { rc with state := .ready, pending := none }) hS'.read rfl, h.h a _ ⟨hE.size, hE.defers, hE.get⟩ (hS'.putObj _)⟩⟩
theorem sepL_two {p q : HP} {h : PH} (hh : sepL (p :: q :: L) h) : sepL (q :: p :: L) h := sepL_swap hh
theorem JK.more (h : Ent L (fr :: SL.blk l (lp rc .busy none) :: Lm)) : JK P (xB P x l rc fr Lm Lx) E L [] := ⟨fun a w hE hS => by
  have hS' := (hS.ent h).perm (fun _ => sepL_two)
  refine ⟨_, _, run_endRound none hS'.read, .inl ⟨rfl, ?_⟩⟩
  exact (hS'.putObj _).perm (fun _ => sepL_two)⟩
theorem post_up {e : Exit} {a : Act} {w : World} (he : e = .ret ∨ ∃ c, e = .panic c) : ∀ {k : List Fr}, x.Q0 e a w → post P x k e a w
  | [], h => h
  | .code _ :: k, h => by rcases he with rfl | ⟨c, rfl⟩ <;> exact post_up (k := k) (by simp) h
  | .loop _ :: k, h => by rcases he with rfl | ⟨c, rfl⟩ <;> exact post_up (k := k) (by simp) h
  | .blk _ :: k, h => by rcases he with rfl | ⟨c, rfl⟩ <;> exact post_up (k := k) (by simp) h
theorem post_out {id : Nat} {a : Act} {w : World} : ∀ {k : List Fr}, popTo id k = none → x.Q0 (.exit id) a w → post P x k (.exit id) a w
  | [], _, h => h
  | .code c :: k, h, hp => post_out (k := k) h hp
  | .loop c :: k, h, hp => post_out (k := k) h hp
  | .blk i :: k, h, hp => by
    show (if id = i then post P x k .normal a w else post P x k (.exit id) a w)
    simp only [popTo] at h
    split at h
    · cases h
    · rename_i hb
      rw [if_neg (fun e => by subst e; rw [Nat.beq_refl] at hb; cases hb)]
      exact post_out (k := k) h hp
theorem stopR (jump : Code) (h : Ent L (fr :: blk l (lp rc .busy none) :: Lx jump)) {w : World} (hS : SAT x.w0 x.O L w) : ∃ v w', (Instr.endRound l (some jump)).run P w = .ok v w' ∧ Rr x l rc fr Lm Lx (.returned v) w' := by
  have hS' := (hS.ent h).perm (fun _ => sepL_two)
  refine ⟨_, _, run_endRound (some jump) hS'.read, .inr ⟨rfl, jump, ?_⟩⟩
  exact (hS'.putObj _).perm (fun _ => sepL_two)
theorem J.retR (h : Ent L (fr :: blk l (lp rc .busy none) :: Lx .ret)) : J P (xB P x l rc fr Lm Lx) E L .ret k := ⟨fun a w hE hS => wpIn_ret (post_ret (stopR (P := P) (Lm := Lm) (x := x) .ret h hS))⟩
theorem J.brk {id : Nat} (h : Ent L (fr :: blk l (lp rc .busy none) :: Lx (.exit id))) (hk : popTo id k = none := by rfl) : J P (xB P x l rc fr Lm Lx) E L (.exit id) k := ⟨fun a w hE hS => wpIn_exit (post_out hk (stopR (P := P) (Lm := Lm) (x := x) (.exit id) h hS))⟩

/-- What cannot be. -/
def noR : HP := fun _ => False
theorem J.no {c : Code} (hp : Pick L noR L' := by ((repeat (first | exact Pick.here | apply Pick.there)); first | done | fail)) : J P x E L c k := ⟨fun a w hE hS => by
  obtain ⟨_, _, _, _, _, _, _, _, h, _⟩ := hS.pick hp
  exact h.elim⟩
/-! ### the statement -/
def putL : List Nat → List Value → List (Nat × Value) → List (Nat × Value)
  | p :: ps, v :: vs, E => putL ps vs ((p, v) :: E)
  | _, _, E => E
def allLt (n : Nat) : List Nat → Bool
  | [] => true
  | p :: ps => match Nat.blt p n with
    | true => allLt n ps
    | false => false
theorem putL_ok {n : Nat} {ds ds' : List Nat} {df : List Deferred} (hd : df = markL ds') : ∀ (ps : List Nat) (vs : List Value) (E : List (Nat × Value)) (a : Act), EnvOK n ds E a → allLt n ps = true →
    EnvOK n ds' (putL ps vs E) { tmps := (ps.zip vs).foldl (fun t (p, v) => t.setIfInBounds p v) a.tmps, defers := df }
  | [], vs, E, a, h, _ => by cases vs <;> exact ⟨h.size, hd, h.get⟩
  | p :: ps, [], E, a, h, _ => ⟨h.size, hd, h.get⟩
  | p :: ps, v :: vs, E, a, h, hl => by
    simp only [allLt] at hl
    split at hl
    · rename_i hb
      have := EnvOK.put (d := some p) (v := v) h hb
      exact putL_ok hd ps vs _ _ this hl
    · cases hl
theorem post_ds {D : Nat} : ∀ {k : List Fr} {e : Exit} {a : Act} {w : World}, post P ⟨x.fn, x.n, x.R, x.w0, x.O, x.ro, D :: x.ds, x.Q0, x.pan⟩ k e a w ↔ post P x k e a w := by
  intro k
  have : post P ⟨x.fn, x.n, x.R, x.w0, x.O, x.ro, D :: x.ds, x.Q0, x.pan⟩ k = post P x k := by
    induction k with
    | nil => rfl
    | cons f k ih => cases f <;> simp only [post, ih]
  intro e a w
  rw [this]
@[reducible] def xD (x : Cx) (D : Nat) : Cx := ⟨x.fn, x.n, x.R, x.w0, x.O, x.ro, D :: x.ds, x.Q0, x.pan⟩
def dfr : Obj := .deferred (some [])
theorem J.range {g : Operand} {ps : List Nat} {assign body : Code} {gf : FuncId} {lb : List Value} {Rs : List (World → Prop)} {xs : List (List Value)} [hF : FnB P gf] (L' : Nat → List HP) (Lx : Nat → Code → List HP)
    (hI : IterSpec P gf lb Rs xs) (hRs : ∀ k, RdAll x.w0 x.O (L' k) Rs) (hxs : ∀ a ∈ xs, a.length = ps.length)
    (hbody : ∀ l rc fr k a, xs[k]? = some a → J P (xA P x l rc fr (L' (k + 1)) (Lx k) body) (putL ps a E) (fr :: blk l (lp rc .ready none) :: L' k) assign [])
    (hdone : ∀ D, JK P (xD x D) E (blk D dfr :: L' xs.length) k) (hstop : ∀ D j c, J P (xD x D) E (blk D dfr :: Lx j c) c k)
    (hg : ev E g = some (.func (.func gf) #[] lb.toArray) := by rfl) (hL : Ent L (L' 0) := by ((repeat (first | exact Ent.nil | refine Ent.rowL ?_ | refine Ent.boxL ?_ | refine Ent.box2L ?_ | refine Ent.blkS ?_ | refine Ent.any ?_ | with_reducible exact Ent.refl)); first | done | fail)) (hro : x.ro = none := by rfl) (hps : allLt x.n ps = true := by rfl) : J P x E L (.rangeFunc g ps.toArray assign body) k := by
  refine ⟨fun a w hE hS => ?_⟩
  rw [hro, fen_none]
  refine wpIn_rangeFunc ?_
  intro fn hfn
  obtain ⟨rc, hrc⟩ : ∃ rc : Loop, rc = { state := .ready, pending := none, fn, tmps := a.tmps, params := ps.toArray, assign, body, defers := w.heap.size } := ⟨_, rfl⟩
  obtain ⟨D, hD⟩ : ∃ D, D = w.heap.size := ⟨_, rfl⟩
  obtain ⟨l, hl⟩ : ∃ l, l = w.heap.size + 1 := ⟨_, rfl⟩
  obtain ⟨W1, hW1⟩ : ∃ W1, W1 = (w.alloc dfr).alloc (lp rc .ready none) := ⟨_, rfl⟩
  have hS1 : SAT x.w0 x.O (blk l (lp rc .ready none) :: blk D dfr :: L' 0) W1 := by
    have := ((hS.ent hL).alloc dfr).alloc (lp rc .ready none)
    rw [World.size_alloc] at this
    rw [hW1, hl, hD]
    exact this
  have hlen : ∀ {j : Nat} {b : List Value}, xs[j]? = some b → b.length = ps.length := fun h => hxs _ (List.mem_of_getElem? h)
  refine ⟨l, [{ target := .collected D, args := #[] }], W1, { target := .fn (.func gf) lb.toArray, args := #[yv l] }, W1, gf, (yv l :: lb).toArray, W1, ?_, ?_, fun _ _ => trivial, ?_, (fun h => (by cases h)), ?_⟩
  · rw [show Fence.wide.round = none from rfl, hW1, hl, hD]
    have := run_enterLoop_outer (P := P) (w := w) fn a.tmps ps.toArray assign body
    rw [this, hrc]
    rfl
  · have h0 := hE.ev hg
    simp only [resolve, h0, Deferred.ofValue]
    simp [yv, Act.eval]
  · have := hF.h (yv l :: lb).toArray W1
    simp only [invoke]
    simpa using this
  · have hx : ∀ j, RdAll x.w0 x.O [SL.grp (blk D dfr :: blk l (lp rc .ready none) :: L' j)] Rs := fun j => ⟨fun R hR => ⟨fun W hW => by
      have h1 := SAT.ungrp (L2 := []) hW
      rw [List.append_nil] at h1
      exact ((hRs j).h R hR).h W (SAT.drop (L1 := [blk D dfr, blk l (lp rc .ready none)]) h1)⟩⟩
    have hcall := hI.h x.w0 x.O l (fun j => SL.grp (blk D dfr :: blk l (lp rc .ready none) :: L' j)) (fun j => exR fun c => blk D dfr :: blk l (lp rc .done (some c)) :: Lx j c) hx ?_ W1 (SAT.grp (L2 := []) (by rw [List.append_nil]; exact hS1.perm (fun _ => sepL_two)))
    · refine callsIn_wide.2 (hcall.mono ?_)
      have hds : ({ target := Target.collected D, args := #[] } : Deferred) :: a.defers = markL (D :: x.ds) := by rw [hE.defers]; rfl
      have hE' : EnvOK x.n (D :: x.ds) E { a with defers := [{ target := Target.collected D, args := #[] }] ++ a.defers } := ⟨hE.size, hds, hE.get⟩
      rintro e W2 ⟨v, rfl, (h1 | ⟨j, h1⟩)⟩
      · have h2 := SAT.ungrp (L2 := []) h1
        rw [List.append_nil] at h2
        have h3 := h2.perm (fun _ => sepL_two)
        refine ⟨none, _, run_endLoop h3.read (by simp), ?_⟩
        exact post_ds.1 ((hdone D).h _ _ hE' (SAT.drop (L1 := [blk l (.loop { rc with state := .exhausted, pending := none })]) (h3.putObj _)))
      · obtain ⟨c, h2⟩ := h1.ex
        rw [List.append_nil] at h2
        have h3 := h2.perm (fun _ => sepL_two)
        refine ⟨some c, _, run_endLoop h3.read (by simp), ?_⟩
        have := (hstop D j c).h _ _ hE' (SAT.drop (L1 := [blk l (.loop { rc with state := .exhausted, pending := some c })]) (h3.putObj _))
        rw [show fen (xD x D).ro = Fence.wide from by rw [show (xD x D).ro = x.ro from rfl, hro]; rfl] at this
        exact wpIn_mono this fun e a w h => post_ds.1 h
    · -- a round
      intro j b hb F W hW
      have h1 := hW.ungrp
      have h2 : SAT x.w0 x.O (blk l (lp rc .ready none) :: blk D dfr :: (L' j ++ F)) W := h1.perm (fun _ => sepL_two)
      have hy := run_yield (P := P) (args := b.toArray) h2.read (by rw [hrc]; simpa using hlen hb)
      have hz : (({ rc with state := .ready, pending := none } : Loop).params.zip b.toArray).foldl (fun tmps (t, a) => tmps.setIfInBounds t a) ({ rc with state := .ready, pending := none } : Loop).tmps = (ps.zip b).foldl (fun t (p, v) => t.setIfInBounds p v) a.tmps := by
        rw [hrc]
        simp
      rw [hz] at hy
      refine ⟨fn, (ps.zip b).foldl (fun t (p, v) => t.setIfInBounds p v) a.tmps, assign, body, ?_, roundIn_of_wpIn (F := Fence.wide) trivial ?_⟩
      · rw [hy, hrc]
      have hpre := (hbody l rc (SL.grp (blk D dfr :: F)) j b hb).h
      have hEr := putL_ok (df := []) (ds' := []) rfl ps b E a hE hps
      have hSr : SAT x.w0 x.O (SL.grp (blk D dfr :: F) :: blk l (lp rc .ready none) :: L' j) W := by
        refine SAT.grp (h2.perm fun g hg => ?_)
        have e1 : sepL ((blk D dfr :: blk l (lp rc .ready none) :: L' j) ++ F) g := sepL_two hg
        obtain ⟨g1, g2, d, rfl, p1, p2⟩ := sepL_append.1 e1
        obtain ⟨g3, g4, d', rfl, q1, q2⟩ := p1
        have d1 := disj_comm d
        obtain ⟨da, db⟩ := disj_join.1 d1
        refine sepL_append.2 ⟨PH.join g3 g2, g4, ?_, ?_, ⟨g3, g2, disj_comm da, rfl, q1, p2⟩, q2⟩
        · exact disj_comm (disj_join.2 ⟨disj_comm d', disj_comm db⟩)
        · rw [join_assoc, join_assoc, join_comm db]
      have hgo := hpre _ W hEr hSr
      refine wpIn_mono hgo ?_
      intro e a1 w1 h
      cases e with
      | normal =>
        obtain ⟨w2, hw2, hb2⟩ := h
        refine ⟨w2, hw2, wpIn_mono hb2 ?_⟩
        have key : ∀ v w', Rr x l rc (SL.grp (blk D dfr :: F)) (L' (j + 1)) (Lx j) (.returned v) w' →
            ((Ending.returned v = .returned (.bool true) ∧ SAT x.w0 x.O (SL.grp (blk D dfr :: blk l (lp rc .ready none) :: L' (j + 1)) :: F) w') ∨ (Ending.returned v = .returned (.bool false) ∧ SAT x.w0 x.O ((exR fun c => blk D dfr :: blk l (lp rc .done (some c)) :: Lx j c) :: F) w')) := by
          have mv : ∀ (o : Obj) (M : List HP) w', SAT x.w0 x.O (SL.grp (blk D dfr :: F) :: blk l o :: M) w' → SAT x.w0 x.O ((blk D dfr :: blk l o :: M) ++ F) w' := by
            intro o M w' h
            refine h.ungrp.perm fun g hg => ?_
            obtain ⟨g1, g2, d, rfl, ⟨g3, g4, d', rfl, q1, q2⟩, p2⟩ := sepL_append.1 hg
            have d1 := disj_comm d
            obtain ⟨da, db⟩ := disj_join.1 d1
            refine sepL_append.2 ⟨PH.join g3 g2, g4, ?_, ?_, ⟨g3, g2, disj_comm da, rfl, q1, p2⟩, q2⟩
            · exact disj_comm (disj_join.2 ⟨disj_comm d', disj_comm db⟩)
            · rw [join_assoc, join_assoc, join_comm db]
          rintro v w' (⟨h1, h2⟩ | ⟨h1, c, h2⟩)
          · exact .inl ⟨h1, SAT.grp (mv _ _ _ h2)⟩
          · exact .inr ⟨h1, SAT.inEx c (mv _ _ _ h2)⟩
        intro e2 a2 w3 h3
        cases e2 with
        | normal => obtain ⟨v, w', h4, h5⟩ := h3; exact ⟨v, w', h4, key _ _ h5⟩
        | ret => obtain ⟨v, w', h4, h5⟩ := h3; exact ⟨v, w', h4, key _ _ h5⟩
        | exit id => obtain ⟨v, w', h4, h5⟩ := h3; exact ⟨v, w', h4, key _ _ h5⟩
        | goto t => obtain ⟨v, w', h4, h5⟩ := h3; exact ⟨v, w', h4, key _ _ h5⟩
        | panic c => exact h3.elim
        | outgrown => exact h3.elim
      | exit id => exact h.elim
      | goto t => exact h.elim
      | ret => exact h.elim
      | panic c => exact h.elim
      | outgrown => exact h.elim

/-! ### leaving with marks -/
theorem bodyM_pan {fn : Func} {R : Ending → World → Prop} (c : List PanicEntry) (a : Act) (w : World) (d : Option Tmp) (u : Value) (h : (fun e (a : Act) w => match e with | .panic _ => False | _ => bodyPostM Fence.wide 0 P fn R e a w : Exit → Act → World → Prop) (.panic c) (Act.put a d u) w) : (fun e (a : Act) w => match e with | .panic _ => False | _ => bodyPostM Fence.wide 0 P fn R e a w : Exit → Act → World → Prop) (.panic c) a w := h
def bpM (P : Program) (fn : Func) (R : Ending → World → Prop) : Exit → Act → World → Prop := fun e a w => match e with | .panic _ => False | _ => bodyPostM Fence.wide 0 P fn R e a w
theorem bpM_pan {fn : Func} {R : Ending → World → Prop} (c : List PanicEntry) (a : Act) (w : World) (d : Option Tmp) (u : Value) (h : bpM P fn R (.panic c) (Act.put a d u) w) : bpM P fn R (.panic c) a w := h
theorem Spec.mkM {f : FuncId} {fn : Func} {c : Code} {args : List Value} {Rs : List (World → Prop)} {Lin : List HP} {X : Type} {ret : X → Value} {Lo : X → List HP} {po : X → Prop} {n : Nat}
    (hf : P.funcs[f]? = some fn) (hb : fn.body = some c) (hn : fn.ntmps = n) (hl : Nat.ble args.length n = true)
    (h : ∀ w0 O, (∀ R ∈ Rs, Rd w0 O [] R) → SAT w0 O Lin w0 → J P ⟨fn, n, Ends w0 O ret Lo po, w0, O, none, [], bpM P fn (Ends w0 O ret Lo po), bpM_pan⟩ (argE 0 args) Lin c []) : Spec P f args Rs Lin ret Lo po := by
  intro w0 O hR hS
  refine callsIn_wide.1 (callsIn_of_wp_marks (F := Fence.wide) (n := 0) hf hb trivial (wpIn_mono ((h w0 O hR hS).h _ w0 ⟨?_, rfl, ?_⟩ hS) ?_))
  · have := Nat.le_of_ble_eq_true hl
    simp [hn]
    omega
  · intro t v hv
    obtain ⟨_, h2⟩ := argE_get 0 args t v hv
    simp only [Nat.sub_zero] at h2
    have hlt := (List.getElem?_eq_some_iff.1 h2).1
    have := (List.getElem?_eq_some_iff.1 h2).2
    show (args.toArray ++ Array.replicate (fn.ntmps - args.toArray.size) undef).getD t undef = v
    rw [Array.getD_eq_getD_getElem?, Array.getElem?_append_left (by simpa using hlt)]
    simp [hlt, this]
  · intro e a w h
    cases e <;> first | exact h | exact h.elim
/-- The marks' blocks among the resources. -/
structure MarksIn (ds : List Nat) (L L' : List HP) : Prop where
  h : ∀ w0 O w, SAT w0 O L w → ∀ (R : World → Prop), (∀ w', SAT w0 O L' w' → R w') → ∀ (P : Program) (fn : Func) (tmps : Array Value) (R2 : Ending → World → Prop),
    (∀ w', R w' → LeavesInM Fence.wide 0 P fn tmps R2 [] .returning w') → LeavesInM Fence.wide 0 P fn tmps R2 (markL ds) .returning w
theorem MarksIn.nil : MarksIn [] L L := ⟨fun _ _ _ hS _ hR _ _ _ _ h => h _ (hR _ hS)⟩
theorem MarksIn.cons {D : Nat} {ds : List Nat} (hp : Pick L (blk D dfr) L1) (h : MarksIn ds L1 L2) : MarksIn (D :: ds) L L2 := ⟨fun w0 O w hS R hR P fn tmps R2 hl => by
  have hS' := hS.pick hp
  refine ⟨by simp, .inl ⟨D, _, rfl, run_takeDeferred hS'.read, ?_⟩⟩
  exact h.h w0 O _ (SAT.drop (L1 := [blk D (.deferred none)]) (hS'.putObj _)) R hR P fn tmps R2 hl⟩
theorem leavesM {ds : List Nat} {fn : Func} {a : Act} {w : World} {R : Ending → World → Prop} {v : Value} {w0 : World} {O : Nat → Prop} {n : Nat} (hE : EnvOK n ds E a) (hS : SAT w0 O L w) (hm : MarksIn ds L L1)
    (h : ∀ w', SAT w0 O L1 w' → (results fn a.tmps).run P w' = .ok v w' ∧ R (.returned v) w') : LeavesInM Fence.wide 0 P fn a.tmps R a.defers .returning w := by
  rw [hE.defers]
  exact hm.h w0 O w hS (fun w' => (results fn a.tmps).run P w' = .ok v w' ∧ R (.returned v) w') h P fn a.tmps R fun w' h => ⟨v, h.1, h.2⟩
theorem J.retM {rs : List ResultVar} {vs : List Value} {ds : List Nat} (h : ∀ w, SAT x.w0 x.O L1 w → x.R (.returned (tup vs)) w) (hds : x.ds = ds := by rfl) (hm : MarksIn ds L L1 := by first | exact MarksIn.nil | exact MarksIn.cons (by first | (show Pick _ (row _ _ _ _) _; ((repeat (first | exact Pick.here | exact Pick.blkRow | exact Pick.nilRow | apply Pick.there)); first | done | fail)) | (show Pick _ (boxR _ _ _ _ _) _; (first | ((repeat (first | exact Pick.here | apply Pick.there)); done) | exact Pick.box (by ((repeat (first | exact Pick.here | apply Pick.there)); first | done | fail)) (by ((repeat (first | exact Pick.here | exact Pick.blkRow | exact Pick.nilRow | apply Pick.there)); first | done | fail)) | fail)) | ((repeat (first | exact Pick.here | apply Pick.there)); first | done | fail)) MarksIn.nil | exact MarksIn.cons (by first | (show Pick _ (row _ _ _ _) _; ((repeat (first | exact Pick.here | exact Pick.blkRow | exact Pick.nilRow | apply Pick.there)); first | done | fail)) | (show Pick _ (boxR _ _ _ _ _) _; (first | ((repeat (first | exact Pick.here | apply Pick.there)); done) | exact Pick.box (by ((repeat (first | exact Pick.here | apply Pick.there)); first | done | fail)) (by ((repeat (first | exact Pick.here | exact Pick.blkRow | exact Pick.nilRow | apply Pick.there)); first | done | fail)) | fail)) | ((repeat (first | exact Pick.here | apply Pick.there)); first | done | fail)) (MarksIn.cons (by first | (show Pick _ (row _ _ _ _) _; ((repeat (first | exact Pick.here | exact Pick.blkRow | exact Pick.nilRow | apply Pick.there)); first | done | fail)) | (show Pick _ (boxR _ _ _ _ _) _; (first | ((repeat (first | exact Pick.here | apply Pick.there)); done) | exact Pick.box (by ((repeat (first | exact Pick.here | apply Pick.there)); first | done | fail)) (by ((repeat (first | exact Pick.here | exact Pick.blkRow | exact Pick.nilRow | apply Pick.there)); first | done | fail)) | fail)) | ((repeat (first | exact Pick.here | apply Pick.there)); first | done | fail)) MarksIn.nil) | exact MarksIn.cons (by first | (show Pick _ (row _ _ _ _) _; ((repeat (first | exact Pick.here | exact Pick.blkRow | exact Pick.nilRow | apply Pick.there)); first | done | fail)) | (show Pick _ (boxR _ _ _ _ _) _; (first | ((repeat (first | exact Pick.here | apply Pick.there)); done) | exact Pick.box (by ((repeat (first | exact Pick.here | apply Pick.there)); first | done | fail)) (by ((repeat (first | exact Pick.here | exact Pick.blkRow | exact Pick.nilRow | apply Pick.there)); first | done | fail)) | fail)) | ((repeat (first | exact Pick.here | apply Pick.there)); first | done | fail)) (MarksIn.cons (by first | (show Pick _ (row _ _ _ _) _; ((repeat (first | exact Pick.here | exact Pick.blkRow | exact Pick.nilRow | apply Pick.there)); first | done | fail)) | (show Pick _ (boxR _ _ _ _ _) _; (first | ((repeat (first | exact Pick.here | apply Pick.there)); done) | exact Pick.box (by ((repeat (first | exact Pick.here | apply Pick.there)); first | done | fail)) (by ((repeat (first | exact Pick.here | exact Pick.blkRow | exact Pick.nilRow | apply Pick.there)); first | done | fail)) | fail)) | ((repeat (first | exact Pick.here | apply Pick.there)); first | done | fail)) (MarksIn.cons (by first | (show Pick _ (row _ _ _ _) _; ((repeat (first | exact Pick.here | exact Pick.blkRow | exact Pick.nilRow | apply Pick.there)); first | done | fail)) | (show Pick _ (boxR _ _ _ _ _) _; (first | ((repeat (first | exact Pick.here | apply Pick.there)); done) | exact Pick.box (by ((repeat (first | exact Pick.here | apply Pick.there)); first | done | fail)) (by ((repeat (first | exact Pick.here | exact Pick.blkRow | exact Pick.nilRow | apply Pick.there)); first | done | fail)) | fail)) | ((repeat (first | exact Pick.here | apply Pick.there)); first | done | fail)) MarksIn.nil)) | fail) (hf : x.fn.results = rs.toArray := by rfl) (hv : resV E rs = some vs := by rfl) (hq : x.Q0 = bpM P x.fn x.R := by rfl) : J P x E L .ret k := ⟨fun a w hE hS =>
  wpIn_ret (post_ret (by rw [hq]; exact leavesM (hds ▸ hE) hS hm fun w' hS' => ⟨results_run hf hE hv, h w' hS'⟩))⟩
theorem JK.finM {rs : List ResultVar} {vs : List Value} {ds : List Nat} (h : ∀ w, SAT x.w0 x.O L1 w → x.R (.returned (tup vs)) w) (hds : x.ds = ds := by rfl) (hm : MarksIn ds L L1 := by first | exact MarksIn.nil | exact MarksIn.cons (by first | (show Pick _ (row _ _ _ _) _; ((repeat (first | exact Pick.here | exact Pick.blkRow | exact Pick.nilRow | apply Pick.there)); first | done | fail)) | (show Pick _ (boxR _ _ _ _ _) _; (first | ((repeat (first | exact Pick.here | apply Pick.there)); done) | exact Pick.box (by ((repeat (first | exact Pick.here | apply Pick.there)); first | done | fail)) (by ((repeat (first | exact Pick.here | exact Pick.blkRow | exact Pick.nilRow | apply Pick.there)); first | done | fail)) | fail)) | ((repeat (first | exact Pick.here | apply Pick.there)); first | done | fail)) MarksIn.nil | exact MarksIn.cons (by first | (show Pick _ (row _ _ _ _) _; ((repeat (first | exact Pick.here | exact Pick.blkRow | exact Pick.nilRow | apply Pick.there)); first | done | fail)) | (show Pick _ (boxR _ _ _ _ _) _; (first | ((repeat (first | exact Pick.here | apply Pick.there)); done) | exact Pick.box (by ((repeat (first | exact Pick.here | apply Pick.there)); first | done | fail)) (by ((repeat (first | exact Pick.here | exact Pick.blkRow | exact Pick.nilRow | apply Pick.there)); first | done | fail)) | fail)) | ((repeat (first | exact Pick.here | apply Pick.there)); first | done | fail)) (MarksIn.cons (by first | (show Pick _ (row _ _ _ _) _; ((repeat (first | exact Pick.here | exact Pick.blkRow | exact Pick.nilRow | apply Pick.there)); first | done | fail)) | (show Pick _ (boxR _ _ _ _ _) _; (first | ((repeat (first | exact Pick.here | apply Pick.there)); done) | exact Pick.box (by ((repeat (first | exact Pick.here | apply Pick.there)); first | done | fail)) (by ((repeat (first | exact Pick.here | exact Pick.blkRow | exact Pick.nilRow | apply Pick.there)); first | done | fail)) | fail)) | ((repeat (first | exact Pick.here | apply Pick.there)); first | done | fail)) MarksIn.nil) | exact MarksIn.cons (by first | (show Pick _ (row _ _ _ _) _; ((repeat (first | exact Pick.here | exact Pick.blkRow | exact Pick.nilRow | apply Pick.there)); first | done | fail)) | (show Pick _ (boxR _ _ _ _ _) _; (first | ((repeat (first | exact Pick.here | apply Pick.there)); done) | exact Pick.box (by ((repeat (first | exact Pick.here | apply Pick.there)); first | done | fail)) (by ((repeat (first | exact Pick.here | exact Pick.blkRow | exact Pick.nilRow | apply Pick.there)); first | done | fail)) | fail)) | ((repeat (first | exact Pick.here | apply Pick.there)); first | done | fail)) (MarksIn.cons (by first | (show Pick _ (row _ _ _ _) _; ((repeat (first | exact Pick.here | exact Pick.blkRow | exact Pick.nilRow | apply Pick.there)); first | done | fail)) | (show Pick _ (boxR _ _ _ _ _) _; (first | ((repeat (first | exact Pick.here | apply Pick.there)); done) | exact Pick.box (by ((repeat (first | exact Pick.here | apply Pick.there)); first | done | fail)) (by ((repeat (first | exact Pick.here | exact Pick.blkRow | exact Pick.nilRow | apply Pick.there)); first | done | fail)) | fail)) | ((repeat (first | exact Pick.here | apply Pick.there)); first | done | fail)) (MarksIn.cons (by first | (show Pick _ (row _ _ _ _) _; ((repeat (first | exact Pick.here | exact Pick.blkRow | exact Pick.nilRow | apply Pick.there)); first | done | fail)) | (show Pick _ (boxR _ _ _ _ _) _; (first | ((repeat (first | exact Pick.here | apply Pick.there)); done) | exact Pick.box (by ((repeat (first | exact Pick.here | apply Pick.there)); first | done | fail)) (by ((repeat (first | exact Pick.here | exact Pick.blkRow | exact Pick.nilRow | apply Pick.there)); first | done | fail)) | fail)) | ((repeat (first | exact Pick.here | apply Pick.there)); first | done | fail)) MarksIn.nil)) | fail) (hf : x.fn.results = rs.toArray := by rfl) (hv : resV E rs = some vs := by rfl) (hq : x.Q0 = bpM P x.fn x.R := by rfl) : JK P x E L [] := ⟨fun a w hE hS => by
  show x.Q0 .normal _ w
  rw [hq]
  exact leavesM (hds ▸ hE) hS hm fun w' hS' => ⟨results_run hf hE hv, h w' hS'⟩⟩
theorem J.retCM {cc : Tmp} {rt : TypeId} {b f : Nat} {vs : List Value} {cs : Array Value} {T : TypeId} {sz bt : Nat} {zv : Value} {ds : List Nat} (h : ∀ w, SAT x.w0 x.O L1 w → x.R (.returned (.agg vs.toArray)) w) (hds : x.ds = ds := by rfl) (hm : MarksIn ds L L1 := by first | exact MarksIn.nil | exact MarksIn.cons (by first | (show Pick _ (row _ _ _ _) _; ((repeat (first | exact Pick.here | exact Pick.blkRow | exact Pick.nilRow | apply Pick.there)); first | done | fail)) | (show Pick _ (boxR _ _ _ _ _) _; (first | ((repeat (first | exact Pick.here | apply Pick.there)); done) | exact Pick.box (by ((repeat (first | exact Pick.here | apply Pick.there)); first | done | fail)) (by ((repeat (first | exact Pick.here | exact Pick.blkRow | exact Pick.nilRow | apply Pick.there)); first | done | fail)) | fail)) | ((repeat (first | exact Pick.here | apply Pick.there)); first | done | fail)) MarksIn.nil | exact MarksIn.cons (by first | (show Pick _ (row _ _ _ _) _; ((repeat (first | exact Pick.here | exact Pick.blkRow | exact Pick.nilRow | apply Pick.there)); first | done | fail)) | (show Pick _ (boxR _ _ _ _ _) _; (first | ((repeat (first | exact Pick.here | apply Pick.there)); done) | exact Pick.box (by ((repeat (first | exact Pick.here | apply Pick.there)); first | done | fail)) (by ((repeat (first | exact Pick.here | exact Pick.blkRow | exact Pick.nilRow | apply Pick.there)); first | done | fail)) | fail)) | ((repeat (first | exact Pick.here | apply Pick.there)); first | done | fail)) (MarksIn.cons (by first | (show Pick _ (row _ _ _ _) _; ((repeat (first | exact Pick.here | exact Pick.blkRow | exact Pick.nilRow | apply Pick.there)); first | done | fail)) | (show Pick _ (boxR _ _ _ _ _) _; (first | ((repeat (first | exact Pick.here | apply Pick.there)); done) | exact Pick.box (by ((repeat (first | exact Pick.here | apply Pick.there)); first | done | fail)) (by ((repeat (first | exact Pick.here | exact Pick.blkRow | exact Pick.nilRow | apply Pick.there)); first | done | fail)) | fail)) | ((repeat (first | exact Pick.here | apply Pick.there)); first | done | fail)) MarksIn.nil) | exact MarksIn.cons (by first | (show Pick _ (row _ _ _ _) _; ((repeat (first | exact Pick.here | exact Pick.blkRow | exact Pick.nilRow | apply Pick.there)); first | done | fail)) | (show Pick _ (boxR _ _ _ _ _) _; (first | ((repeat (first | exact Pick.here | apply Pick.there)); done) | exact Pick.box (by ((repeat (first | exact Pick.here | apply Pick.there)); first | done | fail)) (by ((repeat (first | exact Pick.here | exact Pick.blkRow | exact Pick.nilRow | apply Pick.there)); first | done | fail)) | fail)) | ((repeat (first | exact Pick.here | apply Pick.there)); first | done | fail)) (MarksIn.cons (by first | (show Pick _ (row _ _ _ _) _; ((repeat (first | exact Pick.here | exact Pick.blkRow | exact Pick.nilRow | apply Pick.there)); first | done | fail)) | (show Pick _ (boxR _ _ _ _ _) _; (first | ((repeat (first | exact Pick.here | apply Pick.there)); done) | exact Pick.box (by ((repeat (first | exact Pick.here | apply Pick.there)); first | done | fail)) (by ((repeat (first | exact Pick.here | exact Pick.blkRow | exact Pick.nilRow | apply Pick.there)); first | done | fail)) | fail)) | ((repeat (first | exact Pick.here | apply Pick.there)); first | done | fail)) (MarksIn.cons (by first | (show Pick _ (row _ _ _ _) _; ((repeat (first | exact Pick.here | exact Pick.blkRow | exact Pick.nilRow | apply Pick.there)); first | done | fail)) | (show Pick _ (boxR _ _ _ _ _) _; (first | ((repeat (first | exact Pick.here | apply Pick.there)); done) | exact Pick.box (by ((repeat (first | exact Pick.here | apply Pick.there)); first | done | fail)) (by ((repeat (first | exact Pick.here | exact Pick.blkRow | exact Pick.nilRow | apply Pick.there)); first | done | fail)) | fail)) | ((repeat (first | exact Pick.here | apply Pick.there)); first | done | fail)) MarksIn.nil)) | fail) (hf : x.fn.results = #[.cell cc rt] := by rfl) (hT : Ty P rt true sz bt zv := by infer_instance) (hv : lookup E cc = some (.pointer (some ⟨b, f, none⟩)) := by rfl)
    (hp : Pick L1 (blk b (.cells cs T (0, 0))) L' := by first | (show Pick _ (row _ _ _ _) _; ((repeat (first | exact Pick.here | exact Pick.blkRow | exact Pick.nilRow | apply Pick.there)); first | done | fail)) | (show Pick _ (boxR _ _ _ _ _) _; (first | ((repeat (first | exact Pick.here | apply Pick.there)); done) | exact Pick.box (by ((repeat (first | exact Pick.here | apply Pick.there)); first | done | fail)) (by ((repeat (first | exact Pick.here | exact Pick.blkRow | exact Pick.nilRow | apply Pick.there)); first | done | fail)) | fail)) | ((repeat (first | exact Pick.here | apply Pick.there)); first | done | fail)) (hs : slc cs.toList f sz = vs := by rfl) (hl : Nat.ble (f + sz) cs.toList.length = true := by rfl) (hq : x.Q0 = bpM P x.fn x.R := by rfl) : J P x E L .ret k := ⟨fun a w hE hS =>
  wpIn_ret (post_ret (by rw [hq]; exact leavesM (hds ▸ hE) hS hm fun w' hS' => ⟨resC hf hv hp hs hl hE hS', h w' hS'⟩))⟩
end
end Go.SL
