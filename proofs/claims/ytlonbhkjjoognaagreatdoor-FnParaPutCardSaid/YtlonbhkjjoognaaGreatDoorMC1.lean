/- Parts of the proof (joined by program). -/
import Derived.KernelRfl
import Derived.WalkKit
import Derived.Deep.Draws
import Derived.OrdersHeld
import Derived.StillTail
import Derived.OrdersIn
import Derived.TacticsIn
import Derived.RangeFuncIn
import Derived.Maps.AppendAt
import Derived.Laws.CopyRow
import Derived.Laws.StructEq
import Derived.Laws.Slices
/- Scripts that end small goals, each kept as the default value of a structure. -/
namespace Go.SL
structure APB (p : Prop) : Prop where
  h : p := by first | ((repeat (first | with_reducible apply Pick.here | with_reducible apply Pick.there)); done) | ((repeat (first | apply Pick.here | apply Pick.there)); done) | fail
theorem xPB {p : Prop} (h : autoParam p APB.h._autoParam) : p := h
structure APKR (p : Prop) : Prop where
  h : p := by (repeat (first | with_reducible exact Pick.here | with_reducible apply Pick.there)); first | done | fail
theorem xPKR {p : Prop} (h : autoParam p APKR.h._autoParam) : p := h
structure APKa (p : Prop) : Prop where
  h : p := by first | ((with_reducible apply iRow); ((repeat (first | with_reducible apply Pick.here | ((with_reducible apply Pick.blkRow); (all_goals rfl)) | ((with_reducible apply Pick.u8Row); (all_goals rfl)) | with_reducible apply Pick.nilRow | with_reducible apply Pick.u8Nil | with_reducible apply Pick.there)); first | done | fail)) | ((with_reducible apply iBox); (first | ((repeat (first | with_reducible apply Pick.here | with_reducible apply Pick.there)); done) | exact Pick.box (by ((repeat (first | with_reducible apply Pick.here | with_reducible apply Pick.there)); first | done | fail)) (by ((repeat (first | with_reducible apply Pick.here | ((with_reducible apply Pick.blkRow); (all_goals rfl)) | ((with_reducible apply Pick.u8Row); (all_goals rfl)) | with_reducible apply Pick.nilRow | with_reducible apply Pick.u8Nil | with_reducible apply Pick.there)); first | done | fail)) | fail)) | ((repeat (first | with_reducible apply Pick.here | with_reducible apply Pick.there)); first | done | fail)
theorem xPKa {p : Prop} (h : autoParam p APKa.h._autoParam) : p := h
structure APKb (p : Prop) : Prop where
  h : p := by first | ((with_reducible apply iRow); ((repeat (first | apply Pick.here | ((apply Pick.blkRow); (all_goals rfl)) | ((apply Pick.u8Row); (all_goals rfl)) | apply Pick.nilRow | apply Pick.u8Nil | apply Pick.there)); first | done | fail)) | ((with_reducible apply iBox); (first | ((repeat (first | apply Pick.here | apply Pick.there)); done) | exact Pick.box (by ((repeat (first | apply Pick.here | apply Pick.there)); first | done | fail)) (by ((repeat (first | apply Pick.here | ((apply Pick.blkRow); (all_goals rfl)) | ((apply Pick.u8Row); (all_goals rfl)) | apply Pick.nilRow | apply Pick.u8Nil | apply Pick.there)); first | done | fail)) | fail)) | ((repeat (first | apply Pick.here | apply Pick.there)); first | done | fail)
theorem xPKb {p : Prop} (h : autoParam p APKb.h._autoParam) : p := h
structure APK (p : Prop) : Prop where
  h : p := by first | exact xPKa | exact xPKb | fail
theorem xPK {p : Prop} (h : autoParam p APK.h._autoParam) : p := h
structure ARDa (p : Prop) : Prop where
  h : p := by first | assumption | exact Rd.base (by assumption) | ((with_reducible apply iSlice); exact Rd.slice (by first | assumption | exact Rd.base (by assumption) | exact Rd.row xPKa | exact Rd.sub (by assumption) xPKa | fail)) | exact Rd.row xPKa | exact Rd.sub (by assumption) xPKa | exact Rd.blk xPKa | exact Rd.rdR xPKa | exact Rd.map xPKa | fail
theorem xRDa {p : Prop} (h : autoParam p ARDa.h._autoParam) : p := h
structure ARDb (p : Prop) : Prop where
  h : p := by first | assumption | exact Rd.base (by assumption) | ((with_reducible apply iSlice); exact Rd.slice (by first | assumption | exact Rd.base (by assumption) | exact Rd.row xPKb | exact Rd.sub (by assumption) xPKb | fail)) | exact Rd.row xPKb | exact Rd.sub (by assumption) xPKb | exact Rd.blk xPKb | exact Rd.rdR xPKb | exact Rd.map xPKb | fail
theorem xRDb {p : Prop} (h : autoParam p ARDb.h._autoParam) : p := h
structure ARD (p : Prop) : Prop where
  h : p := by first | exact xRDa | exact xRDb | fail
theorem xRD {p : Prop} (h : autoParam p ARD.h._autoParam) : p := h
structure ABT (p : Prop) : Prop where
  h : p := by first | exact BT.dec | exact BT.beq | exact BT.bne | exact BT.not BT.dec | exact BT.not BT.beq | exact BT.not BT.bne | exact BT.not BT.any | exact BT.any | fail
theorem xBT {p : Prop} (h : autoParam p ABT.h._autoParam) : p := h
structure ABD (p : Prop) : Prop where
  h : p := by first | omega | (simp only [List.length_nil, List.length_cons, List.length_append, List.length_take, List.length_drop, List.length_replicate, List.length_map, List.length_set, List.length_range]; omega) | fail
theorem xBD {p : Prop} (h : autoParam p ABD.h._autoParam) : p := h
structure AONE (p : Prop) : Prop where
  h : p := by first | exact One.lit | exact One.rd xRD | fail
theorem xONE {p : Prop} (h : autoParam p AONE.h._autoParam) : p := h
structure AAOS (p : Prop) : Prop where
  h : p := by first | ((repeat (first | exact AllOne.nil | refine AllOne.cons xONE ?_)); done) | fail
theorem xAOS {p : Prop} (h : autoParam p AAOS.h._autoParam) : p := h
structure APSA (p : Prop) : Prop where
  h : p := by first | ((with_reducible apply iPload); first | exact PS.load | exact PS.loadA | exact PS.loadH | exact PS.loadE | exact PS.loadM | exact PS.loadEA | fail) | ((with_reducible apply iPmove); first | exact PS.move | fail) | ((with_reducible apply iPbinOp); first | exact PS.cmp | exact PS.inc | exact PS.ar | exact PS.arW | exact PS.rem | exact PS.quo | exact PS.xor | exact PS.eqA | exact PS.neA | exact PS.eqS | exact PS.neS | exact PS.eqV | exact PS.neV | exact PS.addV | exact PS.neIf | exact PS.neNil | exact PS.eqIf | exact PS.eqNil | exact PS.eqSN0 | exact PS.eqSN1 | exact PS.neB1 | exact PS.neB | exact PS.eqB1 | exact PS.eqB | exact PS.eqPt0 | exact PS.nePt0 | exact PS.eqPtN | exact PS.nePtN | exact PS.eqPt1 | exact PS.nePt1 | exact PS.nePt2 | exact PS.andM | exact PS.shlM | exact PS.shrM | exact PS.or6 | exact PS.or5 | exact PS.or4 | exact PS.or12 | exact PS.or18 | fail) | ((with_reducible apply iPindexAddr); first | exact PS.index | exact PS.indexZ | exact PS.indexM | exact PS.indexA | fail) | ((with_reducible apply iPindex); first | exact PS.indexV | exact PS.indexVZ | exact PS.indexArr | fail) | ((with_reducible apply iPfieldAddr); first | exact PS.fieldB | exact PS.fieldP | exact PS.fieldE | fail) | ((with_reducible apply iPcall); first | exact PS.len | exact PS.lenV | exact PS.lenS | exact PS.lenA | exact PS.mn | exact PS.mx | fail) | ((with_reducible apply iPunOp); first | exact PS.notT | exact PS.notF | exact PS.not | exact PS.neg | exact PS.negW | fail) | ((with_reducible apply iPassign); first | exact PS.assign | fail) | ((with_reducible apply iPpick); first | exact PS.pickT | exact PS.pickF | fail) | ((with_reducible apply iPextract); first | exact PS.extract | fail) | ((with_reducible apply iPconvert); first | exact PS.convB | exact PS.conv | exact PS.convF | exact PS.convU8 | exact PS.convW | exact PS.text | fail) | ((with_reducible apply iPnilCheck); first | exact PS.nilP | fail) | ((with_reducible apply iPbuild); first | exact PS.build | fail) | ((with_reducible apply iPslice); first | exact PS.sliceHN | exact PS.sliceLN | exact PS.sliceVH | exact PS.sliceVL | exact PS.sliceVLH | exact PS.sliceH | exact PS.sliceL | exact PS.sliceLH | exact PS.slice3 | fail) | ((with_reducible apply iPmakeFunc); first | exact PS.makeFunc | exact PS.makeFuncB | fail) | ((with_reducible apply iPfield); first | exact PS.fieldV | fail) | ((with_reducible apply iPtypeAssert); first | exact PS.tassert | exact PS.tassertY | exact PS.tassertN | fail) | ((with_reducible apply iPmakeInterface); first | exact PS.iface | fail) | ((with_reducible apply iPlookup); first | exact PS.lookupF | exact PS.lookup1 | fail) | fail
theorem xPSA {p : Prop} (h : autoParam p APSA.h._autoParam) : p := h
structure AENT (p : Prop) : Prop where
  h : p := by ((repeat (first | exact Ent.nil | ((with_reducible apply iERow); refine Ent.rowL ?_) | ((with_reducible apply iEBox); first | refine Ent.boxL ?_ | refine Ent.box2L ?_) | ((with_reducible apply iEBlk); refine Ent.blkS ?_) | refine Ent.any ?_ | with_reducible exact Ent.refl)); first | done | fail)
theorem xENT {p : Prop} (h : autoParam p AENT.h._autoParam) : p := h
structure AENTS (p : Prop) : Prop where
  h : p := by ((repeat (first | exact Ent.nil | ((with_reducible apply iERow); refine Ent.rowS ?_) | ((with_reducible apply iEBox); first | refine Ent.boxS ?_ | refine Ent.box2S ?_) | ((with_reducible apply iEBlk); refine Ent.blkS ?_) | refine Ent.any ?_ | with_reducible exact Ent.refl)); first | done | fail)
theorem xENTS {p : Prop} (h : autoParam p AENTS.h._autoParam) : p := h
structure AMK (p : Prop) : Prop where
  h : p := by first | exact MarksIn.nil | exact MarksIn.cons xPK MarksIn.nil | exact MarksIn.cons xPK (MarksIn.cons xPK MarksIn.nil) | exact MarksIn.cons xPK (MarksIn.cons xPK (MarksIn.cons xPK MarksIn.nil)) | fail
theorem xMK {p : Prop} (h : autoParam p AMK.h._autoParam) : p := h
structure AKEEP (p : Prop) : Prop where
  h : p := by first | exact KeepIf.k0 | (apply KeepIf.k3; (repeat (first | with_reducible exact KeepS.nil | with_reducible apply KeepS.skip | with_reducible apply KeepS.skipR | with_reducible apply KeepS.keep)); done) | exact KeepIf.k2 | (apply KeepIf.k1; (repeat (first | exact Keep.nil | apply Keep.blk | apply Keep.row | apply Keep.drop)); done) | fail
theorem xKEEP {p : Prop} (h : autoParam p AKEEP.h._autoParam) : p := h
structure ARES (p : Prop) : Prop where
  h : p := by first | exact ResIn.cell (ResIn.cell ResIn.nil) | exact ResIn.cell ResIn.nil | exact ResIn.tmp (ResIn.cell ResIn.nil) | exact ResIn.cell (ResIn.tmp ResIn.nil) | exact ResIn.cellA (ResIn.tmp ResIn.nil) | exact ResIn.cell (ResIn.cell (ResIn.cell ResIn.nil)) | exact ResIn.cellA ResIn.nil | exact ResIn.cellA (ResIn.tmp (ResIn.tmp ResIn.nil)) | fail
theorem xRES {p : Prop} (h : autoParam p ARES.h._autoParam) : p := h
structure AUN (p : Prop) : Prop where
  h : p := by ((fail_if_success (first | with_reducible exact Und.lt | with_reducible exact Und.lf)); exact Und.mk)
theorem xUN {p : Prop} (h : autoParam p AUN.h._autoParam) : p := h
end Go.SL

/- Operations, lists of them and drawn regions, for activations that may be rounds of a range over a function. -/
set_option linter.unusedVariables false
set_option linter.unusedSimpArgs false
namespace Go.SL
open Go.RowKit
/-- Every function, any depth; the activation is a round of loop ro, if any. -/
def fen (ro : Option Nat) : Fence := { Fence.wide with round := ro }
theorem fen_none : fen none = Fence.wide := rfl
theorem fen_room (ro : Option Nat) (n : Nat) : (fen ro).room n := fun _ h => by cases h
theorem fen_calls {ro : Option Nat} {n : Nat} {P : Program} {f : FuncId} {args : Array Value} {w : World} {R : Ending → World → Prop} (h : Calls P f args w R) : CallsIn (fen ro) n P f args w R := by
  have h' : CallsIn Fence.wide n P f args w R := callsIn_wide.2 h
  exact ⟨trivial, fun cs _ => h'.2 cs (room_wide _)⟩
theorem fen_rows {ro : Option Nat} {n : Nat} {P : Program} {row : String} {args : Array Value} {w : World} {R : Value → World → Prop} (h : Rows P row args w R) : RowsIn (fen ro) n P row args w R := fun c cs _ => by
  obtain ⟨v, w', r, s⟩ := h c cs
  exact ⟨v, w', r, stepsIn_wide.2 s⟩
theorem fen_round {ro : Option Nat} {n : Nat} {P : Program} {l : Nat} {f : FuncId} {tmps : Array Value} {assign body : Code} {w : World} {R : Ending → World → Prop} (h : RoundIn Fence.wide 0 P l f tmps assign body w R) : RoundIn (fen ro) n P l f tmps assign body w R :=
  ⟨trivial, fun c cs _ => h.2 c cs (room_wide _)⟩
section
variable {P : Program} {ops : Array Oper} {Q : Exit → Act → World → Prop} {md : Region.Mode}
/-- An operation runs, a call of a yield value beside. -/
def opW (P : Program) (o : Oper) (a : Act) (w : World) (K : Act → World → Prop) (Q : Exit → Act → World → Prop) : Prop :=
  o.wp P a w K Q ∨ ∃ l f tmps assign body w', (execOp a.eval o).run P w = .ok (.round l f tmps assign body) w' ∧
    RoundIn Fence.wide 0 P l f tmps assign body w' (fun e w'' => ∃ v, e = .returned v ∧ K (a.put o.dst v) w'')
theorem opW_mono {o : Oper} {a : Act} {w : World} {K K' : Act → World → Prop} (hK : ∀ a w, K a w → K' a w) (h : opW P o a w K Q) : opW P o a w K' Q := by
  rcases h with h | ⟨l, f, tmps, assign, body, w', h1, h2⟩
  · exact .inl (Oper.wp_mono hK h)
  · exact .inr ⟨l, f, tmps, assign, body, w', h1, RoundIn.mono h2 fun e w'' ⟨v, h3, h4⟩ => ⟨v, h3, hK _ _ h4⟩⟩
theorem opW_in {ro : Option Nat} {o : Oper} {a : Act} {w : World} {K : Act → World → Prop} (hd : ro = none ∨ ∀ c, o.op ≠ .defer c) (h : opW P o a w K Q) : o.wpIn (fen ro) 0 P a w K Q := by
  refine ⟨fun _ _ => trivial, ?_⟩
  have hs : Oper.semAt (fen ro).round a.eval o = execOp a.eval o := by
    rcases hd with rfl | hd
    · exact Oper.semAt_none _ _
    · exact Oper.semAt_eq _ _ _ hd
  rw [hs]
  rcases h with h | ⟨l, f, tmps, assign, body, w', h1, h2⟩
  · unfold Oper.wp at h
    generalize (execOp a.eval o).run P w = r at *
    cases r with
    | ok x w' =>
      cases x <;> simp only [Oper.upon, Oper.uponIn] at h ⊢ <;> first
        | exact h
        | exact ⟨fun e => (by cases e), fen_calls h⟩
        | exact ⟨fun e => (by cases e), fen_rows h⟩
    | halt x w' => cases x <;> simp only [Oper.upon, Oper.uponIn] at h ⊢ <;> exact h
  · rw [h1]
    refine ⟨fun e => (by cases e), fen_round (RoundIn.mono h2 ?_)⟩
    rintro e w'' ⟨v, rfl, hk⟩
    exact hk
def wpL (P : Program) (ops : Array Oper) (Q : Exit → Act → World → Prop) : List Oper → Act → World → Prop
  | [], a, w => Q .normal a w
  | o :: rest, a, w => if Region.wanted o (yielded ops a.tmps) then opW P o a w (wpL P ops Q rest) Q else wpL P ops Q rest (a.put o.dst undef) w
theorem wpL_in {ro : Option Nat} : ∀ (l : List Oper) (a : Act) (w : World), (ro = none ∨ ∀ o ∈ l, ∀ c, o.op ≠ .defer c) → wpL P ops Q l a w → wpListIn (fen ro) 0 P ops Q l a w
  | [], _, _, _, h => h
  | o :: rest, a, w, hd, h => by
    have hd' : ro = none ∨ ∀ o ∈ rest, ∀ c, o.op ≠ .defer c := hd.imp id fun h o ho => h o (List.mem_cons_of_mem _ ho)
    unfold wpL at h
    unfold wpListIn
    split
    · rename_i hw
      rw [if_pos hw] at h
      exact opW_in (hd.imp id fun h => h o List.mem_cons_self) (opW_mono (fun a w h => wpL_in rest a w hd' h) h)
    · rename_i hw
      rw [if_neg hw] at h
      exact ⟨fun _ _ => trivial, wpL_in rest _ w hd' h⟩
theorem wpL_plain {o : Oper} {rest : List Oper} {a : Act} {w : World} (hg : o.guard = none) (h : opW P o a w (wpL P ops Q rest) Q) : wpL P ops Q (o :: rest) a w := by
  unfold wpL
  rw [if_pos (by simp [Region.wanted, hg])]
  exact h
/-! drawn regions -/
def wpW (P : Program) (ops : Array Oper) (Q : Exit → Act → World → Prop) (i : Nat) (K : Act → World → Prop) (a : Act) (w : World) : Prop :=
  match ops[i]? with
  | none => K a w
  | some o => if Region.wanted o (yielded ops a.tmps) then opW P o a w K Q else K (a.put o.dst undef) w
theorem wpW_mono {i : Nat} {a : Act} {w : World} {K K' : Act → World → Prop} (hK : ∀ a w, K a w → K' a w) (h : wpW P ops Q i K a w) : wpW P ops Q i K' a w := by
  unfold wpW at *
  split
  · rename_i ho
    rw [ho] at h
    exact hK _ _ h
  · rename_i o ho
    rw [ho] at h
    simp only at h
    split
    · rename_i hw
      rw [if_pos hw] at h
      exact opW_mono hK h
    · rename_i hw
      rw [if_neg hw] at h
      exact hK _ _ h
theorem wpW_in {ro : Option Nat} {i : Nat} {a : Act} {w : World} {K : Act → World → Prop} (hd : ro = none ∨ ∀ o ∈ ops, ∀ c, o.op ≠ .defer c) (h : wpW P ops Q i K a w) : wpOpIn (fen ro) 0 P ops Q i K a w := by
  unfold wpW at h
  unfold wpOpIn
  split
  · rename_i ho
    rw [ho] at h
    exact h
  · rename_i o ho
    rw [ho] at h
    simp only at h
    split
    · rename_i hw
      rw [if_pos hw] at h
      exact opW_in (hd.imp id fun h => h o (Array.mem_of_getElem? ho)) h
    · rename_i hw
      rw [if_neg hw] at h
      exact ⟨fun _ _ => trivial, h⟩
end
end Go.SL

/- A separation logic over the walk: partial heaps, resources, frames, and the judgement on code. -/
set_option linter.unusedVariables false
set_option linter.unusedSimpArgs false
namespace Go.SL
open Go.RowKit

/-! ### partial heaps -/
abbrev PH := Nat → Option Obj
abbrev HP := PH → Prop
def Emb (h : PH) (w : World) : Prop := ∀ k o, h k = some o → w.heap[k]? = some o
def PH.join (h1 h2 : PH) : PH := fun k => match h1 k with | some o => some o | none => h2 k
def PH.disj (h1 h2 : PH) : Prop := ∀ k, h1 k = none ∨ h2 k = none
def sepL : List HP → HP
  | [] => fun h => ∀ k, h k = none
  | p :: L => fun h => ∃ h1 h2, PH.disj h1 h2 ∧ h = PH.join h1 h2 ∧ p h1 ∧ sepL L h2
def blk (b : Nat) (o : Obj) : HP := fun h => h = fun k => if k = b then some o else none

theorem join_comm {h1 h2 : PH} (d : PH.disj h1 h2) : PH.join h1 h2 = PH.join h2 h1 := by
  funext k
  unfold PH.join
  rcases d k with h | h <;> rw [h]
  · cases h2 k <;> rfl
  · cases h1 k <;> rfl
theorem join_assoc (h1 h2 h3 : PH) : PH.join (PH.join h1 h2) h3 = PH.join h1 (PH.join h2 h3) := by
  funext k
  unfold PH.join
  cases h1 k <;> rfl
theorem disj_comm {h1 h2 : PH} (d : PH.disj h1 h2) : PH.disj h2 h1 := fun k => (d k).symm
theorem disj_join {h1 h2 h3 : PH} : PH.disj h1 (PH.join h2 h3) ↔ PH.disj h1 h2 ∧ PH.disj h1 h3 := by
  constructor
  · intro d
    refine ⟨fun k => ?_, fun k => ?_⟩
    · rcases d k with h | h
      · exact .inl h
      · unfold PH.join at h
        cases h2' : h2 k with
        | none => exact .inr rfl
        | some o => rw [h2'] at h; cases h
    · rcases d k with h | h
      · exact .inl h
      · unfold PH.join at h
        cases h2' : h2 k with
        | none => rw [h2'] at h; exact .inr h
        | some o => rw [h2'] at h; cases h
  · rintro ⟨d1, d2⟩ k
    rcases d1 k with h | h
    · exact .inl h
    · rcases d2 k with h' | h'
      · exact .inl h'
      · right; unfold PH.join; rw [h]; exact h'

/-- L is p and L', in another order. -/
structure Pick (L : List HP) (p : HP) (L' : List HP) : Prop where
  h : ∀ h, sepL L h → sepL (p :: L') h
theorem iEq {α : Sort _} {a b : α} (h : a = b) : a = b := h
theorem Pick.here {p : HP} {L : List HP} : Pick (p :: L) p L := ⟨fun _ h => h⟩
theorem sepL_swap {p q : HP} {L : List HP} {h : PH} (hh : sepL (p :: q :: L) h) : sepL (q :: p :: L) h := by
  obtain ⟨h1, h2, d, rfl, hp, h3, h4, d', rfl, hq, hL⟩ := hh
  obtain ⟨da, db⟩ := disj_join.1 d
  refine ⟨h3, PH.join h1 h4, disj_join.2 ⟨disj_comm da, d'⟩, ?_, hq, h1, h4, db, rfl, hp, hL⟩
  rw [← join_assoc, join_comm da, join_assoc]
theorem Pick.there {p q : HP} {L L' : List HP} (h : Pick L p L') : Pick (q :: L) p (q :: L') := by
  refine ⟨fun hh => ?_⟩
  rintro ⟨h1, h2, d, e, hq, hL⟩
  exact sepL_swap ⟨h1, h2, d, e, hq, h.h h2 hL⟩

theorem sepL_append {L1 L2 : List HP} {h : PH} : sepL (L1 ++ L2) h ↔ ∃ h1 h2, PH.disj h1 h2 ∧ h = PH.join h1 h2 ∧ sepL L1 h1 ∧ sepL L2 h2 := by
  induction L1 generalizing h with
  | nil =>
    constructor
    · intro hh
      exact ⟨fun _ => none, h, fun _ => .inl rfl, by funext k; rfl, fun _ => rfl, hh⟩
    · rintro ⟨h1, h2, d, rfl, e, hh⟩
      have : PH.join h1 h2 = h2 := by funext k; unfold PH.join; rw [e k]
      rw [this]
      exact hh
  | cons p L1 ih =>
    constructor
    · rintro ⟨h1, h2, d, rfl, hp, hL⟩
      obtain ⟨h3, h4, d', rfl, h5, h6⟩ := ih.1 hL
      obtain ⟨da, db⟩ := disj_join.1 d
      refine ⟨PH.join h1 h3, h4, ?_, (join_assoc _ _ _).symm, ⟨h1, h3, da, rfl, hp, h5⟩, h6⟩
      exact disj_comm (disj_join.2 ⟨disj_comm db, disj_comm d'⟩)
    · rintro ⟨h1, h2, d, rfl, ⟨h3, h4, d', rfl, hp, h5⟩, h6⟩
      have d1 := disj_comm d
      obtain ⟨da, db⟩ := disj_join.1 d1
      refine ⟨h3, PH.join h4 h2, disj_join.2 ⟨d', disj_comm da⟩, join_assoc _ _ _, hp, ih.2 ⟨h4, h2, disj_comm db, rfl, h5, h6⟩⟩

/-! ### worlds -/
/-- What lay in w0 and is not in O is as it was. -/
structure KeptW (w0 : World) (O : Nat → Prop) (w : World) : Prop where
  os : w.os = w0.os
  tape : w.tape = w0.tape
  output : w.output = w0.output
  size : w0.heap.size ≤ w.heap.size
  block : ∀ k, k < w0.heap.size → ¬ O k → w.heap[k]? = w0.heap[k]?
theorem KeptW.refl (w : World) (O : Nat → Prop) : KeptW w O w := ⟨rfl, rfl, rfl, Nat.le_refl _, fun _ _ _ => rfl⟩
def SAT (w0 : World) (O : Nat → Prop) (L : List HP) (w : World) : Prop :=
  KeptW w0 O w ∧ ∃ h, Emb h w ∧ (∀ k o, h k = some o → O k ∨ w0.heap.size ≤ k) ∧ sepL L h
/-- In every world of this kind R holds. -/
structure Rd (w0 : World) (O : Nat → Prop) (L : List HP) (R : World → Prop) : Prop where
  h : ∀ w, SAT w0 O L w → R w

section
variable {w0 w w' : World} {O : Nat → Prop} {L L' L1 L2 : List HP} {p : HP} {o o' : Obj} {b : Nat}
theorem SAT.pick (hp : Pick L p L') (h : SAT w0 O L w) : SAT w0 O (p :: L') w := ⟨h.1, let ⟨g, a, b, c⟩ := h.2; ⟨g, a, b, hp.h g c⟩⟩
theorem KeptW.to (h : KeptW w0 O w) (e1 : w'.os = w.os) (e2 : w'.tape = w.tape) (e3 : w'.output = w.output) (e4 : w.heap.size ≤ w'.heap.size)
    (e5 : ∀ k, k < w.heap.size → k < w0.heap.size → ¬ O k → w'.heap[k]? = w.heap[k]?) : KeptW w0 O w' :=
  ⟨e1.trans h.os, e2.trans h.tape, e3.trans h.output, Nat.le_trans h.size e4, fun k hk ho => (e5 k (Nat.lt_of_lt_of_le hk h.size) hk ho).trans (h.block k hk ho)⟩
theorem SAT.same (h : SAT w0 O L w) (e1 : w'.os = w.os) (e2 : w'.tape = w.tape) (e3 : w'.output = w.output) (e4 : w'.heap = w.heap) : SAT w0 O L w' :=
  ⟨h.1.to e1 e2 e3 (by rw [e4]; exact Nat.le_refl _) (fun k _ _ _ => by rw [e4]), let ⟨g, a, b, c⟩ := h.2; ⟨g, fun k o hk => by rw [e4]; exact a k o hk, b, c⟩⟩
theorem SAT.drewN (h : SAT w0 O L w) (n : Nat) : SAT w0 O L (w.drewN n) := h.same rfl rfl rfl rfl
theorem SAT.drew (h : SAT w0 O L w) : SAT w0 O L w.drew := h.same rfl rfl rfl rfl
theorem SAT.read (h : SAT w0 O (blk b o :: L) w) : w.heap[b]? = some o := by
  obtain ⟨g, he, _, h1, h2, _, rfl, hb, _⟩ := h.2
  refine he b o ?_
  unfold PH.join
  rw [hb]
  simp
theorem emb_lt {h : PH} (he : Emb h w) {k : Nat} (hk : w.heap.size ≤ k) : h k = none := by
  cases e : h k with
  | none => rfl
  | some o =>
    have := (Array.getElem?_eq_some_iff.1 (he k o e)).1
    omega
theorem SAT.alloc (h : SAT w0 O L w) (o : Obj) : SAT w0 O (blk w.heap.size o :: L) (w.alloc o) := by
  refine ⟨h.1.to rfl rfl rfl (by simp) (fun k hk _ _ => Below.heap_alloc w o k hk), ?_⟩
  obtain ⟨g, he, hd, hL⟩ := h.2
  refine ⟨PH.join (fun k => if k = w.heap.size then some o else none) g, ?_, ?_, fun k => if k = w.heap.size then some o else none, g, ?_, rfl, rfl, hL⟩
  · intro k o' hk
    unfold PH.join at hk
    by_cases e : k = w.heap.size
    · subst e
      simp at hk
      subst hk
      exact heap_alloc_new w o
    · simp [e] at hk
      have := he k o' hk
      rw [Below.heap_alloc w o k (Array.getElem?_eq_some_iff.1 this).1]
      exact this
  · intro k o' hk
    unfold PH.join at hk
    by_cases e : k = w.heap.size
    · right; rw [e]; exact h.1.size
    · simp [e] at hk
      exact hd k o' hk
  · intro k
    by_cases e : k = w.heap.size
    · right; exact emb_lt he (by omega)
    · left; simp [e]
/-- A block of its own is written. -/
theorem SAT.put (h : SAT w0 O (blk b o :: L) w) (e1 : w'.os = w.os) (e2 : w'.tape = w.tape) (e3 : w'.output = w.output) (e4 : w'.heap.size = w.heap.size)
    (e5 : ∀ k, k ≠ b → w'.heap[k]? = w.heap[k]?) (e6 : w'.heap[b]? = some o') : SAT w0 O (blk b o' :: L) w' := by
  obtain ⟨g, he, hd, h1, h2, d, rfl, hb, hL⟩ := h.2
  have hOb : O b ∨ w0.heap.size ≤ b := hd b o (by unfold PH.join; rw [hb]; simp)
  refine ⟨h.1.to e1 e2 e3 (by omega) (fun k hk hk0 ho => e5 k ?_), ?_⟩
  · rintro rfl
    rcases hOb with h | h
    · exact ho h
    · omega
  refine ⟨PH.join (fun k => if k = b then some o' else none) h2, ?_, ?_, _, h2, ?_, rfl, rfl, hL⟩
  · intro k o2 hk
    unfold PH.join at hk
    by_cases e : k = b
    · subst e
      simp at hk
      subst hk
      exact e6
    · simp [e] at hk
      rw [e5 k e]
      refine he k o2 ?_
      unfold PH.join
      rw [hb]
      simp [e, hk]
  · intro k o2 hk
    unfold PH.join at hk
    by_cases e : k = b
    · subst e; exact hOb
    · simp [e] at hk
      refine hd k o2 ?_
      unfold PH.join
      rw [hb]
      simp [e, hk]
  · intro k
    by_cases e : k = b
    · right
      rcases d b with h | h
      · rw [hb] at h; simp at h
      · rw [e]; exact h
    · left; simp [e]

theorem sepL_tail {h : PH} (hh : sepL (L1 ++ L2) h) : ∃ g, (∀ k o, g k = some o → h k = some o) ∧ sepL L2 g := by
  obtain ⟨h1, h2, d, rfl, _, h3⟩ := sepL_append.1 hh
  refine ⟨h2, fun k o hk => ?_, h3⟩
  unfold PH.join
  rcases d k with e | e
  · rw [e]; exact hk
  · rw [e] at hk; cases hk
theorem SAT.drop (h : SAT w0 O (L1 ++ L2) w) : SAT w0 O L2 w := by
  obtain ⟨hk, g, he, hd, hL⟩ := h
  obtain ⟨g2, hs, h2⟩ := sepL_tail hL
  exact ⟨hk, g2, fun k o hk => he k o (hs k o hk), fun k o hk => hd k o (hs k o hk), h2⟩

/-- A call on some of what is owned: the footprint of the part. -/
theorem SAT.split (h : SAT w0 O (L1 ++ L2) w) : ∃ Oc : Nat → Prop, SAT w Oc L1 w ∧ (∀ R, Rd w0 O L2 R → Rd w Oc [] R) ∧
    (∀ L3 w', SAT w Oc L3 w' → SAT w0 O (L3 ++ L2) w') := by
  obtain ⟨hk, g, he, hd, hL⟩ := h
  obtain ⟨h1, h2, d, rfl, hL1, hL2⟩ := sepL_append.1 hL
  have hj1 : ∀ k o, h1 k = some o → PH.join h1 h2 k = some o := fun k o e => by unfold PH.join; rw [e]
  have hj2 : ∀ k o, h2 k = some o → PH.join h1 h2 k = some o := fun k o e => by
    unfold PH.join
    rcases d k with e' | e'
    · rw [e']; exact e
    · rw [e'] at e; cases e
  have hlt : ∀ k o, h2 k = some o → k < w.heap.size := fun k o e => (Array.getElem?_eq_some_iff.1 (he k o (hj2 k o e))).1
  have hO1 : ∀ k, h1 k ≠ none → O k ∨ w0.heap.size ≤ k := fun k e => by
    cases e' : h1 k with
    | none => exact absurd e' e
    | some o => exact hd k o (hj1 k o e')
  have hno : ∀ k o, h2 k = some o → ¬ (h1 k ≠ none) := fun k o e e' => by
    rcases d k with e2 | e2
    · exact e' e2
    · rw [e2] at e; cases e
  have hkept : ∀ w', KeptW w (fun k => h1 k ≠ none) w' → KeptW w0 O w' := fun w' hw => hk.to hw.os hw.tape hw.output hw.size (fun k hlt' hk0 ho => hw.block k hlt' (fun e => by
      rcases hO1 k e with h | h
      · exact ho h
      · omega))
  refine ⟨fun k => h1 k ≠ none, ⟨KeptW.refl _ _, h1, fun k o e => he k o (hj1 k o e), fun k o e => .inl (by show h1 k ≠ none; rw [e]; simp), hL1⟩, ?_, ?_⟩
  · intro R hR
    refine ⟨fun w' hw' => ?_⟩
    refine hR.h w' ⟨hkept w' hw'.1, h2, fun k o e => ?_, fun k o e => hd k o (hj2 k o e), hL2⟩
    rw [hw'.1.block k (hlt k o e) (hno k o e)]
    exact he k o (hj2 k o e)
  · rintro L3 w' ⟨hkw, g3, he3, hd3, hL3⟩
    have dd : PH.disj g3 h2 := by
      intro k
      cases e : g3 k with
      | none => exact .inl rfl
      | some o =>
        right
        rcases hd3 k o e with h | h
        · rcases d k with e2 | e2
          · exact absurd e2 h
          · exact e2
        · cases e2 : h2 k with
          | none => rfl
          | some o2 => have := hlt k o2 e2; omega
    refine ⟨hkept w' hkw, PH.join g3 h2, ?_, ?_, sepL_append.2 ⟨g3, h2, dd, rfl, hL3, hL2⟩⟩
    · intro k o e
      unfold PH.join at e
      cases e3 : g3 k with
      | some o3 => rw [e3] at e; cases e; exact he3 k o e3
      | none =>
        rw [e3] at e
        rw [hkw.block k (hlt k o e) (hno k o e)]
        exact he k o (hj2 k o e)
    · intro k o e
      unfold PH.join at e
      cases e3 : g3 k with
      | some o3 =>
        rw [e3] at e
        rcases hd3 k o3 e3 with h | h
        · exact hO1 k h
        · right; exact Nat.le_trans hk.size h
      | none => rw [e3] at e; exact hd k o (hj2 k o e)
theorem Rd.base {R : World → Prop} (h : Rd w0 O [] R) : Rd w0 O L R := ⟨fun w hw => h.h w (SAT.drop (L1 := L) (by rw [List.append_nil]; exact hw))⟩
theorem Rd.imp {R R' : World → Prop} (h : Rd w0 O L R) (hi : ∀ w, R w → R' w) : Rd w0 O L R' := ⟨fun w hw => hi w (h.h w hw)⟩
end
end Go.SL

/- The judgement on code: frames as lists of slots, a stack of what is still to be done. -/
set_option linter.unusedVariables false
set_option linter.unusedSimpArgs false
namespace Go.SL
open Go.RowKit

/-! ### frames -/
def lookup : List (Nat × Value) → Nat → Option Value
  | [], _ => none
  | (i, v) :: E, t => match Nat.beq t i with
    | true => some v
    | false => lookup E t
/-- The marks of ranges over functions that have been. -/
def markL (ds : List Nat) : List Deferred := ds.map fun D => { target := .collected D, args := #[] }
structure EnvOK (n : Nat) (ds : List Nat) (E : List (Nat × Value)) (a : Act) : Prop where
  size : a.tmps.size = n
  defers : a.defers = markL ds
  get : ∀ t v, lookup E t = some v → a.tmps.getD t undef = v
def ev (E : List (Nat × Value)) : Operand → Option Value
  | .tmp t => lookup E t
  | .const v => some v
  | .func f => some (.func (.func f) #[] #[])
  | .global g => some (.pointer (some ⟨g, 0, none⟩))
def evs (E : List (Nat × Value)) : List Operand → Option (List Value)
  | [] => some []
  | x :: xs => match ev E x with
    | some v => match evs E xs with
      | some vs => some (v :: vs)
      | none => none
    | none => none
def putE (d : Option Tmp) (v : Value) (E : List (Nat × Value)) : List (Nat × Value) :=
  match d with
  | some d => (d, v) :: E
  | none => E
def okD (n : Nat) : Option Tmp → Bool
  | some d => Nat.blt d n
  | none => true
section
variable {n : Nat} {ds : List Nat} {E : List (Nat × Value)} {a : Act}
theorem EnvOK.ev (h : EnvOK n ds E a) {x : Operand} {v : Value} (hx : ev E x = some v) : a.eval x = v := by
  cases x with
  | tmp t => exact h.get t v hx
  | const v' => injection hx
  | func f => injection hx
  | global g => injection hx
theorem EnvOK.evs (h : EnvOK n ds E a) : ∀ {xs : List Operand} {vs : List Value}, evs E xs = some vs → xs.map a.eval = vs
  | [], vs, hx => by cases hx; rfl
  | x :: xs, vs, hx => by
    unfold SL.evs at hx
    split at hx
    · rename_i v hv
      split at hx
      · rename_i vs' hvs
        injection hx with hx
        subst hx
        simp [h.ev hv, h.evs hvs]
      · cases hx
    · cases hx
theorem EnvOK.put (h : EnvOK n ds E a) {d : Option Tmp} {v : Value} (hd : okD n d = true) : EnvOK n ds (putE d v E) (a.put d v) := by
  cases d with
  | none => exact h
  | some d =>
    have hlt : d < n := by simpa [okD, Nat.blt_eq] using hd
    refine ⟨by simp [Act.put, h.size], h.defers, fun t u hu => ?_⟩
    simp only [putE, lookup] at hu
    by_cases e : t = d
    · subst e
      rw [Nat.beq_refl] at hu
      injection hu with hu
      subst hu
      simp [Act.put, Array.getD, h.size, hlt]
    · have hb : Nat.beq t d = false := by
        cases hb : Nat.beq t d with
        | false => rfl
        | true => exact absurd (Nat.eq_of_beq_eq_true hb) e
      rw [hb] at hu
      have := h.get t u hu
      rw [← this]
      simp only [Act.put, Array.getD_eq_getD_getElem?]
      rw [Array.getElem?_setIfInBounds_ne (Ne.symm e)]
/-- Fewer slots known. -/
theorem EnvOK.weaken (h : EnvOK n ds E a) {E' : List (Nat × Value)} (hs : ∀ t v, lookup E' t = some v → lookup E t = some v) : EnvOK n ds E' a :=
  ⟨h.size, h.defers, fun t v hv => h.get t v (hs t v hv)⟩
/-- E' says of each slot what E does (checked slot by slot). -/
def sub (E' E : List (Nat × Value)) : Prop := ∀ t v, lookup E' t = some v → lookup E t = some v
theorem sub.nil : sub [] E := fun _ _ h => by cases h
theorem sub.cons {t : Nat} {v : Value} {E' : List (Nat × Value)} (hv : lookup E t = some v) (h : sub E' E) : sub ((t, v) :: E') E := by
  intro u x hx
  simp only [lookup] at hx
  split at hx
  · rename_i hb
    injection hx with hx
    subst hx
    rw [Nat.eq_of_beq_eq_true hb]
    exact hv
  · exact h u x hx
end

/-! ### the stack -/
/-- A loop that has begun: the machine stands at its body. -/
def InLoop (F : Fence) (P : Program) (c : Code) (Q : Exit → Act → World → Prop) (a : Act) (w : World) : Prop :=
  ∀ (b : Frame) (k : List Item) (cs : List Frame), b.roundOf = F.round → F.fn b.fn → F.room (cs.length + 1 + 0) →
    ∃ e a' w', Q e a' w' ∧ ArrivesIn (Machine.fenced P F) P (lone (b.atR a (.code c :: .inLoop c :: k)) cs w) b k cs e a' w'
section
variable {F : Fence} {P : Program} {c : Code} {Q : Exit → Act → World → Prop} {a : Act} {w : World}
theorem InLoop.wp (h : InLoop F P c Q a w) : (Code.loop c).wpIn F 0 P Q a w := fun b k cs hro hb hr => by
  obtain ⟨e, a', w', hq, harr⟩ := h b k cs hro hb hr
  exact ⟨e, a', w', hq, .of_steps (.one (fenced_calm hb hr rfl) stepR_loop) harr⟩
theorem InLoop.round (h : c.wpIn F 0 P (Exit.then (InLoop F P c Q) Q) a w) : InLoop F P c Q a w := fun b k cs hro hb hr => by
  obtain ⟨e, a₁, w₁, hq, harr⟩ := h b (.inLoop c :: k) cs hro hb hr
  cases e with
  | normal =>
    obtain ⟨e₂, a₂, w₂, hq₂, harr₂⟩ := hq b k cs hro hb hr
    exact ⟨e₂, a₂, w₂, hq₂, .of_steps (StepsIn.trans harr (.one (fenced_calm hb hr rfl) stepR_inLoop)) harr₂⟩
  | exit id => exact ⟨_, a₁, w₁, hq, .pass (x := .inLoop c) rfl (fun _ _ => .inl (by simp)) harr⟩
  | goto l => exact ⟨_, a₁, w₁, hq, .pass (x := .inLoop c) rfl (fun _ _ => .inl (by simp)) harr⟩
  | ret => exact ⟨_, a₁, w₁, hq, .pass (x := .inLoop c) rfl (fun _ _ => .inl (by simp)) harr⟩
  | panic ch => exact ⟨_, a₁, w₁, hq, .pass (x := .inLoop c) rfl (fun _ _ => .inl (by simp)) harr⟩
  | outgrown => exact ⟨_, a₁, w₁, hq, .pass (x := .inLoop c) rfl (fun _ _ => .inl (by simp)) harr⟩
end

inductive Fr where
  | code (c : Code)
  | blk (id : Nat)
  | loop (body : Code)
structure Cx where
  fn : Func
  n : Nat
  R : Ending → World → Prop
  w0 : World
  O : Nat → Prop
  ro : Option Nat
  ds : List Nat
  Q0 : Exit → Act → World → Prop
  pan : ∀ c a w d u, Q0 (.panic c) (Act.put a d u) w → Q0 (.panic c) a w
def post (P : Program) (x : Cx) : List Fr → Exit → Act → World → Prop
  | [] => x.Q0
  | .code c :: k => Exit.then (c.wpIn (fen x.ro) 0 P (post P x k)) (post P x k)
  | .blk id :: k => Exit.inBlock id (post P x k)
  | .loop b :: k => Exit.then (InLoop (fen x.ro) P b (post P x k)) (post P x k)
structure J (P : Program) (x : Cx) (E : List (Nat × Value)) (L : List HP) (c : Code) (k : List Fr) : Prop where
  h : ∀ a w, EnvOK x.n x.ds E a → SAT x.w0 x.O L w → c.wpIn (fen x.ro) 0 P (post P x k) a w
/-- The next thing on the stack. -/
structure JK (P : Program) (x : Cx) (E : List (Nat × Value)) (L : List HP) (k : List Fr) : Prop where
  h : ∀ a w, EnvOK x.n x.ds E a → SAT x.w0 x.O L w → post P x k .normal a w
structure JL (P : Program) (x : Cx) (E : List (Nat × Value)) (L : List HP) (b : Code) (k : List Fr) : Prop where
  h : ∀ a w, EnvOK x.n x.ds E a → SAT x.w0 x.O L w → InLoop (fen x.ro) P b (post P x k) a w
structure OJ (P : Program) (x : Cx) (E : List (Nat × Value)) (L : List HP) (ops : Array Oper) (rest : List Oper) (k : List Fr) : Prop where
  h : ∀ a w, EnvOK x.n x.ds E a → SAT x.w0 x.O L w → wpL P ops (post P x k) rest a w
theorem iJ {P : Program} {x : Cx} {E : List (Nat × Value)} {L : List HP} {c : Code} {k : List Fr} (h : J P x E L c k) : J P x E L c k := h
theorem iJK {P : Program} {x : Cx} {E : List (Nat × Value)} {L : List HP} {k : List Fr} (h : JK P x E L k) : JK P x E L k := h
theorem iJL {P : Program} {x : Cx} {E : List (Nat × Value)} {L : List HP} {c : Code} {k : List Fr} (h : JL P x E L c k) : JL P x E L c k := h
theorem iOJ {P : Program} {x : Cx} {E : List (Nat × Value)} {L : List HP} {ops : Array Oper} {rest : List Oper} {k : List Fr} (h : OJ P x E L ops rest k) : OJ P x E L ops rest k := h
def popTo (id : Nat) : List Fr → Option (List Fr)
  | [] => none
  | .blk i :: k => match Nat.beq i id with
    | true => some k
    | false => popTo id k
  | _ :: k => popTo id k

section
variable {P : Program} {x : Cx} {E : List (Nat × Value)} {L : List HP} {k : List Fr}
theorem J.seq {a b : Code} (h : J P x E L a (.code b :: k)) : J P x E L (.seq a b) k := ⟨fun s w hE hS => wpIn_seq (h.h s w hE hS)⟩
theorem J.skip (h : JK P x E L k) : J P x E L .skip k := ⟨fun s w hE hS => wpIn_skip (h.h s w hE hS)⟩
theorem J.block {id : Nat} {c : Code} (h : J P x E L c (.blk id :: k)) : J P x E L (.block id c) k := ⟨fun s w hE hS => wpIn_block (h.h s w hE hS)⟩
theorem J.loop {c : Code} (h : JL P x E L c k) : J P x E L (.loop c) k := ⟨fun s w hE hS => (h.h s w hE hS).wp⟩
theorem JL.round {c : Code} (h : J P x E L c (.loop c :: k)) : JL P x E L c k := ⟨fun s w hE hS => InLoop.round (h.h s w hE hS)⟩
theorem JK.code {c : Code} (h : J P x E L c k) : JK P x E L (.code c :: k) := ⟨h.h⟩
theorem JK.blk {id : Nat} (h : JK P x E L k) : JK P x E L (.blk id :: k) := ⟨h.h⟩
theorem JK.loop {c : Code} (h : JL P x E L c k) : JK P x E L (.loop c :: k) := ⟨h.h⟩
theorem post_exit {id : Nat} {a : Act} {w : World} : ∀ {k k' : List Fr}, popTo id k = some k' → post P x k' .normal a w → post P x k (.exit id) a w
  | [], _, h, _ => by cases h
  | .code c :: k, k', h, hp => post_exit (k := k) h hp
  | .loop c :: k, k', h, hp => post_exit (k := k) h hp
  | .blk i :: k, k', h, hp => by
    show (if id = i then post P x k .normal a w else post P x k (.exit id) a w)
    simp only [popTo] at h
    split at h
    · rename_i hb
      rw [if_pos (Nat.eq_of_beq_eq_true hb).symm]
      injection h with h
      rw [h]
      exact hp
    · rename_i hb
      rw [if_neg (fun e => by subst e; rw [Nat.beq_refl] at hb; cases hb)]
      exact post_exit (k := k) h hp
theorem J.exit {id : Nat} {k' : List Fr} (h : JK P x E L k') (hk : popTo id k = some k' := by rfl) : J P x E L (.exit id) k := ⟨fun s w hE hS => wpIn_exit (post_exit hk (h.h s w hE hS))⟩
theorem post_ret {a : Act} {w : World} : ∀ {k : List Fr}, x.Q0 .ret a w → post P x k .ret a w
  | [], h => h
  | .code _ :: k, h => post_ret (k := k) h
  | .loop _ :: k, h => post_ret (k := k) h
  | .blk _ :: k, h => post_ret (k := k) h
/-- What a condition says, as it stands in a walk. -/
structure BT (t : Bool) (p q : Prop) : Prop where
  yes : t = true → p
  no : t = false → q
theorem BT.dec {p : Prop} [Decidable p] : BT (decide p) p (¬ p) := ⟨of_decide_eq_true, of_decide_eq_false⟩
theorem BT.not {t : Bool} {p q : Prop} (h : BT t p q) : BT (!t) q p := ⟨fun e => h.no (by cases t <;> simp_all), fun e => h.yes (by cases t <;> simp_all)⟩
theorem BT.beq {a b : Int} : BT (a == b) (a = b) (a ≠ b) := ⟨fun e => by simpa using e, fun e => by simpa using e⟩
theorem BT.bne {a b : Int} : BT (a != b) (a ≠ b) (a = b) := ⟨fun e => by simpa using e, fun e => by simpa using e⟩
theorem BT.any {t : Bool} : BT t (t = true) (t = false) := ⟨id, id⟩
theorem EnvOK.know {n : Nat} {ds : List Nat} {E : List (Nat × Value)} {a : Act} (h : EnvOK n ds E a) {d : Nat} {v : Value} (hl : lookup E d = some v) : EnvOK n ds ((d, v) :: E) a := ⟨h.size, h.defers, fun s u hu => by
  simp only [lookup] at hu
  split at hu
  · rename_i hb
    injection hu with hu
    rw [← hu, Nat.eq_of_beq_eq_true hb]
    exact h.get d _ hl
  · exact h.get s u hu⟩
theorem J.cond {c : Tmp} {a b : Code} {t : Bool} {p q : Prop} (h1 : p → J P x ((c, .bool true) :: E) L a k) (h2 : q → J P x ((c, .bool false) :: E) L b k) (hc : lookup E c = some (.bool t) := by rfl) (hb : autoParam (BT t p q) ABT.h._autoParam) :
    J P x E L (.cond (.tmp c) a b) k := ⟨fun s w hE hS => wpIn_cond_split (hE.ev (x := .tmp c) hc) (fun e => (h1 (hb.yes e)).h s w ((hE.know hc).weaken fun u v h => by rw [e]; exact h) hS) (fun e => (h2 (hb.no e)).h s w ((hE.know hc).weaken fun u v h => by rw [e]; exact h) hS)⟩
theorem J.condT {c : Operand} {a b : Code} {u : Value} (h1 : J P x E L a k) (hc : ev E c = some u := by rfl) (hu : u = .bool true := by with_reducible rfl) : J P x E L (.cond c a b) k := ⟨fun s w hE hS => wpIn_cond_true (hE.ev (hu ▸ hc)) (h1.h s w hE hS)⟩
theorem J.condF {c : Operand} {a b : Code} {u : Value} (h1 : J P x E L b k) (hc : ev E c = some u := by rfl) (hu : u = .bool false := by with_reducible rfl) : J P x E L (.cond c a b) k := ⟨fun s w hE hS => wpIn_cond_false (hE.ev (hu ▸ hc)) (h1.h s w hE hS)⟩
def isDefer : Op → Bool
  | .defer _ => true
  | _ => false
def noDefL : List Oper → Bool
  | [] => true
  | o :: l => match isDefer o.op with
    | true => false
    | false => noDefL l
def noDef : Option Nat → List Oper → Bool
  | none, _ => true
  | some _, l => noDefL l
theorem noDefL_spec : ∀ (l : List Oper), noDefL l = true → ∀ o ∈ l, ∀ c, o.op ≠ .defer c
  | [], _, _, h => by cases h
  | o :: l, h, u, hu => fun c e => by
    simp only [noDefL] at h
    split at h
    · cases h
    · rename_i hd
      rcases List.mem_cons.1 hu with rfl | hu
      · rw [e] at hd; cases hd
      · exact noDefL_spec l h u hu c e
theorem noDef_spec {ro : Option Nat} {l : List Oper} (h : noDef ro l = true) : ro = none ∨ ∀ o ∈ l, ∀ c, o.op ≠ .defer c := by
  cases ro with
  | none => exact .inl rfl
  | some _ => exact .inr (noDefL_spec l h)
theorem J.region {id : Nat} {l : List Oper} (h : OJ P x E L l.toArray l k) (hd : noDef x.ro l = true := by rfl) : J P x E L (.region id l.toArray false) k := ⟨fun s w hE hS => wpIn_region_lit (wpL_in l s w (noDef_spec hd) (h.h s w hE hS))⟩
theorem OJ.nil {ops : Array Oper} (h : JK P x E L k) : OJ P x E L ops [] k := ⟨fun s w hE hS => h.h s w hE hS⟩
theorem J.weaken {c : Code} {E' : List (Nat × Value)} (hs : sub E' E) (h : J P x E' L c k) : J P x E L c k := ⟨fun s w hE hS => h.h s w (hE.weaken hs) hS⟩
theorem JL.weaken {c : Code} {E' : List (Nat × Value)} (hs : sub E' E) (h : JL P x E' L c k) : JL P x E L c k := ⟨fun s w hE hS => h.h s w (hE.weaken hs) hS⟩
theorem JK.weaken {E' : List (Nat × Value)} (hs : sub E' E) (h : JK P x E' L k) : JK P x E L k := ⟨fun s w hE hS => h.h s w (hE.weaken hs) hS⟩
end

/-! ### contracts -/
/-- What a call gives: a value out of X, resources, a fact. -/
def Ends (w0 : World) (O : Nat → Prop) {X : Type} (ret : X → Value) (Lo : X → List HP) (po : X → Prop) (e : Ending) (w' : World) : Prop :=
  ∃ y, po y ∧ e = .returned (ret y) ∧ SAT w0 O (Lo y) w'
def Spec (P : Program) (f : FuncId) (args : List Value) (Rs : List (World → Prop)) (Lin : List HP) {X : Type} (ret : X → Value) (Lo : X → List HP) (po : X → Prop) : Prop :=
  ∀ w0 O, (∀ R ∈ Rs, Rd w0 O [] R) → SAT w0 O Lin w0 → Calls P f args.toArray w0 (Ends w0 O ret Lo po)
/-- Resources may be let go. -/
structure Ent (L L' : List HP) : Prop where
  h : ∃ L1, ∀ h, sepL L h → sepL (L1 ++ L') h
theorem iEnt {L L' : List HP} (h : Ent L L') : Ent L L' := h
theorem iEBlk {L L' : List HP} {b : Nat} {o : Obj} (h : Ent L (blk b o :: L')) : Ent L (blk b o :: L') := h
theorem Ent.refl {L : List HP} : Ent L L := ⟨[], fun _ h => h⟩
theorem Ent.nil {L : List HP} : Ent L [] := ⟨L, fun _ h => by rw [List.append_nil]; exact h⟩
theorem Ent.pick {L L1 L2 : List HP} {p : HP} (hp : Pick L p L1) (h : Ent L1 L2) : Ent L (p :: L2) := by
  obtain ⟨L3, h3⟩ := h.h
  refine ⟨L3, fun g hg => ?_⟩
  obtain ⟨h1, h2, d, rfl, a, b⟩ := hp.h g hg
  obtain ⟨h4, h5, d', rfl, a', b'⟩ := sepL_append.1 (h3 h2 b)
  obtain ⟨da, db⟩ := disj_join.1 d
  refine sepL_append.2 ⟨h4, PH.join h1 h5, disj_join.2 ⟨disj_comm da, d'⟩, ?_, a', h1, h5, db, rfl, a, b'⟩
  rw [← join_assoc, join_comm da, join_assoc]
theorem SAT.ent {w0 w : World} {O : Nat → Prop} {L L' : List HP} (h : SAT w0 O L w) (he : Ent L L') : SAT w0 O L' w := by
  obtain ⟨L1, h1⟩ := he.h
  exact SAT.drop (L1 := L1) ⟨h.1, let ⟨g, a, b, c⟩ := h.2; ⟨g, a, b, h1 g c⟩⟩
theorem J.ent {P : Program} {x : Cx} {E : List (Nat × Value)} {L L' : List HP} {c : Code} {k : List Fr} (he : Ent L L') (h : J P x E L' c k) : J P x E L c k := ⟨fun s w hE hS => h.h s w hE (hS.ent he)⟩
theorem JL.ent {P : Program} {x : Cx} {E : List (Nat × Value)} {L L' : List HP} {c : Code} {k : List Fr} (he : Ent L L') (h : JL P x E L' c k) : JL P x E L c k := ⟨fun s w hE hS => h.h s w hE (hS.ent he)⟩
theorem JK.ent {P : Program} {x : Cx} {E : List (Nat × Value)} {L L' : List HP} {k : List Fr} (he : Ent L L') (h : JK P x E L' k) : JK P x E L k := ⟨fun s w hE hS => h.h s w hE (hS.ent he)⟩

def argE : Nat → List Value → List (Nat × Value)
  | _, [] => []
  | i, v :: vs => (i, v) :: argE (i + 1) vs
theorem argE_get : ∀ (i : Nat) (vs : List Value) (t : Nat) (v : Value), lookup (argE i vs) t = some v → i ≤ t ∧ vs[t - i]? = some v
  | _, [], _, _, h => by cases h
  | i, u :: vs, t, v, h => by
    simp only [argE, lookup] at h
    split at h
    · rename_i hb
      have := Nat.eq_of_beq_eq_true hb
      subst this
      exact ⟨Nat.le_refl _, by simpa using h⟩
    · rename_i hb
      obtain ⟨h1, h2⟩ := argE_get (i + 1) vs t v h
      refine ⟨by omega, ?_⟩
      have : t - i = (t - (i + 1)) + 1 := by omega
      rw [this]
      simpa using h2
theorem body_pan {P : Program} {fn : Func} {R : Ending → World → Prop} (c : List PanicEntry) (a : Act) (w : World) (d : Option Tmp) (u : Value) (h : bodyPost P fn R (.panic c) (Act.put a d u) w) : bodyPost P fn R (.panic c) a w := by
  cases d <;> exact h
theorem Spec.mk {P : Program} {f : FuncId} {fn : Func} {c : Code} {args : List Value} {Rs : List (World → Prop)} {Lin : List HP} {X : Type} {ret : X → Value} {Lo : X → List HP} {po : X → Prop} {n : Nat}
    (hf : P.funcs[f]? = some fn) (hb : fn.body = some c) (hn : fn.ntmps = n) (hl : Nat.ble args.length n = true)
    (h : ∀ w0 O, (∀ R ∈ Rs, Rd w0 O [] R) → SAT w0 O Lin w0 → J P ⟨fn, n, Ends w0 O ret Lo po, w0, O, none, [], bodyPost P fn (Ends w0 O ret Lo po), body_pan⟩ (argE 0 args) Lin c []) : Spec P f args Rs Lin ret Lo po := by
  intro w0 O hR hS
  refine callsIn_wide.1 (callsIn_of_wp (F := Fence.wide) (n := 0) hf hb trivial ((h w0 O hR hS).h _ w0 ⟨?_, rfl, ?_⟩ hS))
  · have := Nat.le_of_ble_eq_true hl
    simp [hn]
    omega
  · intro t v hv
    obtain ⟨_, h2⟩ := argE_get 0 args t v hv
    simp only [Nat.sub_zero] at h2
    have hlt := (List.getElem?_eq_some_iff.1 h2).1
    have := (List.getElem?_eq_some_iff.1 h2).2
    show (args.toArray ++ Array.replicate (fn.ntmps - args.toArray.size) undef).getD t undef = v
    rw [Array.getD_eq_getD_getElem?, Array.getElem?_append_left (by simpa using hlt)]
    simp [hlt, this]
/-- Results. -/
def resV (E : List (Nat × Value)) : List ResultVar → Option (List Value)
  | [] => some []
  | .tmp t :: r => match lookup E t with
    | some v => match resV E r with
      | some vs => some (v :: vs)
      | none => none
    | none => none
  | _ => none
def tup : List Value → Value
  | [v] => v
  | vs => .tuple vs.toArray
end Go.SL

/- Types, rows, and the rules for plain operations. -/
set_option linter.unusedVariables false
set_option linter.unusedSimpArgs false
namespace Go.SL
open Go.RowKit

/-! ### what the rules ask of types -/
def aggD : TypeDesc → Bool
  | .struct _ | .array _ _ => true
  | _ => false
class Ty (P : Program) (t : TypeId) (agg : outParam Bool) (sz : outParam Nat) (by_ : outParam Nat) (z : outParam Value) : Prop where
  h : (P.underlying t).map aggD = some agg ∧ (P.info? t).map (fun i => (i.size, i.bytes, i.zero)) = some (sz, by_, some z)
class SlT (P : Program) (t : TypeId) (e : outParam TypeId) : Prop where
  h : P.underlying t = some (.slice e)
class IntT (P : Program) (t : TypeId) (k : outParam IntKind) : Prop where
  h : P.underlying t = some (.int k)
class StrT (P : Program) (t : TypeId) : Prop where
  h : P.underlying t = some .string
class MapT (P : Program) (t : TypeId) (k e : outParam TypeId) : Prop where
  h : P.underlying t = some (.map k e)
class BoolT (P : Program) (t : TypeId) : Prop where
  h : P.underlying t = some .bool
class NIfT (P : Program) (t : TypeId) : Prop where
  h : ∃ d, P.underlying t = some d ∧ ∀ ms, d ≠ .interface ms
class IfT (P : Program) (t : TypeId) : Prop where
  h : ∃ ms, P.underlying t = some (.interface ms)
/-- A struct's field: where it lies, how many cells (one at least). -/
class FldT (P : Program) (t : TypeId) (j : Nat) (off : outParam Nat) : Prop where
  h : ∀ (a : Addr) (w : World), (Instr.fieldAt t (.pointer (some a)) j).run P w = .ok (.pointer (some (a.add off))) w
section
variable {P : Program} {t e : TypeId} {agg : Bool} {sz by_ : Nat} {z : Value}
theorem Ty.isAgg [h : Ty P t agg sz by_ z] (w : World) : (isAgg t).run P w = .ok agg w := by
  have h1 := h.h.1
  cases hu : P.underlying t with
  | none => rw [hu] at h1; cases h1
  | some d =>
    rw [hu] at h1
    injection h1 with h1
    subst h1
    simp only [Go.isAgg, run_underlying hu, Sem.run_bind, Result.andThen]
    cases d <;> rfl
theorem Ty.info [h : Ty P t agg sz by_ z] : ∃ i, P.info? t = some i ∧ i.size = sz ∧ i.bytes = by_ ∧ i.zero = some z := by
  have h1 := h.h.2
  cases hu : P.info? t with
  | none => rw [hu] at h1; cases h1
  | some i =>
    rw [hu] at h1
    simp only [Option.map_some, Option.some.injEq, Prod.mk.injEq] at h1
    exact ⟨i, rfl, h1.1, h1.2.1, h1.2.2⟩
theorem Ty.sizeOf [h : Ty P t agg sz by_ z] (w : World) : (sizeOf t).run P w = .ok sz w := by
  obtain ⟨i, hi, h1, _⟩ := h.info
  simp [Go.sizeOf, typeInfo, hi, h1]
theorem Ty.zeroValue [h : Ty P t agg sz by_ z] (w : World) : (zeroValue t).run P w = .ok z w := by
  obtain ⟨i, hi, _, _, h1⟩ := h.info
  simp [Go.zeroValue, typeInfo, hi, h1]
end

/-! ### rows -/
structure Enc (α : Type) where
  sz : Nat
  f : α → List Value
  d : α
  dec : List Value → Option α
  pos : 0 < sz
  len : ∀ x, (f x).length = sz
  one : ∀ x, ∀ u ∈ f x, u.oneCell' = true
  inv : ∀ cs x, dec cs = some x → f x = cs
def eInt : Enc Int where
  sz := 1
  f x := [.int .i64 x]
  d := 0
  dec
    | [.int .i64 x] => some x
    | _ => none
  pos := by decide
  len _ := rfl
  one x u hu := by rw [List.mem_singleton.1 hu]; rfl
  inv cs x h := by
    split at h
    · injection h with h; rw [h]
    · cases h
def rowC (e : TypeId) (sz : Nat) (v : Value) (n : Nat) (cs : List Value) : HP := fun h => cs.length = n * sz ∧
  ((v = .slice none 0 0 ∧ n = 0 ∧ h = fun _ => none) ∨ ∃ g cap cur, v = .slice (some ⟨g, 0, none⟩) n cap ∧ n ≤ cap ∧ cap ≤ maxLen ∧ cur.size = cap * sz ∧ cur.toList.take (n * sz) = cs ∧ blk g (.cells cur e (0, 0)) h)
/-- A row of the call's own. -/
def row {α : Type} (k : Enc α) (e : TypeId) (v : Value) (xs : List α) : HP := rowC e k.sz v xs.length (xs.flatMap k.f)
/-- A row that can be read. -/
def rd {α : Type} (k : Enc α) (v : Value) (xs : List α) (w : World) : Prop := ∃ A c, v = .slice A xs.length c ∧ xs.length ≤ c ∧ c ≤ maxLen ∧
  (0 < xs.length → ∃ ad, A = some ad ∧ ∀ j u, (xs.flatMap k.f)[j]? = some u → w.cell? (ad.add j) = some u)
def elemP (sz : Nat) (v : Value) (i f : Nat) : Value :=
  match v with
  | .slice (some a) _ _ => .pointer (some (a.add (i * sz + f)))
  | _ => undef
theorem add_add (a : Addr) (m n : Nat) : (a.add m).add n = a.add (m + n) := by
  unfold Addr.add
  by_cases h1 : m = 0
  · subst h1; simp
  · by_cases h2 : n = 0
    · subst h2; simp
    · simp [h1, h2, Nat.add_assoc]
section
variable {α : Type} {k : Enc α} {xs : List α} {w w' w0 : World} {O : Nat → Prop} {L L' : List HP} {e : TypeId} {v : Value}
theorem flat_len : (xs.flatMap k.f).length = xs.length * k.sz := by
  induction xs with
  | nil => simp
  | cons x xs ih => simp [ih, k.len, Nat.add_mul]; omega
theorem flat_get {i f : Nat} (hi : i < xs.length) (hf : f < k.sz) : (xs.flatMap k.f)[i * k.sz + f]? = (k.f (xs.getD i k.d))[f]? := by
  induction xs generalizing i with
  | nil => simp at hi
  | cons x xs ih =>
    cases i with
    | zero => simp [List.getElem?_append, k.len, hf]
    | succ i =>
      rw [List.flatMap_cons, List.getElem?_append_right (by rw [k.len, Nat.add_mul]; omega), k.len]
      rw [show (i + 1) * k.sz + f - k.sz = i * k.sz + f by rw [Nat.add_mul]; omega]
      simpa using ih (i := i) (by simpa using hi)
theorem SAT.rd (h : SAT w0 O (row k e v xs :: L) w) : rd k v xs w := by
  obtain ⟨g, he, _, h1, h2, _, rfl, ⟨hl, hr⟩, _⟩ := h.2
  rcases hr with ⟨rfl, hn, _⟩ | ⟨g, cap, cur, rfl, hc, hm, hs, ht, hb⟩
  · exact ⟨none, 0, by rw [hn], by omega, by simp [maxLen], fun hp => by omega⟩
  · refine ⟨some ⟨g, 0, none⟩, cap, rfl, hc, hm, fun _ => ⟨_, rfl, fun j u hu => ?_⟩⟩
    have hw : w.heap[g]? = some (.cells cur e (0, 0)) := he g _ (by unfold PH.join; rw [hb]; simp)
    have hj : j < xs.length * k.sz := by rw [← flat_len]; exact (List.getElem?_eq_some_iff.1 hu).1
    rw [← ht, List.getElem?_take, if_pos hj] at hu
    have : ((⟨g, 0, none⟩ : Addr).add j) = ⟨g, j, none⟩ := by unfold Addr.add; split <;> simp_all
    rw [this]
    simp [World.cell?, hw]
    simpa using hu
theorem rd_bd (h : SL.rd k v xs w) : xs.length ≤ 9223372036854775807 := by
  obtain ⟨_, c, _, h1, h2, _⟩ := h
  simp [maxLen] at h2
  omega
theorem iRow (h : Pick L (SL.row k e v xs) L') : Pick L (SL.row k e v xs) L' := h
theorem iERow (h : Ent L (SL.row k e v xs :: L')) : Ent L (SL.row k e v xs :: L') := h
theorem Rd.row (hp : Pick L (SL.row k e v xs) L') : Rd w0 O L (SL.rd k v xs) := ⟨fun _ hw => (hw.pick hp).rd⟩
theorem SAT.ownsRow (h : SAT w0 O (row k e v xs :: L) w) : w.ownsRow 0 e k.sz v xs.length (xs.flatMap k.f) := by
  obtain ⟨g, he, _, h1, h2, _, rfl, ⟨hl, hr⟩, _⟩ := h.2
  refine ⟨hl, ?_⟩
  rcases hr with ⟨rfl, hn, _⟩ | ⟨g, cap, cur, rfl, hc, hm, hs, ht, hb⟩
  · exact .inl ⟨rfl, hn⟩
  · exact .inr ⟨g, cap, cur, rfl, Nat.zero_le _, he g _ (by unfold PH.join; rw [hb]; simp), hc, hm, hs, ht⟩
theorem SAT.nil_row (h : SAT w0 O L w) (k : Enc α) (e : TypeId) : SAT w0 O (row k e (.slice none 0 0) [] :: L) w := by
  obtain ⟨hk, g, he, hd, hL⟩ := h
  exact ⟨hk, g, he, hd, fun _ => none, g, fun _ => .inl rfl, rfl, ⟨by simp, .inl ⟨rfl, rfl, rfl⟩⟩, hL⟩
theorem row_blk {b n c : Nat} {cs : Array Value} (hc : cs.toList = xs.flatMap k.f) (hn : xs.length = n) (hm : n ≤ maxLen) (hcc : c = n) {h : PH} (hb : blk b (.cells cs e (0, 0)) h) : row k e (.slice (some ⟨b, 0, none⟩) n c) xs h := by
  subst hn
  subst hcc
  refine ⟨flat_len, .inr ⟨b, xs.length, cs, rfl, Nat.le_refl _, hm, ?_, ?_, hb⟩⟩
  · rw [← Array.length_toList, hc, flat_len]
  · rw [hc, List.take_of_length_le (by rw [flat_len]; exact Nat.le_refl _)]
/-- Which encoding a type has. -/
class EncN (e : TypeId) {α : outParam Type} (q : outParam (Enc α)) : Prop where
  h : True
def decs {α : Type} (q : Enc α) : Nat → List Value → Option (List α)
  | 0, [] => some []
  | 0, _ :: _ => none
  | n + 1, cs => match q.dec (cs.take q.sz) with
    | some x => match decs q n (cs.drop q.sz) with
      | some xs => some (x :: xs)
      | none => none
    | none => none
theorem decs_eq {α : Type} {q : Enc α} : ∀ (n : Nat) (cs : List Value) (xs : List α), decs q n cs = some xs → xs.length = n ∧ xs.flatMap q.f = cs
  | 0, [], _, h => by cases h; exact ⟨rfl, rfl⟩
  | 0, _ :: _, _, h => by cases h
  | n + 1, cs, xs, h => by
    simp only [decs] at h
    split at h
    · rename_i x hx
      split at h
      · rename_i xs' hxs
        injection h with h
        subst h
        obtain ⟨h1, h2⟩ := decs_eq n _ _ hxs
        exact ⟨by simp [h1], by rw [List.flatMap_cons, h2, q.inv _ _ hx, List.take_append_drop]⟩
      · cases h
    · cases h
theorem Pick.blkRow {b n : Nat} {cs : Array Value} {q : Enc α} [EncN e q] (hd : decs q n cs.toList = some xs := by rfl) (hn : Nat.ble n 16777216 = true := by rfl) : Pick (blk b (.cells cs e (0, 0)) :: L) (SL.row q e (.slice (some ⟨b, 0, none⟩) n n) xs) L := ⟨fun g hg => by
  obtain ⟨h1, h2, d, rfl, hb, hL⟩ := hg
  obtain ⟨hl, hf⟩ := decs_eq _ _ _ hd
  exact ⟨h1, h2, d, rfl, row_blk hf.symm hl (by have := Nat.le_of_ble_eq_true hn; simp [maxLen]; omega) rfl hb, hL⟩⟩
theorem Pick.nilRow {q : Enc α} [EncN e q] : Pick L (SL.row q e (.slice none 0 0) []) L := ⟨fun g hg => ⟨fun _ => none, g, fun _ => .inl rfl, rfl, ⟨by simp, .inl ⟨rfl, rfl, rfl⟩⟩, hg⟩⟩
/-- One resource in place of another. -/
theorem SAT.imp {p q : HP} (h : SAT w0 O (p :: L) w) (hi : ∀ g, p g → q g) : SAT w0 O (q :: L) w :=
  ⟨h.1, let ⟨g, a, b, h1, h2, d, e, hp, hL⟩ := h.2; ⟨g, a, b, h1, h2, d, e, hi h1 hp, hL⟩⟩
theorem SAT.own_append (h : SAT w0 O (row k e v xs :: L) w) {ys : List α} {v' : Value} (hown : w'.ownsRow 0 e k.sz v' (xs ++ ys).length ((xs ++ ys).flatMap k.f)) (hg : w.grownBy w' v.ownBlock)
    (hat : v'.ownBlock = v.ownBlock ∨ v'.ownBlock = some w.heap.size) : SAT w0 O (row k e v' (xs ++ ys) :: L) w' := by
  obtain ⟨hk, g, he, hd, h1, h2, d, rfl, ⟨hl, hr⟩, hL⟩ := h
  -- the old row's block, if any, is one of its own
  have hvb : ∀ b, v.ownBlock = some b → ∃ o, h1 b = some o := by
    intro b hb
    rcases hr with ⟨rfl, hn, _⟩ | ⟨g, cap, cur, rfl, hc, hm, hs, ht, hbk⟩
    · cases hb
    · simp [Value.ownBlock] at hb
      subst hb
      exact ⟨.cells cur e (0, 0), by rw [hbk]; simp⟩
  have hj1 : ∀ k o, h1 k = some o → PH.join h1 h2 k = some o := fun k o e => by unfold PH.join; rw [e]
  have hj2 : ∀ k o, h2 k = some o → PH.join h1 h2 k = some o := fun k o e => by
    unfold PH.join
    rcases d k with e' | e'
    · rw [e']; exact e
    · rw [e'] at e; cases e
  have hlt : ∀ k o, h2 k = some o → k < w.heap.size := fun k o e => (Array.getElem?_eq_some_iff.1 (he k o (hj2 k o e))).1
  have hK : KeptW w0 O w' := hk.to hg.os hg.tape hg.output hg.size (fun b hb hb0 ho => hg.block b hb (fun e => by
    obtain ⟨o, ho1⟩ := hvb b e.symm
    rcases hd b o (hj1 b o ho1) with h | h
    · exact ho h
    · omega))
  have hh2 : ∀ b o, h2 b = some o → w'.heap[b]? = some o := fun b o hb => by
    rw [hg.block b (hlt b o hb) (fun e => by
      obtain ⟨o1, ho1⟩ := hvb b e.symm
      rcases d b with h | h
      · rw [h] at ho1; cases ho1
      · rw [h] at hb; cases hb)]
    exact he b o (hj2 b o hb)
  rcases hown.2 with ⟨rfl, hn⟩ | ⟨g', cap, cur, rfl, _, hgg, hc, hm, hs, ht⟩
  · refine ⟨hK, h2, fun b o hb => hh2 b o hb, fun b o hb => hd b o (hj2 b o hb), fun _ => none, h2, fun _ => .inl rfl, rfl, ⟨hown.1, .inl ⟨rfl, hn, rfl⟩⟩, hL⟩
  · simp only [Value.ownBlock] at hat
    have hdis : h2 g' = none := by
      rcases hat with hat | hat
      · obtain ⟨o1, ho1⟩ := hvb g' hat.symm
        rcases d g' with h | h
        · rw [h] at ho1; cases ho1
        · exact h
      · injection hat with hat
        cases h2g : h2 g' with
        | none => rfl
        | some o => have := hlt g' o h2g; omega
    refine ⟨hK, PH.join (fun b => if b = g' then some (.cells cur e (0, 0)) else none) h2, ?_, ?_, fun b => if b = g' then some (.cells cur e (0, 0)) else none, h2, ?_, rfl, ⟨hown.1, .inr ⟨g', cap, cur, rfl, hc, hm, hs, ht, rfl⟩⟩, hL⟩
    · intro b o hb
      unfold PH.join at hb
      by_cases e1 : b = g'
      · subst e1; simp at hb; rw [← hb]; exact hgg
      · simp [e1] at hb; exact hh2 b o hb
    · intro b o hb
      unfold PH.join at hb
      by_cases e1 : b = g'
      · rcases hat with hat | hat
        · obtain ⟨o1, ho1⟩ := hvb g' hat.symm
          rw [e1]
          exact hd g' o1 (hj1 g' o1 ho1)
        · injection hat with hat
          right
          rw [e1, hat]
          exact hk.size
      · simp [e1] at hb; exact hd b o (hj2 b o hb)
    · intro b
      by_cases e1 : b = g'
      · right; rw [e1]; exact hdis
      · left; simp [e1]
end
end Go.SL

/- The rules, an operation each. -/
set_option linter.unusedVariables false
set_option linter.unusedSimpArgs false
namespace Go.SL
open Go.RowKit

/-! ### lists of cells -/
def updO : List Value → Nat → List Value → Option (List Value)
  | l, 0, [] => some l
  | _ :: l, 0, v :: vs => match updO l 0 vs with
    | some r => some (v :: r)
    | none => none
  | x :: l, f + 1, vs => match updO l f vs with
    | some r => some (x :: r)
    | none => none
  | [], 0, _ :: _ => none
  | [], _ + 1, _ => none
theorem updO_eq : ∀ (l : List Value) (f : Nat) (vs r : List Value), updO l f vs = some r → f + vs.length ≤ l.length ∧ r = l.take f ++ vs ++ l.drop (f + vs.length)
  | l, 0, [], r, h => by cases l <;> (injection h with h; subst h; simp)
  | x :: l, 0, v :: vs, r, h => by
    simp only [updO] at h
    split at h
    · rename_i r' hr
      injection h with h
      obtain ⟨h1, h2⟩ := updO_eq l 0 vs r' hr
      subst h
      rw [h2]
      simp at h1 ⊢
      exact h1
    · cases h
  | x :: l, f + 1, vs, r, h => by
    simp only [updO] at h
    split at h
    · rename_i r' hr
      injection h with h
      obtain ⟨h1, h2⟩ := updO_eq l f vs r' hr
      subst h
      rw [h2]
      refine ⟨by simp; omega, ?_⟩
      rw [show f + 1 + vs.length = (f + vs.length) + 1 by omega]
      simp
    · cases h
  | [], 0, _ :: _, _, h => by cases h
  | [], _ + 1, vs, _, h => by cases vs <;> cases h
def allOne : List Value → Bool
  | [] => true
  | v :: vs => match v.oneCell' with
    | true => allOne vs
    | false => false
theorem allOne_eq : ∀ (vs : List Value), allOne vs = true → ∀ v ∈ vs, v.oneCell' = true
  | [], _, _, h => by cases h
  | v :: vs, h, u, hu => by
    simp only [allOne] at h
    split at h
    · rename_i h1
      rcases List.mem_cons.1 hu with rfl | hu
      · exact h1
      · exact allOne_eq vs h u hu
    · cases h

/-- A block that can be read. -/
def holds (b : Nat) (o : Obj) (w : World) : Prop := w.heap[b]? = some o
theorem Rd.blk {w0 : World} {O : Nat → Prop} {L L' : List HP} {b : Nat} {o : Obj} (hp : Pick L (SL.blk b o) L') : Rd w0 O L (holds b o) := ⟨fun _ hw => (hw.pick hp).read⟩
theorem Rd.sub {w0 : World} {O : Nat → Prop} {L L' : List HP} {p : HP} {R : World → Prop} (h : Rd w0 O [p] R) (hp : Pick L p L') : Rd w0 O L R := ⟨fun w hw => h.h w ((hw.pick hp).ent (Ent.pick Pick.here Ent.nil))⟩
section
variable {P : Program} {x : Cx} {L : List HP}
theorem storeRun {b f : Nat} {cs : Array Value} {T : TypeId} {w : World} {vs r : List Value} (hw : w.heap[b]? = some (.cells cs T (0, 0))) (hu : updO cs.toList f vs = some r) (h1 : ∀ v ∈ vs, v.oneCell' = true) :
    (storeCells ⟨b, f, none⟩ vs).run P w = .ok () (w.setRow b r.toArray) := by
  obtain ⟨hl, rfl⟩ := updO_eq _ _ _ _ hu
  have := run_storeCells_at (P := P) b f T vs 0 cs w hw (by simpa using hl) h1
  simpa using this
theorem setRow_else {b j : Nat} {cs : Array Value} {w : World} (h : j ≠ b) : (w.setRow b cs).heap[j]? = w.heap[j]? := by
  simp only [World.setRow]
  simp [Array.getElem?_modify]
  exact fun e => absurd e.symm h
theorem setRow_at {b : Nat} {cs cs' : Array Value} {T : TypeId} {w : World} (hw : w.heap[b]? = some (.cells cs T (0, 0))) : (w.setRow b cs').heap[b]? = some (.cells cs' T (0, 0)) := by
  simp only [World.setRow]
  simp [Array.getElem?_modify, hw]
theorem SAT.setRow {b : Nat} {cs cs' : Array Value} {T : TypeId} {w0 w : World} {O : Nat → Prop} (h : SAT w0 O (blk b (.cells cs T (0, 0)) :: L) w) : SAT w0 O (blk b (.cells cs' T (0, 0)) :: L) (w.setRow b cs') :=
  h.put rfl rfl rfl (by simp [World.setRow]) (fun j hj => setRow_else hj) (setRow_at h.read)
/-- A value of one cell. -/
structure One (x : Cx) (L : List HP) (v : Value) : Prop where
  h : ∀ w, SAT x.w0 x.O L w → v.oneCell' = true
theorem One.lit {v : Value} (h : v.oneCell' = true := by rfl) : One x L v := ⟨fun _ _ => h⟩
theorem One.rd {α : Type} {q : Enc α} {xs : List α} {v : Value} (h : Rd x.w0 x.O L (SL.rd q v xs)) : One x L v := ⟨fun w hw => by
  obtain ⟨_, _, rfl, _⟩ := h.h w hw
  rfl⟩
theorem cells_one {v : Value} (h : v.oneCell' = true) : v.cells = #[v] := by cases v <;> first | rfl | cases h
end
section
variable {P : Program} {x : Cx} {E : List (Nat × Value)} {L L' : List HP} {k : List Fr} {ops : Array Oper} {rest : List Oper}
/-- The form behind all rules: the operation runs to a value. -/
theorem OJ.run {o : Oper} (hg : o.guard = none) (hd : okD x.n o.dst = true)
    (h : ∀ a w, EnvOK x.n x.ds E a → SAT x.w0 x.O L w → ∃ v w' L1, (execOp a.eval o).run P w = .ok (.value v) w' ∧ SAT x.w0 x.O L1 w' ∧ OJ P x (putE o.dst v E) L1 ops rest k) : OJ P x E L ops (o :: rest) k := by
  refine ⟨fun a w hE hS => ?_⟩
  obtain ⟨v, w', L1, hr, hS', hk⟩ := h a w hE hS
  refine wpL_plain hg (.inl ?_)
  unfold Oper.wp
  rw [hr]
  exact hk.h _ _ (hE.put hd) hS'
/-- .. to nothing. -/
theorem OJ.runU {o : Oper} (hg : o.guard = none) (hd : o.dst = none)
    (h : ∀ a w, EnvOK x.n x.ds E a → SAT x.w0 x.O L w → ∃ w' L1, (execOp a.eval o).run P w = .ok .skip w' ∧ SAT x.w0 x.O L1 w' ∧ OJ P x E L1 ops rest k) : OJ P x E L ops (o :: rest) k := by
  refine ⟨fun a w hE hS => ?_⟩
  obtain ⟨w', L1, hr, hS', hk⟩ := h a w hE hS
  refine wpL_plain hg (.inl ?_)
  unfold Oper.wp
  rw [hr]
  refine hk.h _ _ ?_ hS'
  have := hE.put (d := none) (v := undef) rfl
  rw [hd]
  exact this
/-- .. and the world stays. -/
theorem OJ.pure {o : Oper} {v : Value} (hg : o.guard = none) (hd : okD x.n o.dst = true)
    (h : ∀ a w, EnvOK x.n x.ds E a → SAT x.w0 x.O L w → (execOp a.eval o).run P w = .ok (.value v) w) (hk : OJ P x (putE o.dst v E) L ops rest k) : OJ P x E L ops (o :: rest) k :=
  OJ.run hg hd fun a w hE hS => ⟨v, w, L, h a w hE hS, hS, hk⟩

/-- A plain operation: it gives a value, the world stays. -/
structure PS (P : Program) (x : Cx) (E : List (Nat × Value)) (L : List HP) (op : Op) (ty : TypeId) (v : Value) : Prop where
  h : ∀ a w dst pos aft g, EnvOK x.n x.ds E a → SAT x.w0 x.O L w → (execOp a.eval ⟨dst, op, ty, pos, aft, g⟩).run P w = .ok (.value v) w
theorem iPload {P : Program} {x : Cx} {E : List (Nat × Value)} {L : List HP} {ty : TypeId} {v : Value} {a0 : TypeId} {a1 : Operand} (h : PS P x E L (.load a0 a1) ty v) : PS P x E L (.load a0 a1) ty v := h
theorem iPmove {P : Program} {x : Cx} {E : List (Nat × Value)} {L : List HP} {ty : TypeId} {v : Value} {a0 : Operand} (h : PS P x E L (.move a0) ty v) : PS P x E L (.move a0) ty v := h
theorem iPbinOp {P : Program} {x : Cx} {E : List (Nat × Value)} {L : List HP} {ty : TypeId} {v : Value} {a0 : BinOp} {a1 : TypeId} {a2 : Operand} {a3 : Operand} {a4 : TypeId} (h : PS P x E L (.binOp a0 a1 a2 a3 a4) ty v) : PS P x E L (.binOp a0 a1 a2 a3 a4) ty v := h
theorem iPindexAddr {P : Program} {x : Cx} {E : List (Nat × Value)} {L : List HP} {ty : TypeId} {v : Value} {a0 : TypeId} {a1 : Operand} {a2 : Operand} (h : PS P x E L (.indexAddr a0 a1 a2) ty v) : PS P x E L (.indexAddr a0 a1 a2) ty v := h
theorem iPindex {P : Program} {x : Cx} {E : List (Nat × Value)} {L : List HP} {ty : TypeId} {v : Value} {a0 : TypeId} {a1 : Operand} {a2 : Operand} (h : PS P x E L (.index a0 a1 a2) ty v) : PS P x E L (.index a0 a1 a2) ty v := h
theorem iPfieldAddr {P : Program} {x : Cx} {E : List (Nat × Value)} {L : List HP} {ty : TypeId} {v : Value} {a0 : TypeId} {a1 : Operand} {a2 : Nat} (h : PS P x E L (.fieldAddr a0 a1 a2) ty v) : PS P x E L (.fieldAddr a0 a1 a2) ty v := h
theorem iPcall {P : Program} {x : Cx} {E : List (Nat × Value)} {L : List HP} {ty : TypeId} {v : Value} {a0 : Call} (h : PS P x E L (.call a0) ty v) : PS P x E L (.call a0) ty v := h
theorem iPunOp {P : Program} {x : Cx} {E : List (Nat × Value)} {L : List HP} {ty : TypeId} {v : Value} {a0 : UnOp} {a1 : TypeId} {a2 : Operand} (h : PS P x E L (.unOp a0 a1 a2) ty v) : PS P x E L (.unOp a0 a1 a2) ty v := h
theorem iPassign {P : Program} {x : Cx} {E : List (Nat × Value)} {L : List HP} {ty : TypeId} {v : Value} {a0 : Operand} (h : PS P x E L (.assign a0) ty v) : PS P x E L (.assign a0) ty v := h
theorem iPpick {P : Program} {x : Cx} {E : List (Nat × Value)} {L : List HP} {ty : TypeId} {v : Value} {a0 : Operand} {a1 : Operand} {a2 : Operand} (h : PS P x E L (.pick a0 a1 a2) ty v) : PS P x E L (.pick a0 a1 a2) ty v := h
theorem iPextract {P : Program} {x : Cx} {E : List (Nat × Value)} {L : List HP} {ty : TypeId} {v : Value} {a0 : Operand} {a1 : Nat} (h : PS P x E L (.extract a0 a1) ty v) : PS P x E L (.extract a0 a1) ty v := h
theorem iPconvert {P : Program} {x : Cx} {E : List (Nat × Value)} {L : List HP} {ty : TypeId} {v : Value} {a0 : TypeId} {a1 : TypeId} {a2 : Operand} (h : PS P x E L (.convert a0 a1 a2) ty v) : PS P x E L (.convert a0 a1 a2) ty v := h
theorem iPnilCheck {P : Program} {x : Cx} {E : List (Nat × Value)} {L : List HP} {ty : TypeId} {v : Value} {a0 : Operand} (h : PS P x E L (.nilCheck a0) ty v) : PS P x E L (.nilCheck a0) ty v := h
theorem iPbuild {P : Program} {x : Cx} {E : List (Nat × Value)} {L : List HP} {ty : TypeId} {v : Value} {a0 : TypeId} {a1 : Array (Nat × Operand)} (h : PS P x E L (.build a0 a1) ty v) : PS P x E L (.build a0 a1) ty v := h
theorem iPslice {P : Program} {x : Cx} {E : List (Nat × Value)} {L : List HP} {ty : TypeId} {v : Value} {a0 : TypeId} {a1 : Operand} {a2 : Option Operand} {a3 : Option Operand} {a4 : Option Operand} (h : PS P x E L (.slice a0 a1 a2 a3 a4) ty v) : PS P x E L (.slice a0 a1 a2 a3 a4) ty v := h
theorem iPmakeInterface {P : Program} {x : Cx} {E : List (Nat × Value)} {L : List HP} {ty : TypeId} {v : Value} {a0 : TypeId} {a1 : Operand} (h : PS P x E L (.makeInterface a0 a1) ty v) : PS P x E L (.makeInterface a0 a1) ty v := h
theorem iPlookup {P : Program} {x : Cx} {E : List (Nat × Value)} {L : List HP} {ty : TypeId} {v : Value} {a0 : TypeId} {a1 : Operand} {a2 : Operand} {a3 : Bool} (h : PS P x E L (.lookup a0 a1 a2 a3) ty v) : PS P x E L (.lookup a0 a1 a2 a3) ty v := h
theorem iPmakeFunc {P : Program} {x : Cx} {E : List (Nat × Value)} {L : List HP} {ty : TypeId} {v : Value} {a0 : Fn} {a1 : Array Operand} {a2 : Array Operand} (h : PS P x E L (.makeFunc a0 a1 a2) ty v) : PS P x E L (.makeFunc a0 a1 a2) ty v := h
theorem iOp {P : Program} {x : Cx} {E : List (Nat × Value)} {L : List HP} {ops : Array Oper} {rest : List Oper} {k : List Fr} {op : Op} {ty : TypeId} {pos : String} {aft : Array Edge} {d : Tmp} (h : OJ P x E L ops (⟨some d, op, ty, pos, aft, none⟩ :: rest) k) : OJ P x E L ops (⟨some d, op, ty, pos, aft, none⟩ :: rest) k := h
theorem iOg {P : Program} {x : Cx} {E : List (Nat × Value)} {L : List HP} {ops : Array Oper} {rest : List Oper} {k : List Fr} {op : Op} {ty : TypeId} {pos : String} {aft : Array Edge} {d : Option Tmp} {g : Nat × Bool} (h : OJ P x E L ops (⟨d, op, ty, pos, aft, some g⟩ :: rest) k) : OJ P x E L ops (⟨d, op, ty, pos, aft, some g⟩ :: rest) k := h
theorem iOstore {P : Program} {x : Cx} {E : List (Nat × Value)} {L : List HP} {ops : Array Oper} {rest : List Oper} {k : List Fr} {d : Option Tmp} {ty : TypeId} {pos : String} {aft : Array Edge} {a0 : TypeId} {a1 : Operand} {a2 : Operand} (h : OJ P x E L ops (⟨d, .store a0 a1 a2, ty, pos, aft, none⟩ :: rest) k) : OJ P x E L ops (⟨d, .store a0 a1 a2, ty, pos, aft, none⟩ :: rest) k := h
theorem iOcall {P : Program} {x : Cx} {E : List (Nat × Value)} {L : List HP} {ops : Array Oper} {rest : List Oper} {k : List Fr} {d : Option Tmp} {ty : TypeId} {pos : String} {aft : Array Edge} {a0 : Call} (h : OJ P x E L ops (⟨d, .call a0, ty, pos, aft, none⟩ :: rest) k) : OJ P x E L ops (⟨d, .call a0, ty, pos, aft, none⟩ :: rest) k := h
theorem iObox {P : Program} {x : Cx} {E : List (Nat × Value)} {L : List HP} {ops : Array Oper} {rest : List Oper} {k : List Fr} {d : Option Tmp} {ty : TypeId} {pos : String} {aft : Array Edge} {a0 : TypeId} {a1 : Operand} (h : OJ P x E L ops (⟨d, .box a0 a1, ty, pos, aft, none⟩ :: rest) k) : OJ P x E L ops (⟨d, .box a0 a1, ty, pos, aft, none⟩ :: rest) k := h
theorem iOalloc {P : Program} {x : Cx} {E : List (Nat × Value)} {L : List HP} {ops : Array Oper} {rest : List Oper} {k : List Fr} {d : Option Tmp} {ty : TypeId} {pos : String} {aft : Array Edge} {a0 : TypeId} (h : OJ P x E L ops (⟨d, .alloc a0, ty, pos, aft, none⟩ :: rest) k) : OJ P x E L ops (⟨d, .alloc a0, ty, pos, aft, none⟩ :: rest) k := h
theorem iObuildSlice {P : Program} {x : Cx} {E : List (Nat × Value)} {L : List HP} {ops : Array Oper} {rest : List Oper} {k : List Fr} {d : Option Tmp} {ty : TypeId} {pos : String} {aft : Array Edge} {a0 : TypeId} {a1 : Nat} {a2 : Array (Nat × Operand)} (h : OJ P x E L ops (⟨d, .buildSlice a0 a1 a2, ty, pos, aft, none⟩ :: rest) k) : OJ P x E L ops (⟨d, .buildSlice a0 a1 a2, ty, pos, aft, none⟩ :: rest) k := h
theorem iOmakeSlice {P : Program} {x : Cx} {E : List (Nat × Value)} {L : List HP} {ops : Array Oper} {rest : List Oper} {k : List Fr} {d : Option Tmp} {ty : TypeId} {pos : String} {aft : Array Edge} {a0 : TypeId} {a1 : Operand} {a2 : Operand} (h : OJ P x E L ops (⟨d, .makeSlice a0 a1 a2, ty, pos, aft, none⟩ :: rest) k) : OJ P x E L ops (⟨d, .makeSlice a0 a1 a2, ty, pos, aft, none⟩ :: rest) k := h
theorem OJ.ps {op : Op} {ty : TypeId} {v : Value} {d : Tmp} {pos : String} {aft : Array Edge} (h : PS P x E L op ty v) (hk : OJ P x ((d, v) :: E) L ops rest k) (hd : Nat.blt d x.n = true := by rfl) : OJ P x E L ops (⟨some d, op, ty, pos, aft, none⟩ :: rest) k :=
  OJ.pure (v := v) rfl hd (fun a w hE hS => h.h a w _ _ _ _ hE hS) hk
/-! guards -/
def gval (ops : Array Oper) (E : List (Nat × Value)) (j : Nat) : Option Value :=
  match ops[j]? with
  | some o => match o.dst with
    | some d => lookup E d
    | none => none
  | none => none
def gdst (ops : Array Oper) (j : Nat) : Option Tmp :=
  match ops[j]? with
  | some o => o.dst
  | none => none
theorem yielded_of {a : Act} {j : Nat} {t : Bool} (hE : EnvOK x.n x.ds E a) (h : gval ops E j = some (.bool t)) : yielded ops a.tmps j = some t := by
  unfold gval at h
  unfold yielded
  cases ho : ops[j]? with
  | none => rw [ho] at h; cases h
  | some o =>
    rw [ho] at h
    simp only at h
    cases hd : o.dst with
    | none => rw [hd] at h; cases h
    | some d =>
      rw [hd] at h
      have := hE.get d _ h
      simp [hd]
      rw [Array.getD_eq_getD_getElem?] at this
      cases hx : a.tmps[d]? with
      | none => rw [hx] at this; cases this
      | some u => rw [hx] at this; simp at this; rw [this]
theorem OJ.guardY0 {o : Oper} {j : Nat} {b : Bool} {u : Value} (h : OJ P x E L ops ({ o with guard := none } :: rest) k)
    (hg : o.guard = some (j, b) := by rfl) (hv : gval ops E j = some u := by rfl) (hb : u = .bool b := by with_reducible rfl) : OJ P x E L ops (o :: rest) k := by
  refine ⟨fun a w hE hS => ?_⟩
  have hh := h.h a w hE hS
  unfold wpL at hh ⊢
  have hw : Region.wanted o (yielded ops a.tmps) = true := by simp [Region.wanted, hg, yielded_of hE (hb ▸ hv)]
  rw [if_pos hw]
  rw [if_pos (by simp [Region.wanted])] at hh
  exact hh
theorem OJ.guardY {op : Op} {ty : TypeId} {pos : String} {aft : Array Edge} {d : Option Tmp} {j : Nat} {b : Bool} {u : Value} (h : OJ P x E L ops (⟨d, op, ty, pos, aft, none⟩ :: rest) k)
    (hv : gval ops E j = some u := by rfl) (hb : u = .bool b := by with_reducible rfl) : OJ P x E L ops (⟨d, op, ty, pos, aft, some (j, b)⟩ :: rest) k :=
  OJ.guardY0 (o := ⟨d, op, ty, pos, aft, some (j, b)⟩) h rfl hv hb
theorem OJ.guardN0 {o : Oper} {j : Nat} {b t : Bool} {u : Value} (h : OJ P x (putE o.dst undef E) L ops rest k)
    (hg : o.guard = some (j, b) := by rfl) (hv : gval ops E j = some u := by rfl) (hb : u = .bool t := by with_reducible rfl) (hn : t = !b := by rfl) (hd : okD x.n o.dst = true := by rfl) : OJ P x E L ops (o :: rest) k := by
  refine ⟨fun a w hE hS => ?_⟩
  unfold wpL
  rw [if_neg (by simp [Region.wanted, hg, yielded_of hE (hb ▸ hv), hn])]
  exact h.h _ _ (hE.put hd) hS
theorem OJ.guardN {op : Op} {ty : TypeId} {pos : String} {aft : Array Edge} {d : Tmp} {j : Nat} {b t : Bool} {u : Value} (h : OJ P x ((d, undef) :: E) L ops rest k)
    (hv : gval ops E j = some u := by rfl) (hb : u = .bool t := by with_reducible rfl) (hn : t = !b := by rfl) (hd : Nat.blt d x.n = true := by rfl) : OJ P x E L ops (⟨some d, op, ty, pos, aft, some (j, b)⟩ :: rest) k :=
  OJ.guardN0 (o := ⟨some d, op, ty, pos, aft, some (j, b)⟩) h rfl hv hb hn hd
theorem yielded_u {a : Act} {j : Nat} (hE : EnvOK x.n x.ds E a) (h : gval ops E j = some undef) : yielded ops a.tmps j = none := by
  unfold gval at h
  unfold yielded
  cases ho : ops[j]? with
  | none => rw [ho] at h; cases h
  | some o =>
    rw [ho] at h
    simp only at h
    cases hd : o.dst with
    | none => rw [hd] at h; cases h
    | some d =>
      rw [hd] at h
      have := hE.get d _ h
      simp [hd]
      rw [Array.getD_eq_getD_getElem?] at this
      cases hx : a.tmps[d]? with
      | none => rfl
      | some u => rw [hx] at this; simp at this; rw [this]; rfl
theorem OJ.guardNd {op : Op} {ty : TypeId} {pos : String} {aft : Array Edge} {j : Nat} {b t : Bool} {u : Value} (h : OJ P x E L ops rest k)
    (hv : gval ops E j = some u := by rfl) (hb : u = .bool t := by with_reducible rfl) (hn : t = !b := by rfl) : OJ P x E L ops (⟨none, op, ty, pos, aft, some (j, b)⟩ :: rest) k :=
  OJ.guardN0 (o := ⟨none, op, ty, pos, aft, some (j, b)⟩) h rfl hv hb hn rfl
theorem OJ.guardU {op : Op} {ty : TypeId} {pos : String} {aft : Array Edge} {d : Option Tmp} {j : Nat} {b : Bool} {u : Value} (h : OJ P x (putE d undef E) L ops rest k)
    (hv : gval ops E j = some u := by rfl) (hb : u = undef := by with_reducible rfl) (hd : okD x.n d = true := by rfl) : OJ P x E L ops (⟨d, op, ty, pos, aft, some (j, b)⟩ :: rest) k := by
  refine ⟨fun a w hE hS => ?_⟩
  unfold wpL
  rw [if_neg (by simp [Region.wanted, yielded_u hE (hb ▸ hv)])]
  exact h.h _ _ (hE.put hd) hS
/-- A truth value that is not known (a mark alone). -/
inductive Und (t : Bool) : Prop
  | mk : Und t
theorem Und.lt : Und true := .mk
theorem Und.lf : Und false := .mk
/-- A guard that is not decided: both ways, the guard's slot being known then. -/
theorem OJ.guardS {o : Oper} {j : Nat} {b' t : Bool} {d : Tmp} {p q : Prop} (h1 : p → OJ P x ((d, .bool true) :: E) L ops (o :: rest) k) (h2 : q → OJ P x ((d, .bool false) :: E) L ops (o :: rest) k)
    (_hg : o.guard = some (j, b') := by rfl) (hv : gval ops E j = some (.bool t) := by rfl) (hd : gdst ops j = some d := by rfl) (hb : autoParam (BT t p q) ABT.h._autoParam) (_hu : autoParam (Und t) AUN.h._autoParam) : OJ P x E L ops (o :: rest) k := by
  refine ⟨fun a w hE hS => ?_⟩
  have hl : lookup E d = some (.bool t) := by
    unfold gval at hv
    unfold gdst at hd
    cases ho : ops[j]? with
    | none => rw [ho] at hv; cases hv
    | some o =>
      rw [ho] at hv hd
      simp only at hv hd
      rw [hd] at hv
      exact hv
  have hs : ∀ t', t = t' → EnvOK x.n x.ds ((d, .bool t') :: E) a := fun t' e => ⟨hE.size, hE.defers, fun s v hv => by
    simp only [lookup] at hv
    split at hv
    · rename_i hb
      injection hv with hv
      rw [← hv, Nat.eq_of_beq_eq_true hb, ← e]
      exact hE.get d _ hl
    · exact hE.get s v hv⟩
  cases ht : t with
  | true => exact (h1 (hb.yes ht)).h a w (hs true ht) hS
  | false => exact (h2 (hb.no ht)).h a w (hs false ht) hS

section rules
variable {ty t t' t'' : TypeId} {y z c : Operand} {v u : Value}
theorem PS.move (hv : ev E y = some v := by rfl) : PS P x E L (.move y) ty v := ⟨fun a w _ _ _ _ hE _ => by simp only [execOp, hE.ev hv]; rfl⟩
theorem PS.assign (hv : ev E y = some v := by rfl) : PS P x E L (.assign y) ty v := ⟨fun a w _ _ _ _ hE _ => by simp only [execOp, hE.ev hv]; rfl⟩
theorem PS.pickT (hc : ev E c = some u := by rfl) (hu : u = .bool true := by with_reducible rfl) (hv : ev E y = some v := by rfl) : PS P x E L (.pick c y z) ty v := ⟨fun a w _ _ _ _ hE _ => by simp only [execOp, hE.ev hv, hE.ev hc, hu]; rfl⟩
theorem PS.pickF (hc : ev E c = some u := by rfl) (hu : u = .bool false := by with_reducible rfl) (hv : ev E z = some v := by rfl) : PS P x E L (.pick c y z) ty v := ⟨fun a w _ _ _ _ hE _ => by simp only [execOp, hE.ev hv, hE.ev hc, hu]; rfl⟩
theorem PS.not {b : Bool} (hv : ev E y = some (.bool b) := by rfl) : PS P x E L (.unOp .not t y) ty (.bool (!b)) := ⟨fun a w _ _ _ _ hE _ => by simp only [execOp, hE.ev hv]; rfl⟩
theorem PS.notT (hv : ev E y = some u := by rfl) (hu : u = .bool true := by with_reducible rfl) : PS P x E L (.unOp .not t y) ty (.bool false) := PS.not (b := true) (hu ▸ hv)
theorem PS.notF (hv : ev E y = some u := by rfl) (hu : u = .bool false := by with_reducible rfl) : PS P x E L (.unOp .not t y) ty (.bool true) := PS.not (b := false) (hu ▸ hv)
theorem PS.neg {i : Int} (hv : ev E y = some (.int .i64 i) := by rfl) (hb : -9223372036854775807 ≤ i ∧ i ≤ 9223372036854775807 := by omega) : PS P x E L (.unOp .neg t y) ty (.int .i64 (-i)) := ⟨fun a w _ _ _ _ hE _ => by
  simp only [execOp, hE.ev hv]
  show Result.ok (Next.value (.int .i64 (IntKind.i64.wrap (0 - i)))) w = _
  rw [IntWalk.i64_in (0 - i) (by omega), Int.zero_sub]⟩
/-- Comparisons of ints. -/
def cmpV : BinOp → Int → Int → Option Bool
  | .eql, a, b => some (a == b)
  | .neq, a, b => some (a != b)
  | .lss, a, b => some (decide (a < b))
  | .leq, a, b => some (decide (a ≤ b))
  | .gtr, a, b => some (decide (b < a))
  | .geq, a, b => some (decide (b ≤ a))
  | _, _, _ => none
theorem PS.cmp {op : BinOp} {kd : IntKind} {i j : Int} {b : Bool} (hy : ev E y = some (.int kd i) := by rfl) (hz : ev E z = some (.int kd j) := by rfl) (hc : cmpV op i j = some b := by rfl) : PS P x E L (.binOp op t y z t') ty (.bool b) := ⟨fun a w _ _ _ _ hE _ => by
  simp only [execOp, hE.ev hy, hE.ev hz]
  cases op <;> simp only [cmpV] at hc <;> first
    | cases hc; done
    | (injection hc with hc; subst hc; simp [eqGuard, binOp, Op.intCmp]; done)
    | (injection hc with hc; subst hc; simp [eqGuard, binOp, Op.intCmp]; rfl)⟩
def arV : BinOp → Int → Int → Option Int
  | .add, a, b => some (a + b)
  | .sub, a, b => some (a - b)
  | .mul, a, b => some (a * b)
  | _, _, _ => none
theorem run_ar {op : BinOp} {kd : IntKind} {i j m : Int} (hc : arV op i j = some m) (w : World) : (do eqGuard op t y z (.int kd i) (.int kd j); binOp op t (.int kd i) (.int kd j) : Sem Value).run P w = .ok (.int kd (kd.wrap m)) w := by
  cases op <;> simp only [arV] at hc <;> first
    | cases hc; done
    | (injection hc with hc; subst hc; simp [eqGuard, binOp, Op.intArith]; done)
/-- Sums, wrapped round. -/
theorem PS.arW {op : BinOp} {kd : IntKind} {i j m : Int} (hy : ev E y = some (.int kd i) := by rfl) (hz : ev E z = some (.int kd j) := by rfl) (hc : arV op i j = some m := by rfl) : PS P x E L (.binOp op t y z t') ty (.int kd (kd.wrap m)) := ⟨fun a w _ _ _ _ hE _ => by
  simp only [execOp, hE.ev hy, hE.ev hz]
  have := run_ar (P := P) (t := t) (y := y) (z := z) (kd := kd) hc w
  simp only [Sem.run_bind, Result.andThen] at this ⊢
  rw [this]
  rfl⟩
/-- Sums in range. -/
theorem PS.ar {op : BinOp} {i j m : Int} (hy : ev E y = some (.int .i64 i) := by rfl) (hz : ev E z = some (.int .i64 j) := by rfl) (hc : arV op i j = some m := by rfl) (hb : -9223372036854775808 ≤ m ∧ m ≤ 9223372036854775807 := by omega) : PS P x E L (.binOp op t y z t') ty (.int .i64 m) := by
  have h := PS.arW (P := P) (x := x) (L := L) (t := t) (t' := t') (ty := ty) hy hz hc
  rw [IntWalk.i64_in m hb] at h
  exact h
/-- A counter goes up. -/
theorem PS.inc {i : Nat} {c : Nat} (hy : ev E y = some (.int .i64 (i : Int)) := by rfl) (hb : i + c ≤ 9223372036854775807 := by omega) : PS P x E L (.binOp .add t y (.const (.int .i64 (OfNat.ofNat c))) t') ty (.int .i64 ((i + c : Nat) : Int)) := by
  have hc : (OfNat.ofNat c : Int) = (c : Int) := rfl
  have h := PS.ar (P := P) (x := x) (E := E) (L := L) (t := t) (t' := t') (ty := ty) (op := .add) (z := .const (.int .i64 (OfNat.ofNat c))) hy rfl rfl (by rw [hc]; omega)
  rwa [show (i : Int) + (OfNat.ofNat c : Int) = ((i + c : Nat) : Int) by rw [hc]; omega] at h
/-- Conversions between ints. -/
theorem PS.convW {kd k1 k2 : IntKind} {n : Int} [h1 : IntT P t k1] [h2 : IntT P t' k2] (hy : ev E y = some (.int kd n) := by rfl) : PS P x E L (.convert t t' y) ty (.int k2 (k2.wrap n)) := ⟨fun a w _ _ _ _ hE _ => by
  simp [execOp, hE.ev hy, convert, run_underlying h1.h, run_underlying h2.h, Conv.intToInt]⟩
theorem PS.conv {kd k1 : IntKind} {n : Int} [h1 : IntT P t k1] [h2 : IntT P t' .i64] (hy : ev E y = some (.int kd n) := by rfl) (hb : -9223372036854775808 ≤ n ∧ n ≤ 9223372036854775807 := by omega) : PS P x E L (.convert t t' y) ty (.int .i64 n) := by
  have h := PS.convW (P := P) (x := x) (E := E) (L := L) (t := t) (t' := t') (ty := ty) hy
  rwa [IntWalk.i64_in n hb] at h
theorem PS.rem {i j : Int} (hy : ev E y = some (.int .i64 i) := by rfl) (hz : ev E z = some (.int .i64 j) := by rfl) (hi : 0 ≤ i := by omega) (hj : autoParam (0 < j) ABD.h._autoParam) : PS P x E L (.binOp .rem t y z t') ty (.int .i64 (i % j)) := ⟨fun a w _ _ _ _ hE _ => by
  have h0 : j ≠ 0 := by omega
  have h1 : i.tmod j = i % j := Int.tmod_eq_emod_of_nonneg hi
  simp [execOp, hE.ev hy, hE.ev hz, eqGuard, binOp, Op.intDiv, h0, h1]⟩
theorem PS.quo {i j : Int} (hy : ev E y = some (.int .i64 i) := by rfl) (hz : ev E z = some (.int .i64 j) := by rfl) (hi : 0 ≤ i ∧ i ≤ 9223372036854775807 := by omega) (hj : autoParam (0 < j) ABD.h._autoParam) : PS P x E L (.binOp .quo t y z t') ty (.int .i64 (i / j)) := ⟨fun a w _ _ _ _ hE _ => by
  have h0 : j ≠ 0 := by omega
  have h1 : i.tdiv j = i / j := Int.tdiv_eq_ediv_of_nonneg hi.1
  have h2 : i / j ≤ i := Int.ediv_le_self _ hi.1
  have h3 : 0 ≤ i / j := Int.ediv_nonneg hi.1 (by omega)
  simp [execOp, hE.ev hy, hE.ev hz, eqGuard, binOp, Op.intDiv, h0, h1]
  rw [IntWalk.i64_in (i / j) (by omega)]⟩
def xorV (a b : Int) : Int := IntKind.i64.wrap (((BitVec.ofInt IntKind.i64.bits a) ^^^ (BitVec.ofInt IntKind.i64.bits b)).toNat : Int)
theorem PS.xor {i j : Int} (hy : ev E y = some (.int .i64 i) := by rfl) (hz : ev E z = some (.int .i64 j) := by rfl) : PS P x E L (.binOp .xor t y z t') ty (.int .i64 (xorV i j)) := ⟨fun a w _ _ _ _ hE _ => by
  simp [execOp, hE.ev hy, hE.ev hz, eqGuard, binOp, Op.intBits, xorV]⟩
theorem PS.nilP {b : Addr} (hv : ev E y = some (.pointer (some b)) := by rfl) : PS P x E L (.nilCheck y) ty (.pointer (some b)) := ⟨fun a w _ _ _ _ hE _ => by simp only [execOp, hE.ev hv]; rfl⟩
/-- The n-th of a list, as a term. -/
def nth {α : Type} : List α → Nat → Option α
  | [], _ => none
  | v :: l, n => match n with
    | 0 => some v
    | n + 1 => nth l n
theorem nth_eq {α : Type} : ∀ (l : List α) (n : Nat), nth l n = l[n]?
  | [], _ => rfl
  | _ :: _, 0 => rfl
  | _ :: l, n + 1 => nth_eq l n
theorem PS.extract {vs : List Value} {i : Nat} (hv : ev E y = some (.tuple vs.toArray) := by rfl) (hi : nth vs i = some v := by rfl) : PS P x E L (.extract y i) ty v := ⟨fun a w _ _ _ _ hE _ => by
  rw [nth_eq] at hi
  simp [execOp, hE.ev hv, Instr.extract, hi]⟩
theorem PS.fieldP {b : Addr} {j off : Nat} [hF : FldT P t j off] (hv : ev E y = some (.pointer (some b)) := by rfl) : PS P x E L (.fieldAddr t y j) ty (.pointer (some (b.add off))) := ⟨fun a w _ _ _ _ hE _ => by simp [execOp, hE.ev hv, hF.h b w]⟩
/-! memory: blocks -/
def slc {α : Type} : List α → Nat → Nat → List α
  | l, 0, n => l.take n
  | [], _ + 1, _ => []
  | _ :: l, f + 1, n => slc l f n
theorem slc_eq {α : Type} : ∀ (l : List α) (f n : Nat), slc l f n = (l.drop f).take n
  | l, 0, n => by cases l <;> rfl
  | [], _ + 1, _ => by simp [slc]
  | _ :: l, f + 1, n => slc_eq l f n
/-- A field of a block. -/
theorem PS.fieldB {b f : Nat} {j off m : Nat} [hF : FldT P t j off] (hv : ev E y = some (.pointer (some ⟨b, f, none⟩)) := by rfl) (hm : f + off = m := by rfl) : PS P x E L (.fieldAddr t y j) ty (.pointer (some ⟨b, m, none⟩)) := ⟨fun a w _ _ _ _ hE _ => by
  have : (⟨b, f, none⟩ : Addr).add off = ⟨b, m, none⟩ := by subst hm; unfold Addr.add; split <;> simp_all
  simp [execOp, hE.ev hv, hF.h _ w, this]⟩
theorem at_off (b f : Nat) (j : Nat) : (⟨b, f, none⟩ : Addr).add j = ⟨b, f + j, none⟩ := by unfold Addr.add; split <;> simp_all
theorem PS.load {b f sz bt : Nat} {zv : Value} {cs : Array Value} {T : TypeId} {fr : Nat × Nat} [hT : Ty P t false sz bt zv] (hy : ev E y = some (.pointer (some ⟨b, f, none⟩)) := by rfl) (hp : autoParam (Pick L (blk b (.cells cs T fr)) L') APK.h._autoParam) (hv0 : nth cs.toList f = some v := by rfl) :
    PS P x E L (.load t y) ty v := ⟨fun a w _ _ _ _ hE hS => by
  have hw := (hS.pick hp).read
  have hv : cs[f]? = some v := by rw [nth_eq] at hv0; simpa using hv0
  simp [execOp, hE.ev hy, Instr.loadAt, Instr.sureAddr, loadVar, hT.isAgg, Go.load, Sem.run, World.cell?, hw, hv]⟩
theorem PS.loadH {b f sz bt : Nat} {zv : Value} {cs : Array Value} {T : TypeId} {fr : Nat × Nat} [hT : Ty P t false sz bt zv] (hy : ev E y = some (.pointer (some ⟨b, f, none⟩)) := by rfl) (hr : autoParam (Rd x.w0 x.O L (holds b (.cells cs T fr))) ARD.h._autoParam) (hv0 : nth cs.toList f = some v := by rfl) :
    PS P x E L (.load t y) ty v := ⟨fun a w _ _ _ _ hE hS => by
  have hw : w.heap[b]? = _ := hr.h w hS
  have hv : cs[f]? = some v := by rw [nth_eq] at hv0; simpa using hv0
  simp [execOp, hE.ev hy, Instr.loadAt, Instr.sureAddr, loadVar, hT.isAgg, Go.load, Sem.run, World.cell?, hw, hv]⟩
theorem PS.loadA {b f sz bt : Nat} {zv : Value} {cs : Array Value} {vs : List Value} {T : TypeId} {fr : Nat × Nat} [hT : Ty P t true sz bt zv] (hy : ev E y = some (.pointer (some ⟨b, f, none⟩)) := by rfl) (hp : autoParam (Pick L (blk b (.cells cs T fr)) L') APK.h._autoParam)
    (hv0 : slc cs.toList f sz = vs := by rfl) (hl : Nat.ble (f + sz) cs.toList.length = true := by rfl) : PS P x E L (.load t y) ty (.agg vs.toArray) := ⟨fun a w _ _ _ _ hE hS => by
  have hv := (slc_eq cs.toList f sz).symm.trans hv0
  have hw := (hS.pick hp).read
  have hlen := Nat.le_of_ble_eq_true hl
  have hvl : vs.length = sz := by rw [← hv]; simp; simp at hlen; omega
  have hr := run_loadCells_list (P := P) w ⟨b, f, none⟩ vs (fun j u hu => by
    rw [at_off, ← hv, List.getElem?_take] at *
    split at hu
    · rw [List.getElem?_drop] at hu
      simp [World.cell?, hw]
      simpa using hu
    · cases hu)
  rw [hvl] at hr
  simp [execOp, hE.ev hy, Instr.loadAt, Instr.sureAddr, loadVar, hT.isAgg, hT.sizeOf, hr]⟩
end rules

/-! ### operations that act -/
/-- An operation: what may be told of its value and of what is owned behind it. -/
structure AS (P : Program) (x : Cx) (E : List (Nat × Value)) (L : List HP) (op : Op) (ty : TypeId) (K : Value → List HP → Prop) : Prop where
  h : ∀ a w dst pos aft g (next : Act → World → Prop) (Q : Exit → Act → World → Prop), EnvOK x.n x.ds E a → SAT x.w0 x.O L w → (∀ v L1 w', K v L1 → SAT x.w0 x.O L1 w' → next (a.put dst v) w') → opW P (⟨dst, op, ty, pos, aft, g⟩ : Oper) a w next Q
theorem AS.run {op : Op} {ty : TypeId} {K : Value → List HP → Prop} (h : ∀ a w dst pos aft g, EnvOK x.n x.ds E a → SAT x.w0 x.O L w → ∃ v w' L1, (execOp a.eval ⟨dst, op, ty, pos, aft, g⟩).run P w = .ok (.value v) w' ∧ SAT x.w0 x.O L1 w' ∧ K v L1) : AS P x E L op ty K :=
  ⟨fun a w dst pos aft g next Q hE hS hn => by
    obtain ⟨v, w', L1, hr, hS', hK⟩ := h a w dst pos aft g hE hS
    refine .inl ?_
    unfold Oper.wp
    rw [hr]
    exact hn v L1 w' hK hS'⟩
theorem AS.ps {op : Op} {ty : TypeId} {v : Value} (h : PS P x E L op ty v) : AS P x E L op ty (fun u L1 => u = v ∧ L1 = L) :=
  AS.run fun a w dst pos aft g hE hS => ⟨v, w, L, h.h a w dst pos aft g hE hS, hS, rfl, rfl⟩
theorem OJ.as {op : Op} {ty : TypeId} {d : Option Tmp} {pos : String} {aft : Array Edge} {K : Value → List HP → Prop} (h : AS P x E L op ty K) (hk : ∀ v L1, K v L1 → OJ P x (putE d v E) L1 ops rest k) (hd : okD x.n d = true := by rfl) : OJ P x E L ops (⟨d, op, ty, pos, aft, none⟩ :: rest) k :=
  ⟨fun a w hE hS => wpL_plain rfl (h.h a w _ _ _ _ _ _ hE hS fun v L1 _ hv hS' => (hk v L1 hv).h _ _ (hE.put hd) hS')⟩
section acts
variable {ty t t' t'' : TypeId} {y z c : Operand} {v u : Value}
theorem AS.store {b f sz bt : Nat} {zv : Value} {cs : Array Value} {T : TypeId} {r : List Value} [hT : Ty P t false sz bt zv] (hs : sz = 1 := by rfl) (hy : ev E y = some (.pointer (some ⟨b, f, none⟩)) := by rfl) (hz : ev E z = some v := by rfl) (h1 : autoParam (One x L v) AONE.h._autoParam)
    (hp : autoParam (Pick L (blk b (.cells cs T (0, 0))) L') APK.h._autoParam) (hf : updO cs.toList f [v] = some r := by rfl) : AS P x E L (.store t y z) ty (fun _ L1 => L1 = blk b (.cells r.toArray T (0, 0)) :: L') := by
  refine ⟨fun a w dst pos aft g next Q hE hS hn => ?_⟩
  have h1 := h1.h w hS
  have hS' := hS.pick hp
  have hr0 := storeRun (P := P) hS'.read hf (fun u hu => by rw [List.mem_singleton.1 hu]; exact h1)
  have hr : (execOp a.eval ⟨dst, .store t y z, ty, pos, aft, g⟩).run P w = .ok .skip (w.setRow b r.toArray) := by
    subst hs
    simp [execOp, hE.ev hy, hE.ev hz, Instr.storeAt, Instr.sureAddr, storeVar, cells_one h1, hT.sizeOf, hr0]
  refine .inl ?_
  unfold Oper.wp
  rw [hr]
  exact hn undef _ _ rfl hS'.setRow
theorem AS.box1 (hv : ev E y = some v := by rfl) (h1 : autoParam (One x L v) AONE.h._autoParam) : AS P x E L (.box t y) ty (fun u L1 => ∃ b, u = .pointer (some ⟨b, 0, none⟩) ∧ L1 = blk b (.cells #[v] t (0, 0)) :: L) :=
  AS.run fun a w dst pos aft g hE hS => ⟨.pointer (some ⟨w.heap.size, 0, none⟩), w.alloc (.cells v.cells t (0, 0)), _, by
    simp only [execOp, hE.ev hv]; rfl, hS.alloc _, _, rfl, by rw [cells_one (h1.h w hS)]⟩
theorem AS.boxA {cs : Array Value} (hv : ev E y = some (.agg cs) := by rfl) : AS P x E L (.box t y) ty (fun u L1 => ∃ b, u = .pointer (some ⟨b, 0, none⟩) ∧ L1 = blk b (.cells cs t (0, 0)) :: L) :=
  AS.run fun a w dst pos aft g hE hS => ⟨.pointer (some ⟨w.heap.size, 0, none⟩), w.alloc (.cells cs t (0, 0)), _, by
    simp only [execOp, hE.ev hv]; rfl, hS.alloc _, _, rfl, rfl⟩
theorem AS.alloc {ag : Bool} {sz bt : Nat} {zv : Value} [hT : Ty P t ag sz bt zv] : AS P x E L (.alloc t) ty (fun u L1 => ∃ b, u = .pointer (some ⟨b, 0, none⟩) ∧ L1 = blk b (.cells zv.cells t (0, 0)) :: L) :=
  AS.run fun a w dst pos aft g hE hS => ⟨.pointer (some ⟨w.heap.size, 0, none⟩), w.alloc (.cells zv.cells t (0, 0)), _, by
    simp [execOp, Instr.alloc, hT.zeroValue]; rfl, hS.alloc _, _, rfl, rfl⟩
end acts
end
end Go.SL

/- More rules: structs and slices built, rows, calls, returns. -/
set_option linter.unusedVariables false
set_option linter.unusedSimpArgs false
namespace Go.SL
open Go.RowKit

class StT (P : Program) (t : TypeId) (pl : outParam (Array (Nat × Nat))) : Prop where
  h : ∃ fs, P.underlying t = some (.struct fs) ∧ ∀ w, (fs.mapM fun f => do pure (f.offset, ← sizeOf f.type) : Sem (Array (Nat × Nat))).run P w = .ok pl w

section
variable {P : Program} {x : Cx} {E : List (Nat × Value)} {L L' : List HP} {k : List Fr} {ops : Array Oper} {rest : List Oper}
variable {ty t t' t'' : TypeId} {y z c : Operand} {v u : Value}

/-- Parts of a struct: their values. -/
def evP (E : List (Nat × Value)) : List (Nat × Operand) → Option (List (Nat × Value))
  | [] => some []
  | (i, y) :: r => match ev E y with
    | some v => match evP E r with
      | some vs => some ((i, v) :: vs)
      | none => none
    | none => none
theorem EnvOK.evP {n : Nat} {ds : List Nat} {a : Act} (h : EnvOK n ds E a) : ∀ {ps : List (Nat × Operand)} {vs : List (Nat × Value)}, evP E ps = some vs → ps.map (fun q => (q.1, a.eval q.2)) = vs
  | [], vs, hx => by cases hx; rfl
  | (i, y) :: r, vs, hx => by
    unfold SL.evP at hx
    split at hx
    · rename_i v hv
      split at hx
      · rename_i vs' hvs
        injection hx with hx
        subst hx
        simp [h.ev hv, h.evP hvs]
      · cases hx
    · cases hx
theorem map_pairs (a : Act) (ps : List (Nat × Operand)) : (ps.toArray.map fun (i, y) => (i, a.eval y)) = (ps.map (fun q => (q.1, a.eval q.2))).toArray := by simp
theorem zipFold (off : Nat) : ∀ (vs : List Value) (k : Nat) (cs : Array Value), off + k + vs.length ≤ cs.size →
    ((vs.zipIdx k).foldl (fun (cs : Array Value) (p : Value × Nat) => cs.setIfInBounds (off + p.2) p.1) cs).toList = cs.toList.take (off + k) ++ vs ++ cs.toList.drop (off + k + vs.length)
  | [], k, cs, _ => by simp
  | v :: vs, k, cs, h => by
    simp only [List.zipIdx_cons, List.foldl_cons]
    simp at h
    rw [zipFold off vs (k + 1) _ (by simp; omega)]
    have e := list_seg_step cs.toList (off + k) v vs (by simp; omega)
    simpa [Nat.add_assoc] using e
theorem fillOne (off : Nat) (v : Array Value) (cs : Array Value) (h : off + v.size ≤ cs.size) :
    (v.zipIdx.foldl (fun cs (c, j) => cs.setIfInBounds (off + j) c) cs).toList = cs.toList.take off ++ v.toList ++ cs.toList.drop (off + v.size) := by
  have := zipFold off v.toList 0 cs (by simpa using h)
  rw [← Array.foldl_toList, Array.toList_zipIdx]
  simpa using this
/-- The cells of a value, as a list. -/
def cellsL : Value → List Value
  | .agg cs => cs.toList
  | v => [v]
theorem cellsL_eq (v : Value) : cellsL v = v.cells.toList := by cases v <;> rfl
/-- Parts put into cells, as lists. -/
def fillL (pl : Nat → Option (Nat × Nat)) : List Value → List (Nat × Value) → Option (List Value)
  | cs, [] => some cs
  | cs, (i, v) :: r => match pl i with
    | some (off, size) => match Nat.beq (cellsL v).length size with
      | true => match updO cs off (cellsL v) with
        | some cs' => fillL pl cs' r
        | none => none
      | false => none
    | none => none
theorem fillL_eq {pl : Nat → Option (Nat × Nat)} : ∀ (vs : List (Nat × Value)) (cs : Array Value) (l : List Value), fillL pl cs.toList vs = some l → Instr.fill pl cs vs = some l.toArray
  | [], cs, l, h => by
    injection h with h
    subst h
    simp [Instr.fill]
  | (i, v) :: r, cs, l, h => by
    simp only [fillL] at h
    split at h
    · rename_i off size hp
      split at h
      · rename_i hb
        split at h
        · rename_i cs' hu
          obtain ⟨h1, h2⟩ := updO_eq _ _ _ _ hu
          rw [cellsL_eq] at h1 h2 hb
          have hsz := Nat.eq_of_beq_eq_true hb
          simp only [Instr.fill, hp]
          simp at h1 hsz
          rw [if_neg (by simp; omega)]
          have hf := fillOne off v.cells cs h1
          refine fillL_eq r _ l ?_
          rw [hf]
          rw [h2] at h
          simpa using h
        · cases h
      · cases h
    · cases h
theorem PS.build {ag : Bool} {sz bt : Nat} {zv : Value} {pl : Array (Nat × Nat)} {ps : List (Nat × Operand)} {vs : List (Nat × Value)} {cs : List Value} [hT : Ty P t ag sz bt zv] [hS : StT P t pl] (hv : evP E ps = some vs := by rfl)
    (hf : fillL (nth pl.toList) (cellsL zv) vs = some cs := by rfl) : PS P x E L (.build t ps.toArray) ty (.agg cs.toArray) := ⟨fun a w _ _ _ _ hE _ => by
  obtain ⟨fs, h1, h2⟩ := hS.h
  have h3 := h2 w
  have e : (pl[·]?) = nth pl.toList := by funext j; rw [nth_eq]; simp
  rw [← e, cellsL_eq] at hf
  have hf' := fillL_eq _ _ _ hf
  simp only [execOp, map_pairs, hE.evP hv]
  simp only [Sem.run_bind, Result.andThen, Instr.build, hT.zeroValue, run_underlying h1] at h3 ⊢
  rw [h3]
  simp [hf']⟩
/-- As many as there are places, one behind the other. -/
def zeroL : Nat → List Value
  | 0 => []
  | n + 1 => undef :: zeroL n
theorem zeroL_len : ∀ n, (zeroL n).length = n
  | 0 => rfl
  | n + 1 => by simp [zeroL, zeroL_len n]
/-- Parts in their order, each of sz cells. -/
def catL (sz : Nat) : Nat → List (Nat × Value) → Option (List Value)
  | _, [] => some []
  | i, (j, v) :: r => match Nat.beq j i with
    | true => match Nat.beq (cellsL v).length sz with
      | true => match catL sz (i + 1) r with
        | some l => some (cellsL v ++ l)
        | none => none
      | false => none
    | false => none
theorem catL_eq {sz : Nat} : ∀ (vs : List (Nat × Value)) (i : Nat) (cs : Array Value) (l : List Value), catL sz i vs = some l → cs.size = (i + vs.length) * sz → Instr.fill (fun i => some (i * sz, sz)) cs vs = some (cs.toList.take (i * sz) ++ l).toArray
  | [], i, cs, l, h, hs => by
    injection h with h
    subst h
    simp at hs
    rw [List.append_nil, List.take_of_length_le (by rw [Array.length_toList, hs]; exact Nat.le_refl _)]
    rfl
  | (j, v) :: r, i, cs, l, h, hs => by
    simp only [catL] at h
    split at h
    · rename_i hj
      have hj := Nat.eq_of_beq_eq_true hj
      subst hj
      split at h
      · rename_i hb
        split at h
        · rename_i l' hl
          injection h with h
          have hsz := Nat.eq_of_beq_eq_true hb
          rw [cellsL_eq] at hsz h
          simp at hsz hs
          have h1 : j * sz + v.cells.size ≤ cs.size := by rw [hs, hsz, Nat.add_mul, Nat.add_mul]; omega
          simp only [Instr.fill]
          rw [if_neg (by simp; omega)]
          have hf := fillOne (j * sz) v.cells cs h1
          have hsz2 : (v.cells.zipIdx.foldl (fun (cs : Array Value) (c, k) => cs.setIfInBounds (j * sz + k) c) cs).size = cs.size := by
            rw [← Array.length_toList, hf]; simp; omega
          rw [catL_eq r (j + 1) _ l' hl (by rw [hsz2, hs]; congr 1; omega), hf, ← h]
          congr 1
          rw [← List.append_assoc]
          congr 1
          have e : (j + 1) * sz = (cs.toList.take (j * sz) ++ v.cells.toList).length := by rw [List.length_append, List.length_take]; simp [Nat.add_mul, hsz]; omega
          rw [e, List.take_left]
        · cases h
      · cases h
    · cases h
/-- The same list, written out. -/
def forceL : List Value → Option (List Value)
  | [] => some []
  | v :: vs => match forceL vs with
    | some r => some (v :: r)
    | none => none
theorem forceL_eq : ∀ l, forceL l = some l
  | [] => rfl
  | v :: vs => by simp only [forceL, forceL_eq vs]
def catF (sz : Nat) (vs : List (Nat × Value)) : Option (List Value) := match catL sz 0 vs with
  | some l => forceL l
  | none => none
theorem catF_eq {sz : Nat} {vs : List (Nat × Value)} {cs : List Value} (h : catF sz vs = some cs) : catL sz 0 vs = some cs := by
  unfold catF at h
  split at h
  · rename_i l hl
    rw [forceL_eq] at h
    rw [hl, h]
  · cases h
theorem AS.buildSlice {e n : Nat} {ag : Bool} {sz bt : Nat} {zv : Value} {ps : List (Nat × Operand)} {vs : List (Nat × Value)} {cs : List Value} [hSl : SlT P t e] [hT : Ty P e ag sz bt zv] (hv : evP E ps = some vs := by rfl)
    (hz : Nat.beq zv.cells.size sz = true := by rfl) (hn : Nat.ble (n * sz) 16777216 = true := by rfl) (hnn : Nat.beq vs.length n = true := by rfl) (hf0 : catF sz vs = some cs := by rfl) :
    AS P x E L (.buildSlice t n ps.toArray) ty (fun u L1 => ∃ b, u = .slice (some ⟨b, 0, none⟩) n n ∧ L1 = blk b (.cells cs.toArray e (0, 0)) :: L) :=
  AS.run fun a w dst pos aft g hE hS => by
    refine ⟨.slice (some ⟨w.heap.size, 0, none⟩) n n, w.alloc (.cells cs.toArray e (0, 0)), _, ?_, hS.alloc _, _, rfl, rfl⟩
    have hf := catF_eq hf0
    have hz := Nat.eq_of_beq_eq_true hz
    have hn' := Nat.le_of_ble_eq_true hn
    have hln := Nat.eq_of_beq_eq_true hnn
    have hnn : ¬ (n * sz > 2 ^ 24) := by omega
    have hf' : ∀ zs : Array Value, Instr.fill (fun i => some (i * sz, sz)) ((Array.range (n * sz)).map (zs[· % zs.size]!)) vs = some cs.toArray := fun zs => by
      rw [catL_eq vs 0 _ cs hf (by simp [hln])]
      simp
    simp only [execOp, map_pairs, hE.evP hv]
    simp only [Sem.run_bind, Result.andThen, Instr.buildSlice, run_underlying hSl.h, hT.sizeOf, if_neg hnn]
    by_cases h0 : n * sz = 0
    · have h1 := hf' #[]
      simp only [h0, if_true] at h1 ⊢
      simp at h1
      simp [h1, newRow, newObj, Sem.run]
    · have h1 := hf' zv.cells
      simp only [if_neg h0]
      simp [hT.zeroValue, h1, newRow, newObj, Sem.run]

/-! ### rows -/
theorem PS.len {α : Type} {q : Enc α} {xs : List α} {e : TypeId} [hSl : SlT P t e] (hv : ev E y = some v := by rfl) (hr : autoParam (Rd x.w0 x.O L (rd q v xs)) ARD.h._autoParam) : PS P x E L (.call ⟨.builtin .len, #[y], #[t]⟩) ty (.int .i64 (xs.length : Int)) := ⟨fun a w _ _ _ _ hE hS => by
  obtain ⟨A, c, rfl, _⟩ := hr.h w hS
  simp [execOp, resolve, invoke, builtin, Builtin.len_, hE.ev hv, run_underlying hSl.h, goInt]⟩
theorem PS.lenS {s : ByteArray} [hSl : StrT P t] (hv : ev E y = some (.string s) := by rfl) : PS P x E L (.call ⟨.builtin .len, #[y], #[t]⟩) ty (.int .i64 (s.size : Int)) := ⟨fun a w _ _ _ _ hE hS => by
  simp [execOp, resolve, invoke, builtin, Builtin.len_, hE.ev hv, run_underlying hSl.h, goInt]⟩
theorem PS.lenA {A : Option Addr} {n c : Nat} {e : TypeId} [hSl : SlT P t e] (hv : ev E y = some (.slice A n c) := by rfl) : PS P x E L (.call ⟨.builtin .len, #[y], #[t]⟩) ty (.int .i64 (n : Int)) := ⟨fun a w _ _ _ _ hE hS => by
  simp [execOp, resolve, invoke, builtin, Builtin.len_, hE.ev hv, run_underlying hSl.h, goInt]⟩
/-- An index that is a number of places. -/
theorem PS.index {α : Type} {q : Enc α} {xs : List α} {e : TypeId} {i : Nat} {ag : Bool} {sz bt : Nat} {zv : Value} [hSl : SlT P t e] [hT : Ty P e ag sz bt zv] (hv : ev E y = some v := by rfl) (hi : ev E z = some (.int .i64 (i : Int)) := by rfl)
    (hr : autoParam (Rd x.w0 x.O L (rd q v xs)) ARD.h._autoParam) (hlt : autoParam (i < xs.length) ABD.h._autoParam) : PS P x E L (.indexAddr t y z) ty (elemP sz v i 0) := ⟨fun a w _ _ _ _ hE hS => by
  obtain ⟨A, c, rfl, _, _, hA⟩ := hr.h w hS
  obtain ⟨ad, rfl, _⟩ := hA (by omega)
  have hb : (0 : Int) ≤ (i : Int) ∧ (i : Int) < (xs.length : Int) := by omega
  simp [execOp, hE.ev hv, hE.ev hi, Instr.indexAt, asIntOf, run_underlying hSl.h, hT.sizeOf, elemP, hlt]⟩
/-- .. or any. -/
theorem PS.indexZ {α : Type} {q : Enc α} {xs : List α} {e : TypeId} {i : Int} {ag : Bool} {sz bt : Nat} {zv : Value} [hSl : SlT P t e] [hT : Ty P e ag sz bt zv] (hv : ev E y = some v := by rfl) (hi : ev E z = some (.int .i64 i) := by rfl)
    (hr : autoParam (Rd x.w0 x.O L (rd q v xs)) ARD.h._autoParam) (h0 : 0 ≤ i := by omega) (hlt : autoParam (i < xs.length) ABD.h._autoParam) : PS P x E L (.indexAddr t y z) ty (elemP sz v i.toNat 0) :=
  PS.index (i := i.toNat) hv (by rw [hi]; congr 2; omega) hr (by omega)
theorem PS.indexA {e : TypeId} {b o n c : Nat} {i : Int} {ag : Bool} {sz bt : Nat} {zv : Value} [hSl : SlT P t e] [hT : Ty P e ag sz bt zv] (hv : ev E y = some (.slice (some ⟨b, o, none⟩) n c) := by rfl) (hi : ev E z = some (.int .i64 i) := by rfl)
    (h0 : 0 ≤ i := by omega) (hlt : autoParam (i < n) ABD.h._autoParam) : PS P x E L (.indexAddr t y z) ty (elemP sz (.slice (some ⟨b, o, none⟩) n c) i.toNat 0) := ⟨fun a w _ _ _ _ hE hS => by
  obtain ⟨j, rfl⟩ := Int.eq_ofNat_of_zero_le h0
  have hb : (0 : Int) ≤ (j : Int) ∧ (j : Int) < (n : Int) := by omega
  simp [execOp, hE.ev hv, hE.ev hi, Instr.indexAt, asIntOf, run_underlying hSl.h, hT.sizeOf, elemP, show j < n by omega]⟩
theorem PS.fieldE {sz i f j off : Nat} [hF : FldT P t j off] {α : Type} {q : Enc α} {xs : List α} (hv : ev E y = some (elemP sz v i f) := by rfl) (hr : autoParam (Rd x.w0 x.O L (rd q v xs)) ARD.h._autoParam) (hlt : autoParam (i < xs.length) ABD.h._autoParam) :
    PS P x E L (.fieldAddr t y j) ty (elemP sz v i (f + off)) := ⟨fun a w _ _ _ _ hE hS => by
  obtain ⟨A, c, rfl, _, _, hA⟩ := hr.h w hS
  obtain ⟨ad, rfl, _⟩ := hA (by omega)
  simp [execOp, hE.ev hv, elemP, hF.h, add_add, Nat.add_assoc]⟩
theorem PS.loadE {α : Type} {q : Enc α} {xs : List α} {i f sq : Nat} {sz bt : Nat} {zv : Value} [hT : Ty P t false sz bt zv] (hy : ev E y = some (elemP sq v i f) := by rfl) (hr : autoParam (Rd x.w0 x.O L (rd q v xs)) ARD.h._autoParam) (hlt : autoParam (i < xs.length) ABD.h._autoParam) (hq : q.sz = sq := by rfl)
    (hf : Nat.blt f q.sz = true := by rfl) (hv0 : nth (q.f (xs.getD i q.d)) f = some u := by rfl) : PS P x E L (.load t y) ty u := ⟨fun a w _ _ _ _ hE hS => by
  subst hq
  obtain ⟨A, c, rfl, _, _, hA⟩ := hr.h w hS
  obtain ⟨ad, rfl, hc⟩ := hA (by omega)
  have hf' : f < q.sz := by simpa [Nat.blt_eq] using hf
  have hw := hc (i * q.sz + f) u (by rw [flat_get hlt hf', ← nth_eq]; exact hv0)
  simp [execOp, hE.ev hy, elemP, Instr.loadAt, Instr.sureAddr, loadVar, hT.isAgg, Go.load, Sem.run, hw]⟩
theorem PS.loadEA {α : Type} {q : Enc α} {xs : List α} {i f sq : Nat} {sz bt : Nat} {zv : Value} {vs : List Value} [hT : Ty P t true sz bt zv] (hy : ev E y = some (elemP sq v i f) := by rfl) (hr : autoParam (Rd x.w0 x.O L (rd q v xs)) ARD.h._autoParam) (hlt : autoParam (i < xs.length) ABD.h._autoParam) (hq : q.sz = sq := by rfl)
    (hf : Nat.ble (f + sz) q.sz = true := by rfl) (hv0 : slc (q.f (xs.getD i q.d)) f sz = vs := by rfl) : PS P x E L (.load t y) ty (.agg vs.toArray) := ⟨fun a w _ _ _ _ hE hS => by
  have hv := (slc_eq (q.f (xs.getD i q.d)) f sz).symm.trans hv0
  subst hq
  obtain ⟨A, c, rfl, _, _, hA⟩ := hr.h w hS
  obtain ⟨ad, rfl, hc⟩ := hA (by omega)
  have hf' := Nat.le_of_ble_eq_true hf
  have hvl : vs.length = sz := by rw [← hv]; simp [q.len]; omega
  have hr := run_loadCells_list (P := P) w (ad.add (i * q.sz + f)) vs (fun j u hu => by
    have hj : j < sz := by rw [← hvl]; exact (List.getElem?_eq_some_iff.1 hu).1
    rw [← hv, List.getElem?_take, if_pos hj, List.getElem?_drop] at hu
    rw [add_add, Nat.add_assoc]
    exact hc _ u (by rw [flat_get hlt (by omega)]; exact hu))
  rw [hvl] at hr
  simp [execOp, hE.ev hy, elemP, Instr.loadAt, Instr.sureAddr, loadVar, hT.isAgg, hT.sizeOf, hr]⟩
/-- append of one. -/
theorem AS.append1 {α : Type} {q : Enc α} {xs : List α} {e : TypeId} {b : Nat} {cs : Array Value} {p : α} {L1 L2 : List HP} {ag : Bool} {sz bt : Nat} {zv : Value} [hSl : SlT P t e] [hT : Ty P e ag sz bt zv]
    (hv : ev E y = some v := by rfl) (hz : ev E z = some (.slice (some ⟨b, 0, none⟩) 1 1) := by rfl) (hp : autoParam (Pick L (row q e v xs) L1) APK.h._autoParam) (hb : autoParam (Pick L1 (blk b (.cells cs e (0, 0))) L2) APK.h._autoParam) (hq : q.sz = sz := by rfl) (hzs : zv.cells.size = sz := by rfl) (hdec : q.dec cs.toList = some p := by rfl)
    (hbd : autoParam ((xs.length + 1) * bt ≤ 140737488355328) ABD.h._autoParam) (hbm : autoParam (xs.length + 1 ≤ 9223372036854775807) ABD.h._autoParam) : AS P x E L (.call ⟨.builtin .append, #[y, z], #[t, t]⟩) ty (fun v' L3 => L3 = row q e v' (xs ++ [p]) :: L2) :=
  AS.run fun a w dst pos aft g hE hS => by
    obtain ⟨i, hi, h1, h2, h3⟩ := hT.info
    have hS1 := hS.pick hp
    have hcs : q.f p = cs.toList := q.inv _ _ hdec
    have hS2 : SAT x.w0 x.O (blk b (.cells cs e (0, 0)) :: row q e v xs :: L2) w := hS1.pick (Pick.there hb)
    have hw := hS2.read
    have hown := hS1.ownsRow
    have hcells : ∀ j u, (q.f p)[j]? = some u → w.cell? ((⟨b, 0, none⟩ : Addr).add j) = some u := fun j u hu => by
      rw [at_off]
      simp [World.cell?, hw]
      rw [hcs] at hu
      simpa using hu
    obtain ⟨v', w', hrun, hown', hgr, _, hat⟩ := run_append_own_at (P := P) w 0 t ty e i zv sz bt hSl.h hi h3 h1 h2 hzs (hq ▸ q.pos) v xs.length (xs.flatMap q.f) (hq ▸ hown) ⟨b, 0, none⟩ 1 1 (q.f p) (by rw [q.len, hq, Nat.one_mul]) hcells (q.one p)
      (by simp only [maxLen]; omega) hbd (Nat.zero_le _)
    refine ⟨v', w', row q e v' (xs ++ [p]) :: L2, ?_, ?_, rfl⟩
    · simp only [execOp, resolve, invoke, builtin]
      simp [hE.ev hv, hE.ev hz, hrun]
    · refine SAT.own_append (xs := xs) (ys := [p]) hS1 ?_ hgr hat |>.ent (Ent.pick Pick.here ⟨[blk b (.cells cs e (0, 0))], fun g hg => hb.h g hg⟩)
      rw [← hq] at hown'
      simpa using hown'
end
end Go.SL

/- Calls and returns. -/
set_option linter.unusedVariables false
set_option linter.unusedSimpArgs false
namespace Go.SL
open Go.RowKit

structure RdAll (w0 : World) (O : Nat → Prop) (L : List HP) (Rs : List (World → Prop)) : Prop where
  h : ∀ R ∈ Rs, Rd w0 O L R
theorem RdAll.nil {w0 : World} {O : Nat → Prop} {L : List HP} : RdAll w0 O L [] := ⟨fun _ h => by cases h⟩
theorem RdAll.cons {w0 : World} {O : Nat → Prop} {L : List HP} {R : World → Prop} {Rs : List (World → Prop)} (h : Rd w0 O L R) (hs : RdAll w0 O L Rs) : RdAll w0 O L (R :: Rs) := ⟨fun R' h' => by
  rcases List.mem_cons.1 h' with rfl | h'
  · exact h
  · exact hs.h R' h'⟩
/-- L holds L1, and L2 beside. -/
structure Parts (L L1 L2 : List HP) : Prop where
  h : ∀ h, sepL L h → sepL (L1 ++ L2) h
theorem Parts.nil {L : List HP} : Parts L [] L := ⟨fun _ h => h⟩
theorem Parts.cons {L L1 L2 L3 : List HP} {p : HP} (hp : Pick L p L3) (h : Parts L3 L1 L2) : Parts L (p :: L1) L2 := ⟨fun g hg => by
  obtain ⟨h1, h2, d, e, a, b⟩ := hp.h g hg
  exact ⟨h1, h2, d, e, a, h.h h2 b⟩⟩

section
variable {P : Program} {x : Cx} {E : List (Nat × Value)} {L L1 L2 : List HP} {k : List Fr} {ops : Array Oper} {rest : List Oper}
variable {ty : TypeId} {pos : String} {aft : Array Edge} {v u : Value}
theorem wp_calls {o : Oper} {a : Act} {w : World} {K : Act → World → Prop} {Q : Exit → Act → World → Prop} {f : FuncId} {args : Array Value} (hr : (execOp a.eval o).run P w = .ok (.enter f args) w) {R : Ending → World → Prop} (hc : Calls P f args w R)
    (hk : ∀ e w', R e w' → ∃ v, e = .returned v ∧ K (a.put o.dst v) w') : o.wp P a w K Q := by
  unfold Oper.wp
  rw [hr]
  exact hc.mono fun e w' h => by
    obtain ⟨v, rfl, h2⟩ := hk e w' h
    exact h2
class FnB (P : Program) (f : FuncId) : Prop where
  h : ∀ args w, (callFunc f args).run P w = .ok (.enter f args) w
theorem FnB.mk' {f : FuncId} {fn : Func} (hf : P.funcs[f]? = some fn) (hb : (fn.body.isNone || (fn.name == "runtime.NumGoroutine")) = false) : FnB P f := ⟨fun args w => by
  simp only [Bool.or_eq_false_iff] at hb
  have h1 : fn.name ≠ "runtime.NumGoroutine" := by simpa using hb.2
  have h2 : ¬ fn.body = none := fun e => by rw [e] at hb; exact absurd hb.1 (by decide)
  simp [callFunc, hf, h1, h2]⟩
theorem AS.call {f : FuncId} {as : List Operand} {ts : Array TypeId} {args : List Value} {Rs : List (World → Prop)} {X : Type} {ret : X → Value} {Lo : X → List HP} {po : X → Prop} [hF : FnB P f]
    (hs : Spec P f args Rs L1 ret Lo po) (ha : evs E as = some args := by rfl) (hL : Parts L L1 L2 := by first | exact Parts.nil | exact Parts.cons xPK Parts.nil | exact Parts.cons xPK (Parts.cons xPK Parts.nil) | exact Parts.cons xPK (Parts.cons xPK (Parts.cons xPK Parts.nil)) | fail) (hR : RdAll x.w0 x.O L2 Rs := by first | exact RdAll.nil | exact RdAll.cons xRD RdAll.nil | exact RdAll.cons xRD (RdAll.cons xRD RdAll.nil) | exact RdAll.cons xRD (RdAll.cons xRD (RdAll.cons xRD RdAll.nil)) | fail) :
    AS P x E L (.call ⟨.value (.func f), as.toArray, ts⟩) ty (fun v L3 => ∃ y, po y ∧ v = ret y ∧ L3 = Lo y ++ L2) := by
  refine ⟨fun a w dst pos aft g next Q hE hS hn => ?_⟩
  have hS' : SAT x.w0 x.O (L1 ++ L2) w := ⟨hS.1, let ⟨g, a, b, c⟩ := hS.2; ⟨g, a, b, hL.h g c⟩⟩
  obtain ⟨Oc, h1, h2, h3⟩ := hS'.split
  refine .inl (wp_calls (f := f) (args := args.toArray) ?_ (hs w Oc (fun R hR' => h2 R (hR.h R hR')) h1) ?_)
  · have := hF.h args.toArray w
    simp only [execOp, resolve, Act.eval, Deferred.ofValue, invoke]
    simp [hE.evs ha, this]
  · rintro e w' ⟨y, hy, rfl, hS2⟩
    exact ⟨_, rfl, hn _ _ _ ⟨y, hy, rfl, rfl⟩ (h3 _ _ hS2)⟩

theorem AS.call0 {f : FuncId} {as : List Operand} {ts : Array TypeId} {args : List Value} {Rs : List (World → Prop)} {X : Type} {ret : X → Value} {po : X → Prop} [hF : FnB P f]
    (hs : Spec P f args Rs L1 ret (fun _ => []) po) (ha : evs E as = some args := by rfl) (hL : Parts L L1 L2 := by first | exact Parts.nil | exact Parts.cons xPK Parts.nil | exact Parts.cons xPK (Parts.cons xPK Parts.nil) | exact Parts.cons xPK (Parts.cons xPK (Parts.cons xPK Parts.nil)) | fail) (hR : RdAll x.w0 x.O L2 Rs := by first | exact RdAll.nil | exact RdAll.cons xRD RdAll.nil | exact RdAll.cons xRD (RdAll.cons xRD RdAll.nil) | exact RdAll.cons xRD (RdAll.cons xRD (RdAll.cons xRD RdAll.nil)) | fail) :
    AS P x E L (.call ⟨.value (.func f), as.toArray, ts⟩) ty (fun v L3 => ∃ y, po y ∧ v = ret y ∧ L3 = L2) := AS.call hs ha hL hR
theorem AS.call1 {f : FuncId} {as : List Operand} {ts : Array TypeId} {args : List Value} {Rs : List (World → Prop)} {X : Type} {ret : X → Value} {p : X → HP} {po : X → Prop} [hF : FnB P f]
    (hs : Spec P f args Rs L1 ret (fun y => [p y]) po) (ha : evs E as = some args := by rfl) (hL : Parts L L1 L2 := by first | exact Parts.nil | exact Parts.cons xPK Parts.nil | exact Parts.cons xPK (Parts.cons xPK Parts.nil) | exact Parts.cons xPK (Parts.cons xPK (Parts.cons xPK Parts.nil)) | fail) (hR : RdAll x.w0 x.O L2 Rs := by first | exact RdAll.nil | exact RdAll.cons xRD RdAll.nil | exact RdAll.cons xRD (RdAll.cons xRD RdAll.nil) | exact RdAll.cons xRD (RdAll.cons xRD (RdAll.cons xRD RdAll.nil)) | fail) :
    AS P x E L (.call ⟨.value (.func f), as.toArray, ts⟩) ty (fun v L3 => ∃ y, po y ∧ v = ret y ∧ L3 = p y :: L2) := AS.call hs ha hL hR
/-! returns -/
theorem run_results {ds : List Nat} : ∀ (rs : List ResultVar) (vs : List Value) (a : Act) (w : World) (n : Nat), EnvOK n ds E a → resV E rs = some vs →
    ∀ acc : List Value, (rs.foldlM (fun (bs : Array Value) (r : ResultVar) => bs.push <$>
      (match r with | .tmp t => pure (a.tmps.getD t undef) | .cell c t => do loadVar t (← asAddr (a.tmps.getD c undef)) : Sem Value)) acc.toArray : Sem (Array Value)).run P w = .ok (acc ++ vs).toArray w := by
  intro rs
  induction rs with
  | nil => intro vs a w n hE h acc; cases h; simp
  | cons r rs ih =>
    intro vs a w n hE h acc
    cases r with
    | cell c t => cases h
    | tmp t =>
      unfold resV at h
      split at h
      · rename_i v hv
        split at h
        · rename_i vs' hvs
          injection h with h
          subst h
          have := ih vs' a w n hE hvs (acc ++ [v])
          simp only [List.foldlM_cons, hE.get t v hv]
          simp only [List.append_assoc, List.singleton_append] at this
          simpa using this
        · cases h
      · cases h
theorem results_run {fn : Func} {rs : List ResultVar} {vs : List Value} {a : Act} {w : World} {n : Nat} {ds : List Nat} (hf : fn.results = rs.toArray) (hE : EnvOK n ds E a) (hv : resV E rs = some vs) : (results fn a.tmps).run P w = .ok (tup vs) w := by
  have h := run_results (P := P) rs vs a w n hE hv []
  simp only [List.nil_append] at h
  simp only [results, hf]
  rw [Array.mapM_eq_foldlM]
  simp only [Sem.run_bind, List.foldlM_toArray']
  refine Eq.trans (b := Result.andThen (Result.ok vs.toArray w) _) (congrArg (fun r => Result.andThen r _) h) ?_
  simp only [Result.andThen]
  match vs with
  | [] => rfl
  | [v] => rfl
  | a :: b :: l =>
    rw [dif_neg (by simp)]
    rfl
theorem J.ret {rs : List ResultVar} {vs : List Value} (h : ∀ w, SAT x.w0 x.O L w → x.R (.returned (tup vs)) w) (hf : x.fn.results = rs.toArray := by rfl) (hv : resV E rs = some vs := by rfl) (hq : x.Q0 = bodyPost P x.fn x.R := by rfl) (hds : x.ds = [] := by rfl) : J P x E L .ret k := ⟨fun _ w hE hS =>
  wpIn_ret (post_ret (hq ▸ ⟨by rw [hE.defers, hds]; rfl, tup vs, results_run hf hE hv, h w hS⟩))⟩
theorem JK.fin {rs : List ResultVar} {vs : List Value} (h : ∀ w, SAT x.w0 x.O L w → x.R (.returned (tup vs)) w) (hf : x.fn.results = rs.toArray := by rfl) (hv : resV E rs = some vs := by rfl) (hq : x.Q0 = bodyPost P x.fn x.R := by rfl) (hds : x.ds = [] := by rfl) : JK P x E L [] := ⟨fun _ w hE hS => by
  show x.Q0 .normal _ w
  rw [hq]
  exact ⟨by rw [hE.defers, hds]; rfl, tup vs, results_run hf hE hv, h w hS⟩⟩
theorem ends {w0 : World} {O : Nat → Prop} {X : Type} {ret : X → Value} {Lo : X → List HP} {po : X → Prop} (y : X) (hp : po y) (he : v = ret y) (hL : Ent L (Lo y)) : ∀ w, SAT w0 O L w → Ends w0 O ret Lo po (.returned v) w :=
  fun _ hS => ⟨y, hp, by rw [he], hS.ent hL⟩
end
end Go.SL

/- Regions whose order is drawn; the rules with all side conditions found by themselves. -/
set_option linter.unusedVariables false
set_option linter.unusedSimpArgs false
namespace Go.SL
open Go.RowKit

section
variable {P : Program} {ops : Array Oper} {Q : Exit → Act → World → Prop} {md : Region.Mode}
/-- Whatever order is picked, S (which may hang on what has come up) holds behind every operation. -/
def wpAnyG (P : Program) (md : Region.Mode) (ops : Array Oper) (Q : Exit → Act → World → Prop) (S : Array Bool → World → Prop) : Nat → Array Bool → Act → World → Prop
  | 0, listed, a, w => Region.ready md ops listed = [] ∧ Q .normal a w
  | fuel + 1, listed, a, w =>
    (Region.ready md ops listed = [] → Q .normal a w) ∧
    ∀ i ∈ Region.ready md ops listed, wpW P ops Q i (fun a' w' => S (listed.setIfInBounds i true) w' ∧ wpAnyG P md ops Q S fuel (listed.setIfInBounds i true) a' w') a w
theorem wpAny_of_G {S : Array Bool → World → Prop} {ro : Option Nat} (hd : ro = none ∨ ∀ o ∈ ops, ∀ c, o.op ≠ .defer c) : ∀ (fuel : Nat) (listed : Array Bool) (a : Act) (w : World), wpAnyG P md ops Q S fuel listed a w → wpAnyIn (fen ro) 0 P md ops Q fuel listed a w
  | 0, _, _, _, h => h
  | fuel + 1, _, _, _, h => ⟨h.1, fun i hi => wpW_in hd (wpW_mono (fun a' w' h' => wpAny_of_G hd fuel _ a' w' h'.2) (h.2 i hi))⟩
theorem wpAnyG_mono' {S S' : Array Bool → World → Prop} {s : Nat} (hS : ∀ listed w, listed.getD s false = true → S' listed w → S listed w) : ∀ (fuel : Nat) (listed : Array Bool) (a : Act) (w : World), listed.getD s false = true → wpAnyG P md ops Q S' fuel listed a w → wpAnyG P md ops Q S fuel listed a w
  | 0, _, _, _, _, h => h
  | fuel + 1, _, _, _, hl, h => ⟨h.1, fun i hi => wpW_mono (fun a' w' h' => ⟨hS _ _ (getD_set_true hl) h'.1, wpAnyG_mono' hS fuel _ a' w' (getD_set_true hl) h'.2⟩) (h.2 i hi)⟩
theorem wpAnyG_mono {S S' : Array Bool → World → Prop} (hS : ∀ listed w, S' listed w → S listed w) : ∀ (fuel : Nat) (listed : Array Bool) (a : Act) (w : World), wpAnyG P md ops Q S' fuel listed a w → wpAnyG P md ops Q S fuel listed a w
  | 0, _, _, _, h => h
  | fuel + 1, _, _, _, h => ⟨h.1, fun i hi => wpW_mono (fun a' w' h' => ⟨hS _ _ h'.1, wpAnyG_mono hS fuel _ a' w' h'.2⟩) (h.2 i hi)⟩
theorem _root_.Go.YieldsIf.toW {T : World → Prop} {i : Nat} {oi : Oper} {v : Value} {a : Act} {w : World} {K : Act → World → Prop} (hy : YieldsIf P ops T oi v a) (hi : ops[i]? = some oi) (hT : T w) (hK : K (a.put oi.dst v) w) : wpW P ops Q i K a w := by
  have h := hy.wpOp (Q := Q) (K := K) hi hT hK
  unfold wpOp at h
  unfold wpW
  rw [hi] at h ⊢
  simp only at h ⊢
  split
  · rename_i hw
    rw [if_pos hw] at h
    rcases hy with ⟨h1, h2⟩ | ⟨h1, h2⟩
    · refine .inl ?_
      unfold Oper.wp
      rw [h2 w hT]
      exact hK
    · rw [h1] at hw; cases hw
  · rename_i hw
    rw [if_neg hw] at h
    exact h
theorem wpW_putIf {S : World → Prop} {j : Nat} {oi oj : Oper} {v : Value} (hj : ops[j]? = some oj) (hap : oi.apart ops oj = true) (hsi : ∀ cs b, oi.op ≠ .select cs b) (hsj : ∀ cs b, oj.op ≠ .select cs b)
    (hQ : ∀ c a w, Q (.panic c) (a.put oi.dst v) w → Q (.panic c) a w) {K : Act → World → Prop} {a : Act} {w : World} (hy : YieldsIf P ops S oi v a) (h : wpW P ops Q j K (a.put oi.dst v) w) :
    wpW P ops Q j (fun a' w' => YieldsIf P ops S oi v a' ∧ K (a'.put oi.dst v) w') a w := by
  obtain ⟨h1, h2, h3⟩ := Oper.apart_spec hap
  have keep : ∀ u, YieldsIf P ops S oi v (a.put oj.dst u) := fun u => hy.of_same (execOp_put oi hsi a oj.dst u h3) (wanted_put oi a oj.dst u h3)
  unfold wpW at *
  simp only [hj] at *
  rw [wanted_put oj a oi.dst v h1] at h
  split
  · rename_i hw
    rw [if_pos hw] at h
    rcases h with h | ⟨l, f, tmps, assign, body, w', e1, e2⟩
    · refine .inl ?_
      unfold Oper.wp at h ⊢
      rw [execOp_put oj hsj a oi.dst v h1] at h
      generalize (execOp a.eval oj).run P w = r at *
      cases r with
      | ok n w' =>
        cases n <;> simp only [Oper.upon] at h ⊢
        case value u => exact ⟨keep u, by rw [← Act.put_comm a v u h2]; exact h⟩
        case skip => exact ⟨keep _, by rw [← Act.put_comm a v undef h2]; exact h⟩
        case defer d =>
          refine ⟨(hy.of_same (a' := { a with defers := d :: a.defers }) rfl rfl).of_same (execOp_put oi hsi _ oj.dst undef h3) (wanted_put oi _ oj.dst undef h3), ?_⟩
          rw [← Act.put_comm _ v undef h2, ← Act.put_defers]
          exact h
        case enter f args =>
          refine Calls.mono h fun e w'' he => ?_
          cases e with
          | returned u => exact ⟨keep u, by rw [← Act.put_comm a v u h2]; exact he⟩
          | panicked c => exact hQ _ _ _ he
          | outgrown => exact he
        case row row args => exact Rows.mono h fun u w'' he => ⟨keep u, by rw [← Act.put_comm a v u h2]; exact he⟩
      | halt x w' =>
        cases x <;> simp only [Oper.upon] at h ⊢
        case panic u => exact hQ _ _ _ h
    · rw [execOp_put oj hsj a oi.dst v h1] at e1
      refine .inr ⟨l, f, tmps, assign, body, w', e1, RoundIn.mono e2 ?_⟩
      rintro e w'' ⟨u, rfl, hk⟩
      exact ⟨u, rfl, keep u, by rw [← Act.put_comm a v u h2]; exact hk⟩
  · rename_i hw
    rw [if_neg hw] at h
    exact ⟨keep _, by rw [← Act.put_comm a v undef h2]; exact h⟩
/-- What has come up is closed under what had to come ahead. -/
def Closed (md : Region.Mode) (ops : Array Oper) (listed : Array Bool) : Prop :=
  listed.size = ops.size ∧ ∀ j oj, ops[j]? = some oj → listed.getD j false = true → ∀ e ∈ oj.after, Region.binds md e = true → listed.getD e.on false = true
theorem Closed.set {listed : Array Bool} {i : Nat} (h : Closed md ops listed) (hi : i ∈ Region.ready md ops listed) : Closed md ops (listed.setIfInBounds i true) := by
  obtain ⟨_, oi, hoi, hall⟩ := mem_ready.1 hi
  refine ⟨by simp [h.1], fun j oj hj hl e he hb => ?_⟩
  by_cases hij : i = j
  · subst hij
    have : oj = oi := Option.some.inj (hj.symm.trans hoi)
    subst this
    exact getD_set_true (hall e he hb)
  · rw [getD_set_ne false hij] at hl
    exact getD_set_true (h.2 j oj hj hl e he hb)
theorem wpAnyG_first {S : Array Bool → World → Prop} {T : World → Prop} {i : Nat} {oi : Oper} {v : Value} (hi : ops[i]? = some oi) (hsel : ∀ (j : Nat) (o : Oper) cs b, ops[j]? = some o → o.op ≠ .select cs b)
    (hQ : ∀ c a w, Q (.panic c) (a.put oi.dst v) w → Q (.panic c) a w)
    (hT : ∀ listed w, Closed md ops listed → listed.getD i true = false → S listed w → T w) (hm : ∀ listed w, S listed w ↔ S (listed.setIfInBounds i true) w) :
    ∀ (fuel : Nat) (listed : Array Bool) (a : Act) (w : World), Closed md ops listed →
      (∀ j oj, ops[j]? = some oj → j ≠ i → listed.getD j true = false → (∀ e ∈ oj.after, Region.binds md e = true → e.on ≠ i) → oi.apart ops oj = true) →
      i ∈ Region.ready md ops listed → YieldsIf P ops T oi v a → S listed w →
      wpAnyG P md ops Q S fuel (listed.setIfInBounds i true) (a.put oi.dst v) w → wpAnyG P md ops Q S (fuel + 1) listed a w := by
  intro fuel
  induction fuel with
  | zero =>
    intro listed a w hc _ hr hy hS H
    refine ⟨fun h => (by rw [h] at hr; cases hr), fun j hj => ?_⟩
    by_cases hji : j = i
    · subst hji; exact hy.toW hi (hT _ _ hc (mem_ready.1 hr).1 hS) ⟨(hm _ _).1 hS, H⟩
    · have := ready_mono hj hji
      rw [H.1] at this
      cases this
  | succ fuel ih =>
    intro listed a w hc hfree hr hy hS H
    refine ⟨fun h => (by rw [h] at hr; cases hr), fun j hj => ?_⟩
    by_cases hji : j = i
    · subst hji; exact hy.toW hi (hT _ _ hc (mem_ready.1 hr).1 hS) ⟨(hm _ _).1 hS, H⟩
    · have h1 := H.2 j (ready_mono hj hji)
      obtain ⟨hjun, oj, hoj, hall⟩ := mem_ready.1 hj
      have hnot : ∀ e ∈ oj.after, Region.binds md e = true → e.on ≠ i := fun e he hb heq => by
        have h1 := hall e he hb
        have h0 := (mem_ready.1 hr).1
        rw [heq] at h1
        rcases Nat.lt_or_ge i listed.size with h' | h'
        · simp [h'] at h0 h1; rw [h0] at h1; cases h1
        · simp [Array.getElem?_eq_none h'] at h1
      have h2 := wpW_putIf hoj (hfree j oj hoj hji hjun hnot) (fun cs b => hsel i oi cs b hi) (fun cs b => hsel j oj cs b hoj) hQ hy h1
      have hri : i ∈ Region.ready md ops (listed.setIfInBounds j true) := ready_mono hr (fun e => hji e.symm)
      have hfree' : ∀ k ok, ops[k]? = some ok → k ≠ i → (listed.setIfInBounds j true).getD k true = false →
          (∀ e ∈ ok.after, Region.binds md e = true → e.on ≠ i) → oi.apart ops ok = true := fun k ok hk hki hun hno => by
        refine hfree k ok hk hki ?_ hno
        by_cases hjk : j = k
        · subst hjk; exact hjun
        · rw [getD_set_ne true hjk] at hun; exact hun
      refine wpW_mono (fun a' w' h3 => ?_) h2
      have hS' : S (listed.setIfInBounds j true) w' := (hm _ _).2 (by rw [Array.setIfInBounds_comm _ _ hji]; exact h3.2.1)
      refine ⟨hS', ih (listed.setIfInBounds j true) a' w' (hc.set hj) hfree' (ready_mono hr (Ne.symm hji)) h3.1 hS' ?_⟩
      rw [Array.setIfInBounds_comm _ _ hji]
      exact h3.2.2
end

/-! ### the judgement -/
/-- What the world is known to hold within a region: L0 as long as number s.1 has not come up, L1 as long as s.2 has not (all the while, if that is 1000). -/
def SS (x : Cx) (L0 L1 : List HP) (s : Nat × Nat) (listed : Array Bool) (w : World) : Prop := SAT x.w0 x.O [] w ∧ (listed.getD s.1 true = false → SAT x.w0 x.O L0 w) ∧ ((Nat.beq s.2 1000 || !(listed.getD s.2 true)) = true → SAT x.w0 x.O L1 w)
/-- Those that have come up, the last one first, as marks. -/
def marks (m : Nat) : List Nat → Array Bool
  | [] => Array.replicate m false
  | i :: dl => (marks m dl).setIfInBounds i true
/-! ### what is asked of a region once -/
def bindsA (e : Edge) : Bool :=
  match e.ground with
  | .textOnly _ => false
  | .gcOnly _ => false
  | _ => true
theorem bindsA_eq (e : Edge) : bindsA e = Region.binds .any e := by
  unfold bindsA Region.binds
  cases e.ground <;> rfl
def edgeTo (i : Nat) : List Edge → Bool
  | [] => false
  | e :: es => match Nat.beq e.on i with
    | true => (match bindsA e with
      | true => true
      | false => edgeTo i es)
    | false => edgeTo i es
def isDst (t : Nat) : Option Tmp → Bool
  | some d => Nat.beq d t
  | none => false
/-- Number t is given by no operation but by those that these edges name, and by number j. -/
def writersOk (t j : Nat) (es : List Edge) : Nat → List Oper → Bool
  | _, [] => true
  | i, o :: l => match isDst t o.dst with
    | false => writersOk t j es (i + 1) l
    | true => (Nat.beq i j || (edgeTo i es || edgeTo j o.after.toList)) && writersOk t j es (i + 1) l
def looksOk (l : List Oper) (j : Nat) (es : List Edge) : List Tmp → Bool
  | [] => true
  | t :: ts => writersOk t j es 0 l && looksOk l j es ts
def dstOnce (d j : Nat) : Nat → List Oper → Bool
  | _, [] => true
  | i, o :: l => match isDst d o.dst with
    | false => dstOnce d j (i + 1) l
    | true => Nat.beq i j && dstOnce d j (i + 1) l
def dstOk (l : List Oper) (j : Nat) : Option Tmp → Bool
  | none => true
  | some d => dstOnce d j 0 l
def edgesIn (n : Nat) : List Edge → Bool
  | [] => true
  | e :: es => Nat.blt e.on n && edgesIn n es
def pairsOk (l : List Oper) (n : Nat) : Nat → List Oper → Bool
  | _, [] => true
  | j, o :: r => (dstOk l j o.dst && (looksOk l j o.after.toList (o.looksAt l.toArray) && edgesIn n o.after.toList)) && pairsOk l n (j + 1) r
def stat (l : List Oper) : Bool := Region.noSelect l.toArray && (Nat.ble l.length 100 && pairsOk l l.length 0 l)
theorem edgeTo_no {i : Nat} : ∀ {es : List Edge}, (∀ e ∈ es, Region.binds .any e = true → e.on ≠ i) → edgeTo i es = false
  | [], _ => rfl
  | e :: es, h => by
    have ih := edgeTo_no (i := i) (es := es) (fun e' he => h e' (List.mem_cons_of_mem _ he))
    simp only [edgeTo]
    split
    · rename_i hb
      split
      · rename_i hq
        rw [bindsA_eq] at hq
        exact absurd (Nat.eq_of_beq_eq_true hb) (h e List.mem_cons_self hq)
      · exact ih
    · exact ih
theorem writersOk_at {t j : Nat} {es : List Edge} : ∀ {l : List Oper} {b k : Nat} {o : Oper}, writersOk t j es b l = true → l[k]? = some o → o.dst = some t → b + k = j ∨ edgeTo (b + k) es = true ∨ edgeTo j o.after.toList = true
  | [], _, _, _, _, h, _ => by simp at h
  | p :: l, b, 0, o, h, hk, hd => by
    simp only [List.getElem?_cons_zero, Option.some.injEq] at hk
    subst hk
    simp only [writersOk, hd, isDst, Nat.beq_refl, Bool.and_eq_true, Bool.or_eq_true] at h
    exact h.1.imp (fun e => Nat.eq_of_beq_eq_true e) fun e => e
  | p :: l, b, k + 1, o, h, hk, hd => by
    simp only [List.getElem?_cons_succ] at hk
    have h' : writersOk t j es (b + 1) l = true := by
      simp only [writersOk] at h
      split at h
      · exact h
      · simp only [Bool.and_eq_true] at h
        exact h.2
    have := writersOk_at h' hk hd
    rwa [show b + 1 + k = b + (k + 1) by omega] at this
theorem dstOnce_at {d j : Nat} : ∀ {l : List Oper} {b k : Nat} {o : Oper}, dstOnce d j b l = true → l[k]? = some o → o.dst = some d → b + k = j
  | [], _, _, _, _, h, _ => by simp at h
  | p :: l, b, 0, o, h, hk, hd => by
    simp only [List.getElem?_cons_zero, Option.some.injEq] at hk
    subst hk
    simp only [dstOnce, hd, isDst, Nat.beq_refl, Bool.and_eq_true] at h
    exact Nat.eq_of_beq_eq_true h.1
  | p :: l, b, k + 1, o, h, hk, hd => by
    simp only [List.getElem?_cons_succ] at hk
    have h' : dstOnce d j (b + 1) l = true := by
      simp only [dstOnce] at h
      split at h
      · exact h
      · simp only [Bool.and_eq_true] at h
        exact h.2
    have := dstOnce_at h' hk hd
    omega
theorem looksOk_at {l : List Oper} {j : Nat} {es : List Edge} {t : Tmp} : ∀ {ts : List Tmp}, looksOk l j es ts = true → t ∈ ts → writersOk t j es 0 l = true
  | [], _, h => by cases h
  | u :: ts, h, ht => by
    simp only [looksOk, Bool.and_eq_true] at h
    rcases List.mem_cons.1 ht with rfl | ht
    · exact h.1
    · exact looksOk_at h.2 ht
theorem pairsOk_at {l : List Oper} {n : Nat} : ∀ {r : List Oper} {b k : Nat} {o : Oper}, pairsOk l n b r = true → r[k]? = some o → dstOk l (b + k) o.dst = true ∧ looksOk l (b + k) o.after.toList (o.looksAt l.toArray) = true ∧ edgesIn n o.after.toList = true
  | [], _, _, _, _, h => by simp at h
  | p :: r, b, 0, o, h, hk => by
    simp only [List.getElem?_cons_zero, Option.some.injEq] at hk
    subst hk
    simp only [pairsOk, Bool.and_eq_true] at h
    exact ⟨h.1.1, h.1.2.1, h.1.2.2⟩
  | p :: r, b, k + 1, o, h, hk => by
    simp only [List.getElem?_cons_succ] at hk
    simp only [pairsOk, Bool.and_eq_true] at h
    have := pairsOk_at h.2 hk
    rwa [show b + 1 + k = b + (k + 1) by omega] at this
theorem edgesIn_at {n : Nat} : ∀ {es : List Edge} {e : Edge}, edgesIn n es = true → e ∈ es → e.on < n
  | [], _, _, h => by cases h
  | p :: es, e, h, he => by
    simp only [edgesIn, Bool.and_eq_true, Nat.blt_eq] at h
    rcases List.mem_cons.1 he with rfl | he
    · exact h.1
    · exact edgesIn_at h.2 he
theorem stat_apart {l : List Oper} {i j : Nat} {oi oj : Oper} (h : stat l = true) (hi : l[i]? = some oi) (hj : l[j]? = some oj) (hne : j ≠ i)
    (h1 : ∀ e ∈ oj.after, Region.binds .any e = true → e.on ≠ i) (h2 : ∀ e ∈ oi.after, Region.binds .any e = true → e.on ≠ j) : oi.apart l.toArray oj = true := by
  simp only [stat, Bool.and_eq_true] at h
  have hpi := pairsOk_at h.2.2 hi
  have hpj := pairsOk_at h.2.2 hj
  rw [Nat.zero_add] at hpi hpj
  have e1 : edgeTo i oj.after.toList = false := edgeTo_no fun e he => h1 e (by simpa using he)
  have e2 : edgeTo j oi.after.toList = false := edgeTo_no fun e he => h2 e (by simpa using he)
  unfold Oper.apart
  rw [Bool.and_eq_true]
  constructor
  · cases hd : oi.dst with
    | none => rfl
    | some d =>
      simp only [Bool.and_eq_true, Bool.not_eq_true', bne_iff_ne, ne_eq]
      constructor
      · cases hc : (oj.looksAt l.toArray).contains d with
        | false => rfl
        | true =>
          have := writersOk_at (looksOk_at hpj.2.1 (by simpa using hc)) hi hd
          rw [Nat.zero_add, e1, e2] at this
          exact absurd (this.resolve_right (by simp)) (Ne.symm hne)
      · intro he
        have h3 := hpj.1
        rw [he] at h3
        have := dstOnce_at h3 hi hd
        omega
  · cases hd : oj.dst with
    | none => rfl
    | some d =>
      simp only [Bool.not_eq_true']
      cases hc : (oi.looksAt l.toArray).contains d with
      | false => rfl
      | true =>
        have := writersOk_at (looksOk_at hpi.2.1 (by simpa using hc)) hj hd
        rw [Nat.zero_add, e1, e2] at this
        exact absurd (this.resolve_right (by simp)) hne
structure AJ (P : Program) (x : Cx) (E : List (Nat × Value)) (L L0 L1 : List HP) (s : Nat × Nat) (l : List Oper) (fuel : Nat) (dl : List Nat) (k : List Fr) : Prop where
  h : stat l = true → ∀ a w, EnvOK x.n x.ds E a → SAT x.w0 x.O L w → SS x L0 L1 s (marks l.length dl) w → Closed .any l.toArray (marks l.length dl) → wpAnyG P .any l.toArray (post P x k) (SS x L0 L1 s) fuel (marks l.length dl) a w
theorem iAJ {P : Program} {x : Cx} {E : List (Nat × Value)} {L L0 L1 : List HP} {s : Nat × Nat} {l : List Oper} {fuel : Nat} {dl : List Nat} {k : List Fr} (h : AJ P x E L L0 L1 s l fuel dl k) : AJ P x E L L0 L1 s l fuel dl k := h
def memN (i : Nat) : List Nat → Bool
  | [] => false
  | j :: l => match Nat.beq i j with
    | true => true
    | false => memN i l
/-- Functions that may write what is owned. -/
def effs : List Nat := [15, 17, 19, 21, 27, 32, 33, 34, 38, 42, 57, 61, 62, 71, 115, 116]
def isEff : Op → Bool
  | .call { callee := .value (.func f), .. } => memN f effs
  | .call { callee := .value (.tmp _), .. } => true
  | .store .. | .mapUpdate .. | .insert .. | .entryStore .. | .mapEntry .. => true
  | .call { callee := .builtin .append, .. } => true
  | .call { callee := .builtin .copy, .. } => true
  | .call { callee := .builtin .clear, .. } => true
  | _ => false
def isAct : Op → Bool
  | .box .. | .alloc .. | .buildSlice .. | .makeSlice .. | .makeMap .. | .store .. | .mapUpdate .. | .insert .. | .entryStore .. | .mapEntry .. => true
  | .call { callee := .builtin .len, .. } => false
  | .call { callee := .builtin .cap, .. } => false
  | .call { callee := .builtin .max, .. } => false
  | .call { callee := .builtin .min, .. } => false
  | .call _ => true
  | _ => false
def nums : List Nat := [0, 1, 2, 3, 4, 5, 6, 7, 8, 9, 10, 11, 12, 13, 14, 15, 16, 17, 18, 19, 20, 21, 22, 23, 24, 25, 26, 27, 28, 29, 30, 31, 32, 33, 34, 35, 36, 37, 38, 39, 40, 41, 42, 43, 44, 45, 46, 47, 48, 49, 50, 51, 52, 53, 54, 55, 56, 57, 58, 59, 60, 61, 62, 63, 64, 65, 66, 67, 68, 69, 70, 71, 72, 73, 74, 75, 76, 77, 78, 79, 80, 81, 82, 83, 84, 85, 86, 87, 88, 89, 90, 91, 92, 93, 94, 95, 96, 97, 98, 99]
/-- The first effect's number (how many operations there are, if there is none). -/
def firstEff : List Nat → List Oper → Option Nat
  | i :: _, [] => some i
  | i :: is, o :: l => match isEff o.op with
    | true => some i
    | false => firstEff is l
  | [], _ => none
def countO : List Nat → List Oper → Option Nat
  | i :: _, [] => some i
  | _ :: is, _ :: l => countO is l
  | [], _ => none
def mem (i : Nat) : List Nat → Bool
  | [] => false
  | j :: l => match Nat.beq i j with
    | true => true
    | false => mem i l
def allIn : List Edge → List Nat → Bool
  | [], _ => true
  | e :: es, dl => match bindsA e with
    | true => match mem e.on dl with
      | true => allIn es dl
      | false => false
    | false => allIn es dl
/-- The next plain (b = false) operation that can come up, or the next that acts. -/
def nextP (b : Bool) (dl : List Nat) : List Nat → List Oper → Option (Nat × Oper)
  | i :: is, o :: l => match mem i dl with
    | true => nextP b dl is l
    | false => match Bool.xor b (isAct o.op) with
      | true => nextP b dl is l
      | false => match allIn o.after.toList dl with
        | true => some (i, o)
        | false => nextP b dl is l
  | _, _ => none
/-- The next guarded one. -/
def nextG (dl : List Nat) : List Nat → List Oper → Option (Nat × Oper)
  | i :: is, o :: l => match mem i dl with
    | true => nextG dl is l
    | false => match o.guard with
      | none => nextG dl is l
      | some _ => match allIn o.after.toList dl with
        | true => some (i, o)
        | false => nextG dl is l
  | _, _ => none
def selL (b : Bool) (L0 L1 : List HP) : List HP :=
  match b with
  | true => L0
  | false => L1
/-- Number s waits for number i. -/
def waitsAny (g : Nat → Bool) (i : Nat) : List Edge → Bool
  | [] => false
  | e :: es => match bindsA e with
    | false => waitsAny g i es
    | true => match Nat.beq e.on i with
      | true => true
      | false => match Nat.blt i e.on with
        | false => waitsAny g i es
        | true => match g e.on with
          | true => true
          | false => waitsAny g i es
theorem waitsAny_spec {g : Nat → Bool} {i : Nat} : ∀ {es : List Edge}, waitsAny g i es = true → ∃ e ∈ es, bindsA e = true ∧ (Nat.beq e.on i = true ∨ g e.on = true)
  | [], h => by cases h
  | e :: es, h => by
    have next : waitsAny g i es = true → ∃ e' ∈ e :: es, bindsA e' = true ∧ (Nat.beq e'.on i = true ∨ g e'.on = true) := fun h => by
      obtain ⟨e', h1, h2⟩ := waitsAny_spec h
      exact ⟨e', List.mem_cons_of_mem _ h1, h2⟩
    simp only [waitsAny] at h
    split at h
    · exact next h
    · rename_i hb
      split at h
      · rename_i hq
        exact ⟨e, List.mem_cons_self, hb, .inl hq⟩
      · split at h
        · exact next h
        · split at h
          · rename_i hg
            exact ⟨e, List.mem_cons_self, hb, .inr hg⟩
          · exact next h
def waits (l : List Oper) : Nat → Nat → Nat → Bool
  | 0, _, _ => false
  | f + 1, s, i => match nth l s with
    | some o => waitsAny (fun t => waits l f t i) i o.after.toList
    | none => false
theorem waits_listed {l : List Oper} {listed : Array Bool} {i : Nat} (hc : Closed .any l.toArray listed) (hi : listed.getD i true = false) : ∀ (f s : Nat), waits l f s i = true → listed.getD s true = false := by
  intro f
  induction f with
  | zero => intro s h; cases h
  | succ f ih =>
    intro s h
    unfold waits at h
    split at h
    · rename_i o ho
      rw [nth_eq] at ho
      have ho' : l.toArray[s]? = some o := by simpa using ho
      obtain ⟨e, he, hb⟩ := waitsAny_spec h
      rw [bindsA_eq] at hb
      have hlt : s < listed.size := by rw [hc.1]; exact (Array.getElem?_eq_some_iff.1 ho').1
      cases hs : listed.getD s false with
      | false => exact getD_in hlt hs
      | true =>
        have h1 := hc.2 s o ho' hs e (by simpa using he) hb.1
        rcases hb.2 with h2 | h2
        · rw [Nat.eq_of_beq_eq_true h2] at h1
          rw [getD_both hi] at h1
          cases h1
        · rw [getD_both (ih _ h2)] at h1
          cases h1
    · cases h
section
variable {P : Program} {x : Cx} {E : List (Nat × Value)} {L L0 L1 L2 : List HP} {k : List Fr} {ops : Array Oper} {l : List Oper} {s : Nat × Nat} {fuel i : Nat} {dl : List Nat} {v u : Value} {op : Op} {ty : TypeId} {d : Tmp} {pos : String} {aft : Array Edge}
class Wide (P : Program) : Prop where
  h : P.follows .mixedOrders = true
theorem J.drawAt (s : Nat × Nat) (L1 : List HP) [hW : Wide P] {id : Nat} (h : AJ P x E L L L1 s l l.length [] k) (he : Ent L L1) (hst : stat l = true) (hd : noDef x.ro l = true := by rfl) : J P x E L (.region id l.toArray true) k :=
  ⟨fun a w hE hS => by
    refine wpIn_region_any hW.h (wpAny_of_G (S := SS x L L1 s) ((noDef_spec hd).imp (fun e => e) fun h o ho => h o (by simpa using ho)) _ _ _ _ ?_)
    have hS' : SAT x.w0 x.O L { w with drawn := w.drawn + 1 } := hS.same rfl rfl rfl rfl
    have hsz : l.toArray.size = l.length := by simp
    rw [hsz]
    refine h.h hst a _ hE hS' ⟨hS'.ent Ent.nil, fun _ => hS', fun _ => hS'.ent he⟩ ⟨by simp [marks], fun j oj _ hl => ?_⟩
    exfalso
    have : (marks l.length []).getD j false = false := getD_replicate_false _ _
    rw [this] at hl
    cases hl⟩
theorem countO_eq : ∀ (l : List Oper) (is : List Nat) (b m : Nat), (∀ j i, is[j]? = some i → i = b + j) → countO is l = some m → m = b + l.length
  | [], [], _, _, _, h => by cases h
  | [], i :: is, b, m, hi, h => by
    have := hi 0 i rfl
    injection h with h
    simp only [List.length_nil]
    omega
  | _ :: _, [], _, _, _, h => by cases h
  | _ :: l, _ :: is, b, m, hi, h => by
    have := countO_eq l is (b + 1) m (fun j i hj => by have := hi (j + 1) i hj; omega) h
    simp only [List.length_cons]
    omega
theorem nums_get (j i : Nat) (h : nums[j]? = some i) : i = 0 + j := by
  have e : nums = List.range 100 := by decide +kernel
  rw [e] at h
  have := List.getElem?_eq_some_iff.1 h
  obtain ⟨h1, h2⟩ := this
  simp at h2
  omega
/-- The next effect, those that have come up left aside (1000: none). -/
def nextEff (dl : List Nat) : List Nat → List Oper → Option Nat
  | i :: is, o :: l => match mem i dl with
    | true => nextEff dl is l
    | false => match isEff o.op with
      | true => some i
      | false => nextEff dl is l
  | _, _ => some 1000
/-- Functions that turn nothing but a drawing's reader. -/
def rdrs : List Nat := [15, 17, 19, 32, 33, 34, 38, 61, 62]
def isRdr : Op → Bool
  | .call { callee := .value (.func f), .. } => memN f rdrs
  | _ => false
/-- 0: no effect, 1: a reader's, 2: another. -/
def effKind (l : List Oper) (s : Nat) : Nat :=
  match nth l s with
  | none => 0
  | some o => match isRdr o.op with
    | true => 1
    | false => 2
/-- The next effect that is no reader's. -/
def nextWr (dl : List Nat) : List Nat → List Oper → Option Nat
  | i :: is, o :: l => match mem i dl with
    | true => nextWr dl is l
    | false => match isEff o.op with
      | false => nextWr dl is l
      | true => match isRdr o.op with
        | true => nextWr dl is l
        | false => some i
  | _, _ => some 1000
/-- The block that the effect writes, where it is known ahead. -/
inductive Tgt
  | none
  | blk (b : Nat)
def effTgt (E : List (Nat × Value)) (l : List Oper) (s : Nat) : Tgt :=
  match nth l s with
  | .some o => match o.op with
    | .store _ a _ => match ev E a with
      | .some (.pointer (.some ad)) => .blk ad.block
      | _ => .none
    | _ => .none
  | .none => .none
def effEnd (t : Tgt) (dl : List Nat) (l : List Oper) (s : Nat) : Option Nat :=
  match effKind l s with
  | 1 => nextWr (s :: dl) nums l
  | _ => match t with
    | .blk _ => nextEff (s :: dl) nums l
    | .none => some 1000
/-- What a reader's effect leaves. -/
structure Keep (L L' : List HP) : Prop where
  h : Ent L L'
theorem ent_cons {p : HP} {L L' : List HP} (h : Ent L L') : Ent (p :: L) (p :: L') := Ent.pick Pick.here h
theorem ent_drop {p : HP} {L L' : List HP} (h : Ent L L') : Ent (p :: L) L' := by
  obtain ⟨L1, h1⟩ := h.h
  refine ⟨p :: L1, fun g hg => ?_⟩
  obtain ⟨g1, g2, d, e, hp, hL⟩ := hg
  exact ⟨g1, g2, d, e, hp, h1 g2 hL⟩
theorem Keep.nil : Keep [] [] := ⟨Ent.nil⟩
theorem Keep.blk {b : Nat} {o : Obj} {L L' : List HP} (h : Keep L L') : Keep (SL.blk b o :: L) (SL.blk b o :: L') := ⟨ent_cons h.h⟩
theorem Keep.row {α : Type} {q : Enc α} {e : TypeId} {v : Value} {xs : List α} {L L' : List HP} (h : Keep L L') : Keep (SL.row q e v xs :: L) (SL.row q e v xs :: L') := ⟨ent_cons h.h⟩
theorem Keep.drop {p : HP} {L L' : List HP} (h : Keep L L') : Keep (p :: L) L' := ⟨ent_drop h.h⟩
structure KeepS (b : Nat) (L L' : List HP) : Prop where
  h : Ent L L'
theorem KeepS.nil {b : Nat} : KeepS b [] [] := ⟨Ent.nil⟩
theorem KeepS.skip {b : Nat} {o : Obj} {L L' : List HP} (h : KeepS b L L') : KeepS b (SL.blk b o :: L) L' := ⟨ent_drop h.h⟩
theorem KeepS.skipR {b o n c : Nat} {α : Type} {q : Enc α} {e : TypeId} {xs : List α} {L L' : List HP} (h : KeepS b L L') : KeepS b (SL.row q e (.slice (some ⟨b, o, none⟩) n c) xs :: L) L' := ⟨ent_drop h.h⟩
theorem KeepS.keep {b : Nat} {p : HP} {L L' : List HP} (h : KeepS b L L') : KeepS b (p :: L) (p :: L') := ⟨ent_cons h.h⟩
structure KeepIf (c : Nat) (t : Tgt) (L L' : List HP) : Prop where
  h : Ent L L'
theorem KeepIf.k0 {t : Tgt} : KeepIf 0 t L L := ⟨Ent.refl⟩
theorem KeepIf.k1 {t : Tgt} (h : Keep L L1) : KeepIf 1 t L L1 := ⟨h.h⟩
theorem KeepIf.k2 {t : Tgt} : KeepIf 2 t L [] := ⟨Ent.nil⟩
theorem KeepIf.k3 {b : Nat} (h : KeepS b L L1) : KeepIf 2 (.blk b) L L1 := ⟨h.h⟩
/-- The usual: what the region's first effect may turn is known up to it. -/
theorem J.draw [hW : Wide P] {id m s e : Nat} {Lx : List HP} (h : AJ P x E L L Lx (s, e) l m [] k) (hm : countO nums l = some m := by rfl) (_hs : nextEff [] nums l = some s := by rfl) (_he : effEnd (effTgt E l s) [] l s = some e := by rfl) (hL : autoParam (KeepIf (effKind l s) (effTgt E l s) L Lx) AKEEP.h._autoParam) (hst : stat l = true := by decide +kernel) (hd : noDef x.ro l = true := by rfl) : J P x E L (.region id l.toArray true) k := by
  have hm' := countO_eq l nums 0 m nums_get hm
  rw [Nat.zero_add] at hm'
  exact J.drawAt (s, e) Lx (by rw [← hm']; exact h) hL.h hst hd
theorem nextP_spec {b : Bool} {dl : List Nat} {i : Nat} {o : Oper} : ∀ {is : List Nat} {l : List Oper}, nextP b dl is l = some (i, o) → mem i dl = false ∧ allIn o.after.toList dl = true
  | [], _, h => by simp [nextP] at h
  | _ :: _, [], h => by simp [nextP] at h
  | k :: is, p :: l, h => by
    simp only [nextP] at h
    split at h
    · exact nextP_spec h
    · rename_i hm
      split at h
      · exact nextP_spec h
      · split at h
        · rename_i ha
          simp only [Option.some.injEq, Prod.mk.injEq] at h
          obtain ⟨rfl, rfl⟩ := h
          exact ⟨hm, ha⟩
        · exact nextP_spec h
theorem nextG_spec {dl : List Nat} {i : Nat} {o : Oper} : ∀ {is : List Nat} {l : List Oper}, nextG dl is l = some (i, o) → mem i dl = false ∧ allIn o.after.toList dl = true
  | [], _, h => by simp [nextG] at h
  | _ :: _, [], h => by simp [nextG] at h
  | k :: is, p :: l, h => by
    simp only [nextG] at h
    split at h
    · exact nextG_spec h
    · rename_i hm
      split at h
      · exact nextG_spec h
      · split at h
        · rename_i ha
          simp only [Option.some.injEq, Prod.mk.injEq] at h
          obtain ⟨rfl, rfl⟩ := h
          exact ⟨hm, ha⟩
        · exact nextG_spec h
theorem marks_size (m : Nat) : ∀ (dl : List Nat), (marks m dl).size = m
  | [] => by simp [marks]
  | _ :: dl => by simp [marks, marks_size m dl]
theorem mem_marks {m s : Nat} (hs : s < m) : ∀ (dl : List Nat), mem s dl = true → (marks m dl).getD s false = true
  | [], h => by cases h
  | i :: dl, h => by
    simp only [mem] at h
    split at h
    · rename_i hb
      have := Nat.eq_of_beq_eq_true hb
      subst this
      have hlt : s < (marks m dl).size := by rw [marks_size]; exact hs
      simp [marks, hlt]
    · exact getD_set_true (mem_marks hs dl h)
theorem marks_mem {m s : Nat} : ∀ (dl : List Nat), (marks m dl).getD s false = true → mem s dl = true
  | [], h => by rw [show marks m [] = Array.replicate m false from rfl, getD_replicate_false] at h; cases h
  | i :: dl, h => by
    simp only [mem]
    split
    · rfl
    · rename_i hb
      refine marks_mem (m := m) dl ?_
      rw [show marks m (i :: dl) = (marks m dl).setIfInBounds i true from rfl, getD_set_ne false (fun e => by rw [e, Nat.beq_refl] at hb; cases hb)] at h
      exact h
theorem allIn_at {dl : List Nat} : ∀ {es : List Edge} {e : Edge}, allIn es dl = true → e ∈ es → bindsA e = true → mem e.on dl = true
  | [], _, _, h, _ => by cases h
  | p :: es, e, h, he, hb => by
    simp only [allIn] at h
    rcases List.mem_cons.1 he with rfl | he
    · rw [hb] at h
      simp only at h
      split at h
      · assumption
      · cases h
    · refine allIn_at (es := es) ?_ he hb
      split at h
      · split at h
        · exact h
        · cases h
      · exact h
theorem allIn_of {dl : List Nat} : ∀ {es : List Edge}, (∀ e ∈ es, bindsA e = true → mem e.on dl = true) → allIn es dl = true
  | [], _ => rfl
  | p :: es, h => by
    have ih := allIn_of (dl := dl) (es := es) fun e he => h e (List.mem_cons_of_mem _ he)
    simp only [allIn]
    split
    · rename_i hb
      rw [h p List.mem_cons_self hb]
      exact ih
    · exact ih
theorem ready_of {i : Nat} {o : Oper} (hst : stat l = true) (hi : l[i]? = some o) (hm : mem i dl = false) (ha : allIn o.after.toList dl = true) : i ∈ Region.ready .any l.toArray (marks l.length dl) := by
  simp only [stat, Bool.and_eq_true] at hst
  have hp := (pairsOk_at hst.2.2 hi).2.2
  have hlt : i < l.length := (List.getElem?_eq_some_iff.1 hi).1
  refine mem_ready.2 ⟨?_, o, by simpa using hi, fun e he hb => ?_⟩
  · refine getD_in (by rw [marks_size]; exact hlt) ?_
    cases h : (marks l.length dl).getD i false with
    | false => rfl
    | true => rw [marks_mem dl h] at hm; cases hm
  · have he' : e ∈ o.after.toList := by simpa using he
    exact mem_marks (edgesIn_at hp he') dl (allIn_at ha he' (by rw [bindsA_eq]; exact hb))
/-- All that can come up. -/
def readyL (dl : List Nat) : List Nat → List Oper → List Nat
  | i :: is, o :: l => match mem i dl with
    | true => readyL dl is l
    | false => match allIn o.after.toList dl with
      | true => i :: readyL dl is l
      | false => readyL dl is l
  | _, _ => []
theorem readyL_at {dl : List Nat} : ∀ {l : List Oper} {is : List Nat} {b k : Nat} {o : Oper}, (∀ j, j < l.length → is[j]? = some (b + j)) → l[k]? = some o → mem (b + k) dl = false → allIn o.after.toList dl = true → b + k ∈ readyL dl is l
  | [], _, _, _, _, _, h, _, _ => by simp at h
  | p :: l, [], _, _, _, hi, _, _, _ => by have := hi 0 (by simp); simp at this
  | p :: l, i :: is, b, 0, o, hi, hk, hm, ha => by
    simp only [List.getElem?_cons_zero, Option.some.injEq] at hk
    subst hk
    have h0 := hi 0 (by simp)
    simp only [List.getElem?_cons_zero, Option.some.injEq] at h0
    subst h0
    have hm' : mem i dl = false := hm
    simp [readyL, hm', ha]
  | p :: l, i :: is, b, k + 1, o, hi, hk, hm, ha => by
    simp only [List.getElem?_cons_succ] at hk
    have h := readyL_at (l := l) (is := is) (b := b + 1) (k := k) (o := o) (dl := dl) (fun j hj => by
      have := hi (j + 1) (by simp; omega)
      simp only [List.getElem?_cons_succ] at this
      rw [this]; congr 1; omega) hk (by rw [show b + 1 + k = b + (k + 1) by omega]; exact hm) ha
    rw [show b + 1 + k = b + (k + 1) by omega] at h
    simp only [readyL]
    split
    · exact h
    · split
      · exact List.mem_cons_of_mem _ h
      · exact h
theorem nums_at {j : Nat} (h : j < 100) : nums[j]? = some (0 + j) := by
  have e : nums = List.range 100 := by decide +kernel
  rw [e, Nat.zero_add]
  simp [h]
theorem ready_sub {i : Nat} (hst : stat l = true) (h : i ∈ Region.ready .any l.toArray (marks l.length dl)) : i ∈ readyL dl nums l := by
  simp only [stat, Bool.and_eq_true] at hst
  have hn := Nat.le_of_ble_eq_true hst.2.1
  obtain ⟨h0, o, ho, hall⟩ := mem_ready.1 h
  have ho' : l[i]? = some o := by simpa using ho
  have := readyL_at (dl := dl) (is := nums) (b := 0) (k := i) (o := o) (l := l) (fun j hj => nums_at (by omega)) ho' (by
    rw [Nat.zero_add]
    cases hm : mem i dl with
    | false => rfl
    | true =>
      have hlt : i < l.length := (List.getElem?_eq_some_iff.1 ho').1
      have := mem_marks hlt dl hm
      rw [getD_both h0] at this
      cases this) (allIn_of fun e he hb => marks_mem dl (hall e (by simpa using he) (by rw [← bindsA_eq]; exact hb)))
  rwa [Nat.zero_add] at this
theorem ready_nil (hst : stat l = true) (h : readyL dl nums l = []) : Region.ready .any l.toArray (marks l.length dl) = [] :=
  List.eq_nil_iff_forall_not_mem.2 fun i hi => by
    have := ready_sub hst hi
    rw [h] at this
    cases this
theorem AJ.done (h : JK P x E L k) (hr : readyL dl nums l = [] := by decide +kernel) : AJ P x E L L0 L1 s l fuel dl k :=
  ⟨fun hst a w hE hS _ _ => by
    have hr := ready_nil hst hr
    cases fuel with
    | zero => exact ⟨hr, h.h a w hE hS⟩
    | succ n => exact ⟨fun _ => h.h a w hE hS, by rw [hr]; simp⟩⟩
theorem post_panic {c : List PanicEntry} {a : Act} {w : World} : ∀ {k : List Fr}, post P x k (.panic c) a w ↔ x.Q0 (.panic c) a w
  | [] => Iff.rfl
  | .code _ :: k => post_panic (k := k)
  | .loop _ :: k => post_panic (k := k)
  | .blk _ :: k => post_panic (k := k)
theorem post_panic_put (c : List PanicEntry) (a : Act) (w : World) (d : Option Tmp) (u : Value) (h : post P x k (.panic c) (a.put d u) w) : post P x k (.panic c) a w := by
  rw [post_panic] at h ⊢
  exact x.pan c a w d u h
theorem AJ.taken {o : Oper} {T : World → Prop} (hi : l[i]? = some o) (hma : mem i dl = false ∧ allIn o.after.toList dl = true) (h4 : Nat.beq i s.1 = false) (h5 : Nat.beq i s.2 = false) (hd : okD x.n o.dst = true)
    (hT : ∀ listed w, Closed .any l.toArray listed → listed.getD i true = false → SS x L0 L1 s listed w → T w) (hy : ∀ a, EnvOK x.n x.ds E a → YieldsIf P l.toArray T o v a) (hk : AJ P x (putE o.dst v E) L L0 L1 s l fuel (i :: dl) k) : AJ P x E L L0 L1 s l (fuel + 1) dl k := by
  have hne : i ≠ s.1 := fun e => by rw [← e, Nat.beq_refl] at h4; cases h4
  have hne2 : i ≠ s.2 := fun e => by rw [← e, Nat.beq_refl] at h5; cases h5
  refine ⟨fun hst a w hE hS hSS hc => ?_⟩
  have hm : ∀ listed w, SS x L0 L1 s listed w ↔ SS x L0 L1 s (listed.setIfInBounds i true) w := fun listed w => by
    unfold SS
    rw [getD_set_ne true hne, getD_set_ne true hne2]
  have hr : i ∈ Region.ready .any l.toArray (marks l.length dl) := ready_of hst hi hma.1 hma.2
  have hi' : l.toArray[i]? = some o := by simpa using hi
  have hns : Region.noSelect l.toArray = true := by
    simp only [stat, Bool.and_eq_true] at hst
    exact hst.1
  refine wpAnyG_first hi' (Region.noSelect_spec hns) (fun c a w => post_panic_put c a w _ _) hT hm fuel (marks l.length dl) a w hc (fun j oj hj hji hun hno => ?_) hr (hy a hE) hSS
    (hk.h hst _ w (hE.put hd) hS ((hm _ _).1 hSS) (hc.set hr))
  refine stat_apart hst hi (by simpa using hj) hji hno fun e he hb heq => ?_
  obtain ⟨_, o2, ho2, hall⟩ := mem_ready.1 hr
  have : o2 = o := Option.some.inj (ho2.symm.trans hi')
  subst this
  have := hall e he hb
  rw [heq, getD_both hun] at this
  cases this
/-- Which of the phases an operation sees: 0, 1, or none. -/
def selC (l : List Oper) (s : Nat × Nat) (i : Nat) : Option Nat := match waits l 9 s.1 i with
  | true => some 0
  | false => match Nat.beq s.2 1000 with
    | true => some 1
    | false => match waits l 9 s.2 i with
      | true => some 1
      | false => some 2
def selN (c : Nat) (L0 L1 : List HP) : List HP := match c with
  | 0 => L0
  | 1 => L1
  | _ => []
inductive Sel : Nat → List HP → List HP → List HP → Prop
  | z {L0 L1 : List HP} : Sel 0 L0 L1 L0
  | o {L0 L1 : List HP} : Sel 1 L0 L1 L1
  | n {L0 L1 : List HP} : Sel 2 L0 L1 []
theorem Sel.eq {c : Nat} {L0 L1 Lc : List HP} (h : Sel c L0 L1 Lc) : selN c L0 L1 = Lc := by cases h <;> rfl
theorem SS.pick {c : Nat} (hsc : selC l s i = some c) : ∀ listed w, Closed .any l.toArray listed → listed.getD i true = false → SS x L0 L1 s listed w → SAT x.w0 x.O (selN c L0 L1) w := by
  intro listed w hc hl hSS
  unfold selC at hsc
  split at hsc
  · rename_i hw
    cases hsc
    exact hSS.2.1 (waits_listed hc hl 9 s.1 hw)
  · split at hsc
    · rename_i hb
      cases hsc
      exact hSS.2.2 (by rw [hb]; rfl)
    · split at hsc
      · rename_i hb _ hw2
        cases hsc
        exact hSS.2.2 (by rw [waits_listed hc hl 9 s.2 hw2, hb]; rfl)
      · cases hsc
        exact hSS.1
/-- A plain operation of the region, taken first. -/
theorem AJ.take {c : Nat} {Lc : List HP} (hk : AJ P x ((d, v) :: E) L L0 L1 s l fuel (i :: dl) k) (hnx : nextP false dl nums l = some (i, ⟨some d, op, ty, pos, aft, none⟩) := by rfl) (hi : nth l i = some ⟨some d, op, ty, pos, aft, none⟩ := by rfl)
 (hsc : selC l s i = some c := by rfl) (hse : Sel c L0 L1 Lc := by first | with_reducible exact Sel.z | with_reducible exact Sel.o | exact Sel.n) (hps : autoParam (PS P x E Lc op ty v) APSA.h._autoParam) (h4 : Nat.beq i s.1 = false := by rfl) (h5 : Nat.beq i s.2 = false := by rfl) (hd : Nat.blt d x.n = true := by rfl) : AJ P x E L L0 L1 s l (fuel + 1) dl k :=
  AJ.taken (o := ⟨some d, op, ty, pos, aft, none⟩) (T := SAT x.w0 x.O Lc) (by rw [← nth_eq]; exact hi) (nextP_spec hnx) h4 h5 hd (hse.eq ▸ SS.pick hsc) (fun a hE => .inl ⟨by simp [Region.wanted], fun w hw => hps.h a w _ _ _ _ hE hw⟩) hk
theorem AJ.takeY {j c : Nat} {b : Bool} {Lc : List HP} (hk : AJ P x ((d, v) :: E) L L0 L1 s l fuel (i :: dl) k) (hnx : nextP false dl nums l = some (i, ⟨some d, op, ty, pos, aft, some (j, b)⟩) := by rfl) (hi : nth l i = some ⟨some d, op, ty, pos, aft, some (j, b)⟩ := by rfl)
    (hg : gval l.toArray E j = some u := by rfl) (hu : u = .bool b := by with_reducible rfl)
 (hsc : selC l s i = some c := by rfl) (hse : Sel c L0 L1 Lc := by first | with_reducible exact Sel.z | with_reducible exact Sel.o | exact Sel.n) (hps : autoParam (PS P x E Lc op ty v) APSA.h._autoParam) (h4 : Nat.beq i s.1 = false := by rfl) (h5 : Nat.beq i s.2 = false := by rfl) (hd : Nat.blt d x.n = true := by rfl) : AJ P x E L L0 L1 s l (fuel + 1) dl k :=
  AJ.taken (o := ⟨some d, op, ty, pos, aft, some (j, b)⟩) (T := SAT x.w0 x.O Lc) (by rw [← nth_eq]; exact hi) (nextP_spec hnx) h4 h5 hd (hse.eq ▸ SS.pick hsc) (fun a hE => .inl ⟨by simp [Region.wanted, yielded_of hE (hu ▸ hg)], fun w hw => hps.h a w _ _ _ _ hE hw⟩) hk
theorem AJ.takeN {j : Nat} {b t : Bool} (hk : AJ P x ((d, undef) :: E) L L0 L1 s l fuel (i :: dl) k) (hnx : nextG dl nums l = some (i, ⟨some d, op, ty, pos, aft, some (j, b)⟩) := by rfl) (hi : nth l i = some ⟨some d, op, ty, pos, aft, some (j, b)⟩ := by rfl)
    (hg : gval l.toArray E j = some u := by rfl) (hu : u = .bool t := by with_reducible rfl) (hn : t = !b := by rfl) (h4 : Nat.beq i s.1 = false := by rfl) (h5 : Nat.beq i s.2 = false := by rfl) (hd : Nat.blt d x.n = true := by rfl) : AJ P x E L L0 L1 s l (fuel + 1) dl k :=
  AJ.taken (o := ⟨some d, op, ty, pos, aft, some (j, b)⟩) (T := fun _ => True) (by rw [← nth_eq]; exact hi) (nextG_spec hnx) h4 h5 hd (fun _ _ _ _ _ => trivial) (fun a hE => .inr ⟨by simp [Region.wanted, yielded_of hE (hu ▸ hg), hn], rfl⟩) hk
theorem AJ.takeNd {j : Nat} {b t : Bool} (hk : AJ P x E L L0 L1 s l fuel (i :: dl) k) (hnx : nextG dl nums l = some (i, ⟨none, op, ty, pos, aft, some (j, b)⟩) := by rfl) (hi : nth l i = some ⟨none, op, ty, pos, aft, some (j, b)⟩ := by rfl)
    (hg : gval l.toArray E j = some u := by rfl) (hu : u = .bool t := by with_reducible rfl) (hn : t = !b := by rfl) (h4 : Nat.beq i s.1 = false := by rfl) (h5 : Nat.beq i s.2 = false := by rfl) : AJ P x E L L0 L1 s l (fuel + 1) dl k :=
  AJ.taken (o := ⟨none, op, ty, pos, aft, some (j, b)⟩) (T := fun _ => True) (v := undef) (by rw [← nth_eq]; exact hi) (nextG_spec hnx) h4 h5 rfl (fun _ _ _ _ _ => trivial) (fun a hE => .inr ⟨by simp [Region.wanted, yielded_of hE (hu ▸ hg), hn], rfl⟩) hk
theorem AJ.takeU {d : Option Tmp} {j : Nat} {b : Bool} (hk : AJ P x (putE d undef E) L L0 L1 s l fuel (i :: dl) k) (hnx : nextG dl nums l = some (i, ⟨d, op, ty, pos, aft, some (j, b)⟩) := by rfl) (hi : nth l i = some ⟨d, op, ty, pos, aft, some (j, b)⟩ := by rfl)
    (hg : gval l.toArray E j = some u := by rfl) (hu : u = undef := by with_reducible rfl) (h4 : Nat.beq i s.1 = false := by rfl) (h5 : Nat.beq i s.2 = false := by rfl) (hd : okD x.n d = true := by rfl) : AJ P x E L L0 L1 s l (fuel + 1) dl k :=
  AJ.taken (o := ⟨d, op, ty, pos, aft, some (j, b)⟩) (T := fun _ => True) (v := undef) (by rw [← nth_eq]; exact hi) (nextG_spec hnx) h4 h5 hd (fun _ _ _ _ _ => trivial) (fun a hE => .inr ⟨by simp [Region.wanted, yielded_u hE (hu ▸ hg)], rfl⟩) hk
/-- Nothing acts any more. -/
theorem AJ.calm (h : AJ P x E L L L (1000, 1000) l fuel dl k) (he0 : Ent L L0) (he1 : Ent L L1) : AJ P x E L L0 L1 s l fuel dl k :=
  ⟨fun hst a w hE hS _ hc => wpAnyG_mono (S' := SS x L L (1000, 1000)) (fun _ _ h => ⟨h.1, fun _ => (h.2.2 rfl).ent he0, fun _ => (h.2.2 rfl).ent he1⟩) _ _ _ _ (h.h hst a w hE hS ⟨hS.ent Ent.nil, fun _ => hS, fun _ => hS⟩ hc)⟩
theorem AJ.takeNS {d : Option Tmp} {j : Nat} {b t : Bool} (hk : AJ P x (putE d undef E) L L L (1000, 1000) l fuel (i :: dl) k) (hnx : nextG dl nums l = some (i, ⟨d, op, ty, pos, aft, some (j, b)⟩) := by rfl) (hi : nth l i = some ⟨d, op, ty, pos, aft, some (j, b)⟩ := by rfl)
    (hg : gval l.toArray E j = some u := by rfl) (hu : u = .bool t := by with_reducible rfl) (hn : t = !b := by rfl) (_hs : Nat.beq i s.1 = true := by rfl) (h4 : Nat.beq i 1000 = false := by rfl) (he0 : autoParam (Ent L L0) AENT.h._autoParam) (he1 : autoParam (Ent L L1) AENT.h._autoParam) (hd : okD x.n d = true := by rfl) : AJ P x E L L0 L1 s l (fuel + 1) dl k :=
  AJ.calm (AJ.taken (o := ⟨d, op, ty, pos, aft, some (j, b)⟩) (T := fun _ => True) (by rw [← nth_eq]; exact hi) (nextG_spec hnx) h4 h4 hd (fun _ _ _ _ _ => trivial) (fun a hE => .inr ⟨by simp [Region.wanted, yielded_of hE (hu ▸ hg), hn], rfl⟩) hk) he0 he1
/-- A guard that is not decided. -/
theorem AJ.split {o : Oper} {j : Nat} {b' t : Bool} {p q : Prop} (h1 : p → AJ P x ((d, .bool true) :: E) L L0 L1 s l fuel dl k) (h2 : q → AJ P x ((d, .bool false) :: E) L L0 L1 s l fuel dl k)
    (_hn : nextG dl nums l = some (i, o) := by rfl) (_hg : o.guard = some (j, b') := by rfl) (hv : gval l.toArray E j = some (.bool t) := by rfl) (hd : gdst l.toArray j = some d := by rfl) (hb : autoParam (BT t p q) ABT.h._autoParam) (_hu : autoParam (Und t) AUN.h._autoParam) : AJ P x E L L0 L1 s l fuel dl k :=
  ⟨fun hst a w hE hS hSS hc => by
    have hl : lookup E d = some (.bool t) := by
      unfold gval at hv
      unfold gdst at hd
      cases ho : l.toArray[j]? with
      | none => rw [ho] at hv; cases hv
      | some o =>
        rw [ho] at hv hd
        simp only at hv hd
        rw [hd] at hv
        exact hv
    have hs : ∀ t', t = t' → EnvOK x.n x.ds ((d, .bool t') :: E) a := fun t' e => ⟨hE.size, hE.defers, fun s v hv => by
      simp only [lookup] at hv
      split at hv
      · rename_i hb
        injection hv with hv
        rw [← hv, Nat.eq_of_beq_eq_true hb, ← e]
        exact hE.get d _ hl
      · exact hE.get s v hv⟩
    cases ht : t with
    | true => exact (h1 (hb.yes ht)).h hst a w (hs true ht) hS hSS hc
    | false => exact (h2 (hb.no ht)).h hst a w (hs false ht) hS hSS hc⟩
/-- Number i is run: nothing but it can come up. -/
structure AO (P : Program) (x : Cx) (E : List (Nat × Value)) (L L0 L1 : List HP) (s : Nat × Nat) (l : List Oper) (fuel : Nat) (dl : List Nat) (k : List Fr) (i : Nat) (d : Option Tmp) (op : Op) (ty : TypeId) : Prop where
  h : ∃ K, AS P x E L op ty K ∧ ∀ v L2, K v L2 → (((Nat.beq i s.1 || mem s.1 dl) = false → Ent L2 L0) ∧ ((Nat.beq i s.2 || mem s.2 dl) = false → Ent L2 L1)) ∧ AJ P x (putE d v E) L2 L0 L1 s l fuel (i :: dl) k
theorem iAO {P : Program} {x : Cx} {E : List (Nat × Value)} {L L0 L1 : List HP} {s : Nat × Nat} {l : List Oper} {fuel : Nat} {dl : List Nat} {k : List Fr} {i : Nat} {d : Option Tmp} {ty : TypeId} {op : Op} (h : AO P x E L L0 L1 s l fuel dl k i d op ty) : AO P x E L L0 L1 s l fuel dl k i d op ty := h
theorem iAstore {P : Program} {x : Cx} {E : List (Nat × Value)} {L L0 L1 : List HP} {s : Nat × Nat} {l : List Oper} {fuel : Nat} {dl : List Nat} {k : List Fr} {i : Nat} {d : Option Tmp} {ty : TypeId} {a0 : TypeId} {a1 : Operand} {a2 : Operand} (h : AO P x E L L0 L1 s l fuel dl k i d (.store a0 a1 a2) ty) : AO P x E L L0 L1 s l fuel dl k i d (.store a0 a1 a2) ty := h
theorem iAcall {P : Program} {x : Cx} {E : List (Nat × Value)} {L L0 L1 : List HP} {s : Nat × Nat} {l : List Oper} {fuel : Nat} {dl : List Nat} {k : List Fr} {i : Nat} {d : Option Tmp} {ty : TypeId} {a0 : Call} (h : AO P x E L L0 L1 s l fuel dl k i d (.call a0) ty) : AO P x E L L0 L1 s l fuel dl k i d (.call a0) ty := h
theorem iAbox {P : Program} {x : Cx} {E : List (Nat × Value)} {L L0 L1 : List HP} {s : Nat × Nat} {l : List Oper} {fuel : Nat} {dl : List Nat} {k : List Fr} {i : Nat} {d : Option Tmp} {ty : TypeId} {a0 : TypeId} {a1 : Operand} (h : AO P x E L L0 L1 s l fuel dl k i d (.box a0 a1) ty) : AO P x E L L0 L1 s l fuel dl k i d (.box a0 a1) ty := h
theorem iAalloc {P : Program} {x : Cx} {E : List (Nat × Value)} {L L0 L1 : List HP} {s : Nat × Nat} {l : List Oper} {fuel : Nat} {dl : List Nat} {k : List Fr} {i : Nat} {d : Option Tmp} {ty : TypeId} {a0 : TypeId} (h : AO P x E L L0 L1 s l fuel dl k i d (.alloc a0) ty) : AO P x E L L0 L1 s l fuel dl k i d (.alloc a0) ty := h
theorem iAbuildSlice {P : Program} {x : Cx} {E : List (Nat × Value)} {L L0 L1 : List HP} {s : Nat × Nat} {l : List Oper} {fuel : Nat} {dl : List Nat} {k : List Fr} {i : Nat} {d : Option Tmp} {ty : TypeId} {a0 : TypeId} {a1 : Nat} {a2 : Array (Nat × Operand)} (h : AO P x E L L0 L1 s l fuel dl k i d (.buildSlice a0 a1 a2) ty) : AO P x E L L0 L1 s l fuel dl k i d (.buildSlice a0 a1 a2) ty := h
theorem iAmakeSlice {P : Program} {x : Cx} {E : List (Nat × Value)} {L L0 L1 : List HP} {s : Nat × Nat} {l : List Oper} {fuel : Nat} {dl : List Nat} {k : List Fr} {i : Nat} {d : Option Tmp} {ty : TypeId} {a0 : TypeId} {a1 : Operand} {a2 : Operand} (h : AO P x E L L0 L1 s l fuel dl k i d (.makeSlice a0 a1 a2) ty) : AO P x E L L0 L1 s l fuel dl k i d (.makeSlice a0 a1 a2) ty := h
theorem AO.as {d : Option Tmp} {K : Value → List HP → Prop} (h : AS P x E L op ty K)
    (hk : ∀ v L2, K v L2 → (((Nat.beq i s.1 || mem s.1 dl) = false → Ent L2 L0) ∧ ((Nat.beq i s.2 || mem s.2 dl) = false → Ent L2 L1)) ∧ AJ P x (putE d v E) L2 L0 L1 s l fuel (i :: dl) k) : AO P x E L L0 L1 s l fuel dl k i d op ty := ⟨K, h, hk⟩
theorem AO.step {d : Option Tmp} {L2 : List HP} (hk : AJ P x (putE d v E) L2 L0 L1 s l fuel (i :: dl) k) (he0 : (Nat.beq i s.1 || mem s.1 dl) = false → Ent L2 L0 := by first | (intro e; exact absurd e (by decide)) | (intro _; exact xENTS) | fail) (he1 : (Nat.beq i s.2 || mem s.2 dl) = false → Ent L2 L1 := by first | (intro e; exact absurd e (by decide)) | (intro _; exact xENTS) | fail) :
    (((Nat.beq i s.1 || mem s.1 dl) = false → Ent L2 L0) ∧ ((Nat.beq i s.2 || mem s.2 dl) = false → Ent L2 L1)) ∧ AJ P x (putE d v E) L2 L0 L1 s l fuel (i :: dl) k := ⟨⟨he0, he1⟩, hk⟩
/-- What the rules ask of number i that is run. -/
def okS (l : List Oper) (dl : List Nat) (i : Nat) (s : Nat × Nat) : Bool := (Nat.blt s.1 l.length || !(mem s.1 dl)) && ((Nat.blt s.2 l.length || !(mem s.2 dl)) && (!(mem 1000 dl) && !(Nat.beq i 1000)))
theorem not_yet {s i : Nat} {listed : Array Bool} (hsz : listed = marks l.length dl) (hi : i < l.length) (hsm : (Nat.blt s l.length || !(mem s dl)) = true) (hs : (listed.setIfInBounds i true).getD s true = false) : (Nat.beq i s || mem s dl) = false := by
  subst hsz
  cases hb : Nat.beq i s with
  | false =>
    rw [Bool.false_or]
    cases hmm : mem s dl with
    | false => rfl
    | true =>
      rw [hmm] at hsm
      simp at hsm
      have h1 := mem_marks hsm dl hmm
      have h2 := getD_set_true (i := i) h1
      rw [getD_both hs] at h2
      cases h2
  | true =>
    rw [← Nat.eq_of_beq_eq_true hb] at hs
    have hlt : i < (marks l.length dl).size := by rw [marks_size]; exact hi
    simp [hlt] at hs
theorem ss_run {L2 : List HP} {w' : World} (hi : i < l.length) (hsm : okS l dl i s = true) (hS' : SAT x.w0 x.O L2 w') (he0 : (Nat.beq i s.1 || mem s.1 dl) = false → Ent L2 L0) (he1 : (Nat.beq i s.2 || mem s.2 dl) = false → Ent L2 L1) : SS x L0 L1 s ((marks l.length dl).setIfInBounds i true) w' := by
  simp only [okS, Bool.and_eq_true, Bool.not_eq_true'] at hsm
  obtain ⟨h1, h2, h4, h3⟩ := hsm
  refine ⟨hS'.ent Ent.nil, fun hs => hS'.ent (he0 (not_yet rfl hi h1 hs)), fun hs => hS'.ent (he1 ?_)⟩
  simp only [Bool.or_eq_true, Bool.not_eq_true'] at hs
  rcases hs with hs | hs
  · rw [Nat.eq_of_beq_eq_true hs, h3, h4]
    rfl
  · exact not_yet rfl hi h2 hs
theorem AJ.act0 {d : Option Tmp} {g : Option (Nat × Bool)} (h : AO P x E L L0 L1 s l fuel dl k i d op ty) (hi0 : nth l i = some ⟨d, op, ty, pos, aft, g⟩) (hma : mem i dl = false ∧ allIn aft.toList dl = true) (hr : readyL dl nums l = [i])
    (hg : ∀ a, EnvOK x.n x.ds E a → Region.wanted ⟨d, op, ty, pos, aft, g⟩ (yielded l.toArray a.tmps) = true) (hd : okD x.n d = true) (hsm : okS l dl i s = true) : AJ P x E L L0 L1 s l (fuel + 1) dl k :=
  ⟨fun hst a w hE hS hSS hc => by
    obtain ⟨K, hA, hk⟩ := h.h
    have hi : l.toArray[i]? = some ⟨d, op, ty, pos, aft, g⟩ := by rw [nth_eq] at hi0; simpa using hi0
    refine ⟨fun h0 => (by have := ready_of hst (by simpa using hi) hma.1 hma.2; rw [h0] at this; cases this), fun j hj => ?_⟩
    have hri := hj
    have hj := ready_sub hst hj
    rw [hr] at hj
    have hji : j = i := by simpa using hj
    subst hji
    unfold wpW
    simp only [hi]
    rw [if_pos (hg a hE)]
    refine hA.h a w _ _ _ _ _ _ hE hS fun v L2 w' hv hS' => ?_
    obtain ⟨⟨he0, he1⟩, hA⟩ := hk v L2 hv
    have hss : SS x L0 L1 s ((marks l.length dl).setIfInBounds j true) w' := ss_run (by simpa using (Array.getElem?_eq_some_iff.1 hi).1) hsm hS' he0 he1
    exact ⟨hss, hA.h hst _ w' (hE.put hd) hS' hss (hc.set hri)⟩⟩
theorem AJ.sel {d : Option Tmp} (h : AO P x E L L0 L1 s l fuel dl k i d op ty)
    (hnx : nextP true dl nums l = some (i, ⟨d, op, ty, pos, aft, none⟩) := by rfl) (hi0 : nth l i = some ⟨d, op, ty, pos, aft, none⟩ := by rfl) (hr : readyL dl nums l = [i] := by decide +kernel) (hd : okD x.n d = true := by rfl) (hsm : okS l dl i s = true := by decide +kernel) : AJ P x E L L0 L1 s l (fuel + 1) dl k :=
  AJ.act0 h hi0 (nextP_spec hnx) hr (fun _ _ => by simp [Region.wanted]) hd hsm
theorem AJ.selY {j0 : Nat} {b0 : Bool} {d : Option Tmp} (h : AO P x E L L0 L1 s l fuel dl k i d op ty)
    (hnx : nextP true dl nums l = some (i, ⟨d, op, ty, pos, aft, some (j0, b0)⟩) := by rfl) (hi0 : nth l i = some ⟨d, op, ty, pos, aft, some (j0, b0)⟩ := by rfl) (hg : gval l.toArray E j0 = some u := by rfl) (hu : u = .bool b0 := by with_reducible rfl)
    (hr : readyL dl nums l = [i] := by decide +kernel) (hd : okD x.n d = true := by rfl) (hsm : okS l dl i s = true := by decide +kernel) : AJ P x E L L0 L1 s l (fuel + 1) dl k :=
  AJ.act0 h hi0 (nextP_spec hnx) hr (fun _ hE => by simp [Region.wanted, yielded_of hE (hu ▸ hg)]) hd hsm
/-- Behind an effect: what is owned now is known up to the next one. -/
theorem AJ.rebase {s e s' e' : Nat} {L1' : List HP} (h : AJ P x E L L L1' (s', e') l fuel dl k) (hm : mem s dl = true := by rfl) (_hs : nextEff dl nums l = some s' := by rfl) (_he : effEnd (effTgt E l s') dl l s' = some e' := by rfl) (hL : autoParam (KeepIf (effKind l s') (effTgt E l s') L L1') AKEEP.h._autoParam)
    (h1 : L1 = [] ∨ (Nat.beq e s' = true ∧ Nat.beq e 1000 = false ∧ Ent L L1) ∨ (Nat.beq e' 1000 = true ∧ Ent L1' L1) ∨ (Nat.beq e e' = true ∧ Ent L1' L1) := by first | exact .inl rfl | exact .inr (.inl ⟨rfl, rfl, xENTS⟩) | exact .inr (.inr (.inl ⟨rfl, xENTS⟩)) | exact .inr (.inr (.inr ⟨rfl, xENTS⟩)) | fail) (hlt : Nat.blt s l.length = true := by rfl) : AJ P x E L L0 L1 (s, e) l fuel dl k :=
  ⟨fun hst a w hE hS hSS hc => by
    have hlt' : s < l.length := by simpa [Nat.blt_eq] using hlt
    refine wpAnyG_mono' (S' := SS x L L1' (s', e')) (s := s) (fun listed w hl h => ⟨h.1, fun h0 => ?_, fun h0 => ?_⟩) _ _ _ _ (mem_marks hlt' dl hm) (h.h hst a w hE hS ⟨hS.ent Ent.nil, fun _ => hS, fun _ => hS.ent hL.h⟩ hc)
    · rw [getD_both h0] at hl
      cases hl
    · rcases h1 with rfl | ⟨h1, h2, h3⟩ | ⟨h1, h2⟩ | ⟨h1, h2⟩
      · exact h.1
      rotate_left
      rotate_left
      · exact (h.2.2 (by rw [← Nat.eq_of_beq_eq_true h1]; exact h0)).ent h2
      rotate_left
      · exact (h.2.2 (by show (Nat.beq e' 1000 || _) = true; rw [h1]; rfl)).ent h2
      · rw [h2, Bool.false_or, Nat.eq_of_beq_eq_true h1] at h0
        exact (h.2.1 (by simpa using h0)).ent h3⟩
/-- Not alike as they stand (a mark alone). -/
inductive NeL (L L' : List HP) : Prop
  | mk : NeL L L'
theorem NeL.same : NeL L L := .mk
/-- What has been made since is known, too. -/
theorem AJ.regain {s e : Nat} {L1' : List HP} (h : AJ P x E L L L1' (s, e) l fuel dl k) (_hm : mem s dl = false := by rfl) (_hn : NeL L L0 := by ((fail_if_success (with_reducible exact NeL.same)); exact NeL.mk)) (hL : autoParam (KeepIf (effKind l s) (effTgt E l s) L L1') AKEEP.h._autoParam) (h0 : autoParam (Ent L L0) AENTS.h._autoParam) (h1 : autoParam (Ent L1' L1) AENTS.h._autoParam) : AJ P x E L L0 L1 (s, e) l fuel dl k :=
  ⟨fun hst a w hE hS _ hc => wpAnyG_mono (S' := SS x L L1' (s, e)) (fun _ _ h => ⟨h.1, fun q => (h.2.1 q).ent h0, fun q => (h.2.2 q).ent h1⟩) _ _ _ _ (h.h hst a w hE hS ⟨hS.ent Ent.nil, fun _ => hS, fun _ => hS.ent hL.h⟩ hc)⟩
/-- The second acting one that can come up. -/
def nextA (skip : Nat) (dl : List Nat) : List Nat → List Oper → Option (Nat × Oper)
  | i :: is, o :: l => match Nat.beq i skip with
    | true => nextA skip dl is l
    | false => match mem i dl with
      | true => nextA skip dl is l
      | false => match isAct o.op with
        | false => nextA skip dl is l
        | true => match allIn o.after.toList dl with
          | true => some (i, o)
          | false => nextA skip dl is l
  | _, _ => none
/-- Two that act, in either order. -/
theorem AJ.sel2 {d d' : Option Tmp} {j : Nat} {op' : Op} {ty' : TypeId} {pos' : String} {aft' : Array Edge} (h : AO P x E L L0 L1 s l fuel dl k i d op ty) (h' : AO P x E L L0 L1 s l fuel dl k j d' op' ty')
    (hnx : nextP true dl nums l = some (i, ⟨d, op, ty, pos, aft, none⟩) := by rfl) (_hn' : nextA i dl nums l = some (j, ⟨d', op', ty', pos', aft', none⟩) := by rfl) (hi0 : nth l i = some ⟨d, op, ty, pos, aft, none⟩ := by rfl) (hj0 : nth l j = some ⟨d', op', ty', pos', aft', none⟩ := by rfl)
    (hr : readyL dl nums l = [i, j] := by decide +kernel) (hd : okD x.n d = true := by rfl) (hd' : okD x.n d' = true := by rfl) (hsm : okS l dl i s = true := by decide +kernel) (hsm' : okS l dl j s = true := by decide +kernel) : AJ P x E L L0 L1 s l (fuel + 1) dl k := by
  have one : ∀ {i : Nat} {d : Option Tmp} {op : Op} {ty : TypeId} {pos : String} {aft : Array Edge}, AO P x E L L0 L1 s l fuel dl k i d op ty → nth l i = some ⟨d, op, ty, pos, aft, none⟩ → i ∈ Region.ready .any l.toArray (marks l.length dl) → okD x.n d = true → okS l dl i s = true → stat l = true →
      ∀ a w, EnvOK x.n x.ds E a → SAT x.w0 x.O L w → Closed .any l.toArray (marks l.length dl) → wpW P l.toArray (post P x k) i (fun a' w' => SS x L0 L1 s ((marks l.length dl).setIfInBounds i true) w' ∧ wpAnyG P .any l.toArray (post P x k) (SS x L0 L1 s) fuel ((marks l.length dl).setIfInBounds i true) a' w') a w := by
    intro i d op ty pos aft h hi0 hri hd hsm hst a w hE hS hc
    obtain ⟨K, hA, hk⟩ := h.h
    have hi : l.toArray[i]? = some ⟨d, op, ty, pos, aft, none⟩ := by rw [nth_eq] at hi0; simpa using hi0
    unfold wpW
    simp only [hi]
    rw [if_pos (by simp [Region.wanted])]
    refine hA.h a w _ _ _ _ _ _ hE hS fun v L2 w' hv hS' => ?_
    obtain ⟨⟨he0, he1⟩, hA⟩ := hk v L2 hv
    have hss : SS x L0 L1 s ((marks l.length dl).setIfInBounds i true) w' := ss_run (by simpa using (Array.getElem?_eq_some_iff.1 hi).1) hsm hS' he0 he1
    exact ⟨hss, hA.h hst _ w' (hE.put hd) hS' hss (hc.set hri)⟩
  refine ⟨fun hst a w hE hS hSS hc => ⟨fun h0 => (by have := ready_of hst (i := i) (by rw [← nth_eq]; exact hi0) (nextP_spec hnx).1 (nextP_spec hnx).2; rw [h0] at this; cases this), fun i0 hi0' => ?_⟩⟩
  have hm := ready_sub hst hi0'
  rw [hr] at hm
  simp only [List.mem_cons, List.not_mem_nil, or_false] at hm
  rcases hm with rfl | rfl
  · exact one h hi0 hi0' hd hsm hst a w hE hS hc
  · exact one h' hj0 hi0' hd' hsm' hst a w hE hS hc
/-! ### loops -/
theorem J.loopI {c : Code} {ι : Type} (Inv : ι → Prop) (μ : ι → Nat) (E' : ι → List (Nat × Value)) (L' : ι → List HP) (i : ι) (hi : Inv i)
    (hs : ∀ i, Inv i → (∀ j, Inv j → μ j < μ i → JL P x (E' j) (L' j) c k) → J P x (E' i) (L' i) c (.loop c :: k)) (hE : sub (E' i) E := by repeat (first | exact sub.nil | refine sub.cons (by rfl) ?_)) (hL : autoParam (Ent L (L' i)) AENT.h._autoParam) : J P x E L (.loop c) k := by
  have key : ∀ m i, μ i = m → Inv i → JL P x (E' i) (L' i) c k := by
    intro m
    induction m using Nat.strongRecOn with
    | _ m ih => exact fun i hm hi => JL.round (hs i hi fun j hj hlt => ih (μ j) (hm ▸ hlt) j rfl hj)
  exact J.loop (JL.ent hL (JL.weaken hE (key _ i rfl hi)))
theorem int_some {a b : Int} (h : a = b) : some (Value.int .i64 a) = some (Value.int .i64 b) := h ▸ rfl
theorem JL.use {c : Code} {E' : List (Nat × Value)} {L' : List HP} (h : JL P x E' L' c k) (hE : sub E' E := by ((repeat (first | exact sub.nil | refine sub.cons (by rfl) ?_ | refine sub.cons (int_some (by omega)) ?_)); first | done | fail)) (hL : autoParam (Ent L L') AENT.h._autoParam) : JL P x E L c k := JL.ent hL (JL.weaken hE h)
theorem J.retB {rs : List ResultVar} {b b' : Bool} (he : b = b') (hR : x.R = Ends x.w0 x.O (fun _ : Unit => Value.bool b') (fun _ => []) (fun _ => True) := by rfl) (hf : x.fn.results = rs.toArray := by rfl) (hv : resV E rs = some [.bool b] := by rfl) (hq : x.Q0 = bodyPost P x.fn x.R := by rfl) (hds : x.ds = [] := by rfl) : J P x E L .ret k := by
  subst he
  exact J.ret (vs := [.bool b]) (fun w hS => hR ▸ ends () trivial rfl Ent.nil w hS) hf hv hq hds
theorem JK.finB {rs : List ResultVar} {b b' : Bool} (he : b = b') (hR : x.R = Ends x.w0 x.O (fun _ : Unit => Value.bool b') (fun _ => []) (fun _ => True) := by rfl) (hf : x.fn.results = rs.toArray := by rfl) (hv : resV E rs = some [.bool b] := by rfl) (hq : x.Q0 = bodyPost P x.fn x.R := by rfl) (hds : x.ds = [] := by rfl) : JK P x E L [] := by
  subst he
  exact JK.fin (vs := [.bool b]) (fun w hS => hR ▸ ends () trivial rfl Ent.nil w hS) hf hv hq hds
theorem toNat1 (i : Nat) : ((i : Int) - 1).toNat = i - 1 := by omega
def allI (f : Nat → Bool) : Nat → Nat → Bool
  | 0, _ => true
  | m + 1, i => f i && allI f m (i + 1)
theorem allI_step {f : Nat → Bool} {n i : Nat} (h : i < n) : allI f (n - i) i = (f i && allI f (n - (i + 1)) (i + 1)) := by
  rw [show n - i = (n - (i + 1)) + 1 by omega]
  rfl
theorem allI_end {f : Nat → Bool} {n i : Nat} (h : n ≤ i) : allI f (n - i) i = true := by
  rw [show n - i = 0 by omega]
  rfl
theorem allI_on {f : Nat → Bool} {n i : Nat} {a r : Bool} (hm : a = (allI f (n - i) i && r)) (h : i < n) (hf : f i = true) : a = (allI f (n - (i + 1)) (i + 1) && r) := by rw [hm, allI_step h, hf, Bool.true_and]
theorem allI_off {f : Nat → Bool} {n i : Nat} {a r : Bool} (hm : a = (allI f (n - i) i && r)) (h : i < n) (hf : f i = false) : false = a := by rw [hm, allI_step h, hf, Bool.false_and, Bool.false_and]
theorem allI_fin {f : Nat → Bool} {n i : Nat} {a b r : Bool} (hm : a = (allI f (n - i) i && r)) (h : n ≤ i) (hf : b = r) : b = a := by rw [hm, allI_end h, hf, Bool.true_and]
/-! ### plain operations, whatever they are -/
theorem OJ.p {rest : List Oper} (hk : OJ P x ((d, v) :: E) L ops rest k) (h : autoParam (PS P x E L op ty v) APSA.h._autoParam) (hd : Nat.blt d x.n = true := by rfl) : OJ P x E L ops (⟨some d, op, ty, pos, aft, none⟩ :: rest) k := OJ.ps h hk hd
end
end Go.SL

/- Still more rules: stores of structs and into rows, slices of slices, append of many, least and greatest, structs compared, results in cells, boxed rows. -/
set_option linter.unusedVariables false
set_option linter.unusedSimpArgs false
namespace Go.SL
open Go.RowKit

theorem flatMap_drop {α : Type} {k : Enc α} {xs : List α} (n : Nat) : (xs.drop n).flatMap k.f = (xs.flatMap k.f).drop (n * k.sz) := by
  induction n generalizing xs with
  | zero => simp
  | succ n ih =>
    cases xs with
    | nil => simp
    | cons x xs =>
      simp only [List.drop_succ_cons, ih, List.flatMap_cons]
      rw [show (n + 1) * k.sz = (k.f x).length + n * k.sz by rw [k.len, Nat.add_mul]; omega, ← List.drop_drop, List.drop_left]
theorem flatMap_take {α : Type} {k : Enc α} {xs : List α} (n : Nat) : (xs.take n).flatMap k.f = (xs.flatMap k.f).take (n * k.sz) := by
  induction n generalizing xs with
  | zero => simp
  | succ n ih =>
    cases xs with
    | nil => simp
    | cons x xs =>
      simp only [List.take_succ_cons, ih, List.flatMap_cons]
      rw [show (n + 1) * k.sz = (k.f x).length + n * k.sz by rw [k.len, Nat.add_mul]; omega, List.take_length_add_append]
theorem flatMap_set {α : Type} {k : Enc α} {xs : List α} {i : Nat} (hi : i < xs.length) (x : α) : (xs.set i x).flatMap k.f = (xs.flatMap k.f).take (i * k.sz) ++ k.f x ++ (xs.flatMap k.f).drop (i * k.sz + k.sz) := by
  rw [List.set_eq_take_append_cons_drop, if_pos hi, List.flatMap_append, List.flatMap_cons, flatMap_take, flatMap_drop, show (i + 1) * k.sz = i * k.sz + k.sz by rw [Nat.add_mul]; omega, List.append_assoc]

theorem seg {β : Type} {c vs : List β} {N I S f : Nat} (h1 : I + S ≤ N) (h2 : N ≤ c.length) (h3 : f + vs.length ≤ S) :
    (c.take (I + f) ++ vs ++ c.drop (I + f + vs.length)).take N = (c.take N).take I ++ ((((c.take N).drop I).take S).take f ++ vs ++ (((c.take N).drop I).take S).drop (f + vs.length)) ++ (c.take N).drop (I + S) := by
  have la : (c.take (I + f)).length = I + f := by rw [List.length_take]; omega
  have lb : ((c.take N).take I).length = I := by rw [List.length_take, List.length_take]; omega
  have lc : ((((c.take N).drop I).take S).take f).length = f := by simp only [List.length_take, List.length_drop]; omega
  have ld : ((((c.take N).drop I).take S).drop (f + vs.length)).length = S - (f + vs.length) := by simp only [List.length_take, List.length_drop]; omega
  apply List.ext_getElem?
  intro j
  rw [List.getElem?_take]
  by_cases hN : j < N
  · rw [if_pos hN]
    by_cases g1 : j < I + f
    · rw [List.getElem?_append_left (by rw [List.length_append, la]; omega), List.getElem?_append_left (by rw [la]; exact g1), List.getElem?_take, if_pos g1]
      by_cases g0 : j < I
      · rw [List.getElem?_append_left (by rw [List.length_append, lb]; omega), List.getElem?_append_left (by rw [lb]; exact g0), List.getElem?_take, if_pos g0, List.getElem?_take, if_pos hN]
      · rw [List.getElem?_append_left (by simp only [List.length_append, lb, lc, ld]; omega), List.getElem?_append_right (by rw [lb]; omega), lb, List.getElem?_append_left (by rw [List.length_append, lc]; omega), List.getElem?_append_left (by rw [lc]; omega),
          List.getElem?_take, if_pos (by omega), List.getElem?_take, if_pos (by omega), List.getElem?_drop, List.getElem?_take, if_pos (by omega), show I + (j - I) = j by omega]
    · by_cases g2 : j < I + f + vs.length
      · rw [List.getElem?_append_left (by rw [List.length_append, la]; omega), List.getElem?_append_right (by rw [la]; omega), la,
          List.getElem?_append_left (by simp only [List.length_append, lb, lc, ld]; omega), List.getElem?_append_right (by rw [lb]; omega), lb, List.getElem?_append_left (by rw [List.length_append, lc]; omega), List.getElem?_append_right (by rw [lc]; omega), lc, show j - I - f = j - (I + f) by omega]
      · rw [List.getElem?_append_right (by rw [List.length_append, la]; omega), List.length_append, la, List.getElem?_drop, show I + f + vs.length + (j - (I + f + vs.length)) = j by omega]
        by_cases g3 : j < I + S
        · rw [List.getElem?_append_left (by simp only [List.length_append, lb, lc, ld]; omega), List.getElem?_append_right (by rw [lb]; omega), lb, List.getElem?_append_right (by rw [List.length_append, lc]; omega), List.length_append, lc,
            List.getElem?_drop, List.getElem?_take, if_pos (by omega), List.getElem?_drop, List.getElem?_take, if_pos (by omega), show I + (f + vs.length + (j - I - (f + vs.length))) = j by omega]
        · rw [List.getElem?_append_right (by simp only [List.length_append, lb, lc, ld]; omega), List.length_append, List.length_append, List.length_append, lb, lc, ld, List.getElem?_drop, List.getElem?_take, if_pos (by omega), show I + S + (j - (I + (f + vs.length + (S - (f + vs.length))))) = j by omega]
  · rw [if_neg hN]
    symm
    rw [List.getElem?_eq_none_iff]
    simp only [List.length_append, lb, lc, ld, List.length_drop, List.length_take]
    omega
section
variable {P : Program} {x : Cx} {E : List (Nat × Value)} {L L' L1 L2 : List HP} {k : List Fr} {ops : Array Oper} {rest : List Oper}
variable {ty t t' t'' : TypeId} {y z c : Operand} {v u : Value}

/-! ### stores -/
/-- A struct stored into a block. -/
theorem AS.storeA {b f sz bt : Nat} {zv : Value} {cs : Array Value} {T : TypeId} {vs r : List Value} [hT : Ty P t true sz bt zv] (hy : ev E y = some (.pointer (some ⟨b, f, none⟩)) := by rfl) (hz : ev E z = some (.agg vs.toArray) := by rfl)
    (hp : autoParam (Pick L (blk b (.cells cs T (0, 0))) L') APK.h._autoParam) (hu : updO cs.toList f vs = some r := by rfl) (hs : Nat.beq vs.length sz = true := by rfl) (h1 : allOne vs = true := by rfl) : AS P x E L (.store t y z) ty (fun _ L1 => L1 = blk b (.cells r.toArray T (0, 0)) :: L') := by
  refine ⟨fun a w dst pos aft g next Q hE hS hn => ?_⟩
  have hS' := hS.pick hp
  have hr0 := storeRun (P := P) hS'.read hu (allOne_eq _ h1)
  have hsz := Nat.eq_of_beq_eq_true hs
  have hr : (execOp a.eval ⟨dst, .store t y z, ty, pos, aft, g⟩).run P w = .ok .skip (w.setRow b r.toArray) := by
    simp [execOp, hE.ev hy, hE.ev hz, Instr.storeAt, Instr.sureAddr, storeVar, Value.cells, hT.sizeOf, hsz, hr0]
  refine .inl ?_
  unfold Oper.wp
  rw [hr]
  exact hn undef _ _ rfl hS'.setRow
/-- Into a row. -/
theorem SAT.rowPut {α : Type} {q : Enc α} {xs : List α} {e : TypeId} {i f : Nat} {vs r : List Value} {p : α} {w0 w : World} {O : Nat → Prop} (h : SAT w0 O (row q e v xs :: L) w) (hi : i < xs.length) (hu : updO (q.f (xs.getD i q.d)) f vs = some r) (hd : q.dec r = some p) (h1 : ∀ v ∈ vs, v.oneCell' = true) :
    ∃ ad, elemP q.sz v i f = .pointer (some ad) ∧ ∃ w', (storeCells ad vs).run P w = .ok () w' ∧ SAT w0 O (row q e v (xs.set i p) :: L) w' := by
  obtain ⟨hl, hr⟩ := updO_eq _ _ _ _ hu
  have hp := q.inv _ _ hd
  have hS := h
  obtain ⟨hK, g0, he, hdj, h1', h2', d', rfl, ⟨hlen, hrow⟩, hL⟩ := h
  rcases hrow with ⟨rfl, hn, _⟩ | ⟨g, cap, cur, rfl, hc, hm, hs, ht, hb⟩
  · omega
  have hlt : i * q.sz + q.sz ≤ xs.length * q.sz := by
    rw [show i * q.sz + q.sz = (i + 1) * q.sz by rw [Nat.add_mul]; omega]
    exact Nat.mul_le_mul_right _ hi
  have hlc : xs.length * q.sz ≤ cap * q.sz := Nat.mul_le_mul_right _ hc
  have hS1 : SAT w0 O (blk g (.cells cur e (0, 0)) :: L) w := ⟨hK, _, he, hdj, h1', h2', d', rfl, hb, hL⟩
  have hfl : f + vs.length ≤ q.sz := by rw [q.len] at hl; exact hl
  have hrun := run_storeCells_at (P := P) g (i * q.sz + f) e vs 0 cur w hS1.read (by rw [hs]; omega) h1
  rw [Nat.add_zero] at hrun
  refine ⟨⟨g, i * q.sz + f, none⟩, by simp [elemP, at_off], _, hrun, ?_⟩
  have hget : q.f (xs.getD i q.d) = ((xs.flatMap q.f).drop (i * q.sz)).take q.sz := by
    rw [← flatMap_drop, List.drop_eq_getElem_cons hi, List.flatMap_cons, List.take_left' (q.len _)]
    simp [List.getD_eq_getElem?_getD, hi]
  refine SAT.imp hS1.setRow (q := row q e _ _) (fun h3 hb3 => ⟨flat_len, .inr ⟨g, cap, _, by rw [List.length_set], by simpa using hc, hm, ?_, ?_, hb3⟩⟩)
  · simp [hs]; omega
  · rw [flatMap_set hi, hp, hr, hget, ← ht]
    rw [List.length_set]
    exact seg (by omega) (by rw [show cur.toList.length = cap * q.sz from hs]; exact hlc) hfl
/-- A cell stored into a row. -/
theorem AS.storeE {α : Type} {q : Enc α} {xs : List α} {e : TypeId} {i f sq sz bt : Nat} {zv : Value} {r : List Value} {p : α} [hT : Ty P t false sz bt zv] (hy : ev E y = some (elemP sq v i f) := by rfl) (hz : ev E z = some u := by rfl) (hp : autoParam (Pick L (row q e v xs) L') APK.h._autoParam) (hq : q.sz = sq := by rfl)
    (hu : updO (q.f (xs.getD i q.d)) f [u] = some r := by rfl) (hd : q.dec r = some p := by rfl) (h1 : u.oneCell' = true := by rfl) (hs : sz = 1 := by rfl) (hi : autoParam (i < xs.length) ABD.h._autoParam) : AS P x E L (.store t y z) ty (fun _ L1 => L1 = row q e v (xs.set i p) :: L') := by
  refine ⟨fun a w dst pos aft g next Q hE hS hn => ?_⟩
  have hS' := hS.pick hp
  obtain ⟨ad, h2, w', hr0, hS2⟩ := SAT.rowPut (P := P) hS' hi hu hd (fun v hv => by rw [List.mem_singleton.1 hv]; exact h1)
  subst hq
  have hcl : u.cells = #[u] := by cases u <;> first | rfl | cases h1
  have hr : (execOp a.eval ⟨dst, .store t y z, ty, pos, aft, g⟩).run P w = .ok .skip w' := by
    simp [execOp, hE.ev hy, h2, hE.ev hz, Instr.storeAt, Instr.sureAddr, storeVar, hcl, hT.sizeOf, hs, hr0]
  refine .inl ?_
  unfold Oper.wp
  rw [hr]
  exact hn undef _ _ rfl hS2
/-- A struct stored into a row. -/
theorem AS.storeEA {α : Type} {q : Enc α} {xs : List α} {e : TypeId} {i f sq sz bt : Nat} {zv : Value} {vs r : List Value} {p : α} [hT : Ty P t true sz bt zv] (hy : ev E y = some (elemP sq v i f) := by rfl) (hz : ev E z = some (.agg vs.toArray) := by rfl) (hp : autoParam (Pick L (row q e v xs) L') APK.h._autoParam) (hq : q.sz = sq := by rfl)
    (hu : updO (q.f (xs.getD i q.d)) f vs = some r := by rfl) (hd : q.dec r = some p := by rfl) (h1 : allOne vs = true := by rfl) (hs : Nat.beq vs.length sz = true := by rfl) (hi : autoParam (i < xs.length) ABD.h._autoParam) : AS P x E L (.store t y z) ty (fun _ L1 => L1 = row q e v (xs.set i p) :: L') := by
  refine ⟨fun a w dst pos aft g next Q hE hS hn => ?_⟩
  have hS' := hS.pick hp
  obtain ⟨ad, h2, w', hr0, hS2⟩ := SAT.rowPut (P := P) hS' hi hu hd (allOne_eq _ h1)
  subst hq
  have hsz := Nat.eq_of_beq_eq_true hs
  have hr : (execOp a.eval ⟨dst, .store t y z, ty, pos, aft, g⟩).run P w = .ok .skip w' := by
    simp [execOp, hE.ev hy, h2, hE.ev hz, Instr.storeAt, Instr.sureAddr, storeVar, Value.cells, hT.sizeOf, hsz, hr0]
  refine .inl ?_
  unfold Oper.wp
  rw [hr]
  exact hn undef _ _ rfl hS2
end
end Go.SL
