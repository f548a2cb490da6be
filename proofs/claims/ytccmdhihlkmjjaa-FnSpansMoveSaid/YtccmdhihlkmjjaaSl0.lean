/- Operations, lists of them and drawn regions, for activations that may be rounds of a range over a function. -/
import Derived.WalkKit
import Derived.KernelRfl
import Derived.Deep.Draws
import Derived.OrdersHeld
import Derived.StillTail
import Derived.OrdersIn
import Derived.TacticsIn
import Derived.RangeFuncIn
namespace Go.SL
open Go.RowKit
/-- Every function, any depth; the activation is a round of loop ro, if any. -/
def fen (ro : Option Nat) : Fence := { Fence.wide with round := ro }
theorem fen_none : fen none = Fence.wide := rfl
theorem fen_room (ro : Option Nat) (n : Nat) : (fen ro).room n := fun _ h => by cases h
theorem fen_calls {ro : Option Nat} {n : Nat} {P : Program} {f : FuncId} {args : Array Value} {w : World} {R : Ending → World → Prop} (h : Calls P f args w R) : CallsIn (fen ro) n P f args w R := by
  have h' : CallsIn Fence.wide n P f args w R := callsIn_wide.2 h
  exact ⟨trivial, fun cs _ => h'.2 cs (room_wide _)⟩
theorem fen_rows {ro : Option Nat} {n : Nat} {P : Program} {row : String} {args : Array Value} {w : World} {R : Value → World → Prop} (h : Rows P row args w R) : RowsIn (fen ro) n P row args w R := fun c cs _ => by
  obtain ⟨v, w', r, s⟩ := h c cs
  exact ⟨v, w', r, stepsIn_wide.2 s⟩
theorem fen_round {ro : Option Nat} {n : Nat} {P : Program} {l : Nat} {f : FuncId} {tmps : Array Value} {assign body : Code} {w : World} {R : Ending → World → Prop} (h : RoundIn Fence.wide 0 P l f tmps assign body w R) : RoundIn (fen ro) n P l f tmps assign body w R :=
  ⟨trivial, fun c cs _ => h.2 c cs (room_wide _)⟩
section
variable {P : Program} {ops : Array Oper} {Q : Exit → Act → World → Prop} {md : Region.Mode}
/-- An operation runs, a call of a yield value beside. -/
def opW (P : Program) (o : Oper) (a : Act) (w : World) (K : Act → World → Prop) (Q : Exit → Act → World → Prop) : Prop :=
  o.wp P a w K Q ∨ ∃ l f tmps assign body w', (execOp a.eval o).run P w = .ok (.round l f tmps assign body) w' ∧
    RoundIn Fence.wide 0 P l f tmps assign body w' (fun e w'' => ∃ v, e = .returned v ∧ K (a.put o.dst v) w'')
theorem opW_mono {o : Oper} {a : Act} {w : World} {K K' : Act → World → Prop} (hK : ∀ a w, K a w → K' a w) (h : opW P o a w K Q) : opW P o a w K' Q := by
  rcases h with h | ⟨l, f, tmps, assign, body, w', h1, h2⟩
  · exact .inl (Oper.wp_mono hK h)
  · exact .inr ⟨l, f, tmps, assign, body, w', h1, RoundIn.mono h2 fun e w'' ⟨v, h3, h4⟩ => ⟨v, h3, hK _ _ h4⟩⟩
theorem opW_in {ro : Option Nat} {o : Oper} {a : Act} {w : World} {K : Act → World → Prop} (hd : ro = none ∨ ∀ c, o.op ≠ .defer c) (h : opW P o a w K Q) : o.wpIn (fen ro) 0 P a w K Q := by
  refine ⟨fun _ _ => trivial, ?_⟩
  have hs : Oper.semAt (fen ro).round a.eval o = execOp a.eval o := by
    rcases hd with rfl | hd
    · exact Oper.semAt_none _ _
    · exact Oper.semAt_eq _ _ _ hd
  rw [hs]
  rcases h with h | ⟨l, f, tmps, assign, body, w', h1, h2⟩
  · unfold Oper.wp at h
    generalize (execOp a.eval o).run P w = r at *
    cases r with
    | ok x w' =>
      cases x <;> simp only [Oper.upon, Oper.uponIn] at h ⊢ <;> first
        | exact h
        | exact ⟨fun e => (by cases e), fen_calls h⟩
        | exact ⟨fun e => (by cases e), fen_rows h⟩
    | halt x w' => cases x <;> simp only [Oper.upon, Oper.uponIn] at h ⊢ <;> exact h
  · rw [h1]
    refine ⟨fun e => (by cases e), fen_round (RoundIn.mono h2 ?_)⟩
    rintro e w'' ⟨v, rfl, hk⟩
    exact hk
def wpL (P : Program) (ops : Array Oper) (Q : Exit → Act → World → Prop) : List Oper → Act → World → Prop
  | [], a, w => Q .normal a w
  | o :: rest, a, w => if Region.wanted o (yielded ops a.tmps) then opW P o a w (wpL P ops Q rest) Q else wpL P ops Q rest (a.put o.dst undef) w
theorem wpL_in {ro : Option Nat} : ∀ (l : List Oper) (a : Act) (w : World), (ro = none ∨ ∀ o ∈ l, ∀ c, o.op ≠ .defer c) → wpL P ops Q l a w → wpListIn (fen ro) 0 P ops Q l a w
  | [], _, _, _, h => h
  | o :: rest, a, w, hd, h => by
    have hd' : ro = none ∨ ∀ o ∈ rest, ∀ c, o.op ≠ .defer c := hd.imp id fun h o ho => h o (List.mem_cons_of_mem _ ho)
    unfold wpL at h
    unfold wpListIn
    split
    · rename_i hw
      rw [if_pos hw] at h
      exact opW_in (hd.imp id fun h => h o List.mem_cons_self) (opW_mono (fun a w h => wpL_in rest a w hd' h) h)
    · rename_i hw
      rw [if_neg hw] at h
      exact ⟨fun _ _ => trivial, wpL_in rest _ w hd' h⟩
theorem wpL_plain {o : Oper} {rest : List Oper} {a : Act} {w : World} (hg : o.guard = none) (h : opW P o a w (wpL P ops Q rest) Q) : wpL P ops Q (o :: rest) a w := by
  unfold wpL
  rw [if_pos (by simp [Region.wanted, hg])]
  exact h
/-! drawn regions -/
def wpW (P : Program) (ops : Array Oper) (Q : Exit → Act → World → Prop) (i : Nat) (K : Act → World → Prop) (a : Act) (w : World) : Prop :=
  match ops[i]? with
  | none => K a w
  | some o => if Region.wanted o (yielded ops a.tmps) then opW P o a w K Q else K (a.put o.dst undef) w
theorem wpW_mono {i : Nat} {a : Act} {w : World} {K K' : Act → World → Prop} (hK : ∀ a w, K a w → K' a w) (h : wpW P ops Q i K a w) : wpW P ops Q i K' a w := by
  unfold wpW at *
  split
  · rename_i ho
    rw [ho] at h
    exact hK _ _ h
  · rename_i o ho
    rw [ho] at h
    simp only at h
    split
    · rename_i hw
      rw [if_pos hw] at h
      exact opW_mono hK h
    · rename_i hw
      rw [if_neg hw] at h
      exact hK _ _ h
theorem wpW_in {ro : Option Nat} {i : Nat} {a : Act} {w : World} {K : Act → World → Prop} (hd : ro = none ∨ ∀ o ∈ ops, ∀ c, o.op ≠ .defer c) (h : wpW P ops Q i K a w) : wpOpIn (fen ro) 0 P ops Q i K a w := by
  unfold wpW at h
  unfold wpOpIn
  split
  · rename_i ho
    rw [ho] at h
    exact h
  · rename_i o ho
    rw [ho] at h
    simp only at h
    split
    · rename_i hw
      rw [if_pos hw] at h
      exact opW_in (hd.imp id fun h => h o (Array.mem_of_getElem? ho)) h
    · rename_i hw
      rw [if_neg hw] at h
      exact ⟨fun _ _ => trivial, h⟩
end
end Go.SL
