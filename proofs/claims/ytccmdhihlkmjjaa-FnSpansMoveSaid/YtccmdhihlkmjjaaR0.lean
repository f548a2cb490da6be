/- From data that are read to what the rules call readable; from a contract to what a row asks. -/
import Derived.Test.YtccmdhihlkmjjaaSl11
import Derived.WalkKit
import Derived.ProofKit
import Derived.OpenShut
import Derived.ShutString
import Derived.ChangeOld
import Derived.Below
import Derived.SizedLaws
import Derived.Deep.Slices
import Derived.Deep.Fields
namespace Go.SL
open Go.RowKit Go.ChangeShapes Go.WideShapes Go.Deep
theorem SAT.below {L : List HP} {w w' : World} (h : SAT w (fun _ => False) L w') : Below w.heap.size w w' := ⟨h.1.os, h.1.tape, h.1.output, h.1.size, fun k hk => h.1.block k hk (fun h => h)⟩
theorem cell_lt {w : World} {a : Addr} {u : Value} (h : w.cell? a = some u) : a.block < w.heap.size := by
  unfold World.cell? at h
  cases ho : w.heap[a.block]? with
  | none => simp [ho] at h
  | some o => exact (Array.getElem?_eq_some_iff.1 ho).1
theorem rd_below {α : Type} {q : Enc α} {v : Value} {l : List α} {w w' : World} (h : rd q v l w) (hb : Below w.heap.size w w') : rd q v l w' := by
  obtain ⟨A, c, h1, h2, h3, h4⟩ := h
  refine ⟨A, c, h1, h2, h3, fun hp => ?_⟩
  obtain ⟨ad, ha, hc⟩ := h4 hp
  refine ⟨ad, ha, fun j u hu => ?_⟩
  have := hc j u hu
  rw [hb.cell (cell_lt this)]
  exact this
/-- What stays, whatever a call makes beside. -/
def Stays (R : World → Prop) : Prop := ∀ w w', R w → Below w.heap.size w w' → R w'
theorem rd_stays {α : Type} {q : Enc α} {v : Value} {l : List α} : Stays (rd q v l) := fun _ _ h hb => rd_below h hb
theorem law_of_spec {P : Program} {f : FuncId} {args : List Value} {Rs : List (World → Prop)} (hs : Spec P f args Rs [] (fun _ : Unit => .bool true) (fun _ => []) (fun _ => True)) (w : World) (hR : ∀ R ∈ Rs, R w ∧ Stays R) :
    Calls P f args.toArray w fun e w' => e = .returned (.bool true) ∧ Below w.heap.size w w' := by
  refine (hs w (fun _ => False) (fun R hR' => ⟨fun w' hw' => (hR R hR').2 w w' (hR R hR').1 hw'.below⟩) ⟨KeptW.refl _ _, fun _ => none, (fun _ _ h => (by cases h)), (fun _ _ h => (by cases h)), fun _ => rfl⟩).mono ?_
  rintro e w' ⟨_, _, rfl, hS⟩
  exact ⟨rfl, hS.below⟩
/-- Elements of a kind are read as q has them. -/
def Reads (P : Program) {α : Type} (q : Enc α) (e : TypeId) : Prop := P.cellsOf e = q.sz ∧
  ∀ {H : Type} {enc : TypeId × Value → H} {w : World} {base : Nat} {spare : Nat → Bool} {held : Bool} {fuel : Nat} {cs : List Value} {x : DataW H × List MemPlace}, DataW.trod enc P w base spare held fuel e cs = some x → ∃ a, q.f a = cs
theorem rd_of_trod {H : Type} {enc : TypeId × Value → H} {P : Program} {w : World} {base : Nat} {spare : Nat → Bool} {held : Bool} {α : Type} {q : Enc α} {t e : TypeId} {A : Option Addr} {n c : Nat} {d : DataW H} {p : List MemPlace}
    (hq : Reads P q e) (ht : P.underlying t = some (.slice e)) (h : DataW.Trod enc P w base spare held t (.slice A n c) d p) : ∃ l, rd q (.slice A n c) l w := by
  obtain ⟨fuel, hf⟩ := h
  rcases open_slice ht hf with ⟨h1, _⟩ | ⟨a, len, cap, m, n', D, Pl, hcs, _, hl, hm, hmm, _, hi⟩
  · simp [Value.cells] at h1
    obtain ⟨rfl, rfl, rfl⟩ := h1
    exact ⟨[], none, 0, rfl, Nat.le_refl _, by simp [maxLen], fun h => by simp at h⟩
  · simp [Value.cells] at hcs
    obtain ⟨rfl, rfl, rfl⟩ := hcs
    have hlm : n ≤ m := by rw [hmm]; split <;> omega
    have hx : ∀ i, i < n → ∃ x, w.cells? base (a.add (i * q.sz)) q.sz = some (q.f x) := fun i hin => by
      obtain ⟨cs', h1, h2⟩ := hi i (by omega)
      obtain ⟨x, hx⟩ := hq.2 h2
      rw [hq.1] at h1
      exact ⟨x, by rw [hx]; exact h1⟩
    obtain ⟨g, hg⟩ : ∃ g : Nat → α, ∀ i, i < n → w.cells? base (a.add (i * q.sz)) q.sz = some (q.f (g i)) :=
      ⟨fun i => if h : i < n then (hx i h).choose else q.d, fun i hin => by simp only [dif_pos hin]; exact (hx i hin).choose_spec⟩
    have hlen : ((List.range n).map g).length = n := by simp
    refine ⟨(List.range n).map g, some a, c, by rw [hlen], by rw [hlen]; exact hl, hm, fun _ => ⟨a, rfl, fun j u hu => ?_⟩⟩
    have hp := q.pos
    have hj : j < n * q.sz := by
      have := (List.getElem?_eq_some_iff.1 hu).1
      rwa [flat_len, hlen] at this
    have hi1 : j / q.sz < n := Nat.div_lt_of_lt_mul (by rw [Nat.mul_comm]; exact hj)
    have hr1 : j % q.sz < q.sz := Nat.mod_lt _ hp
    have e1 : j = j / q.sz * q.sz + j % q.sz := by rw [Nat.mul_comm]; exact (Nat.div_add_mod j q.sz).symm
    have h3 := flat_get (k := q) (xs := (List.range n).map g) (i := j / q.sz) (f := j % q.sz) (by rw [hlen]; exact hi1) hr1
    rw [← e1, hu] at h3
    have h4 : ((List.range n).map g).getD (j / q.sz) q.d = g (j / q.sz) := by simp [List.getD_eq_getElem?_getD, hi1]
    rw [h4] at h3
    obtain ⟨_, _, hat⟩ := World.cells?_some (hg _ hi1)
    have h5 := hat _ hr1
    rw [← h3, add_add, ← e1] at h5
    exact h5
/-- One field of a struct of ints. -/
theorem int_field {H : Type} {enc : TypeId × Value → H} {P : Program} {w : World} {base : Nat} {spare : Nat → Bool} {held : Bool} {fs : Array Field} {n : Nat} {cs : List Value} {xs : List (DataW H × List MemPlace)} {j : Nat} {f : Field} {c : Value}
    (hone : oneCellFields P fs = true) (hlen : xs.length = fs.size) (hf : ∀ (i : Nat) (f : Field), fs[i]? = some f → DataW.trod enc P w base spare held n f.type ((cs.drop f.offset).take (P.cellsOf f.type)) = xs[i]?)
    (hj : fs[j]? = some f) (hc : cs[j]? = some c) (hk : P.underlying f.type = some (.int .i64)) : ∃ a, c = .int .i64 a := by
  obtain ⟨ho, hcl⟩ := hone_of hone j f hj
  have h := hf j f hj
  have hjl : j < fs.size := (Array.getElem?_eq_some_iff.1 hj).1
  have hjc := (List.getElem?_eq_some_iff.1 hc).1
  have hcj := (List.getElem?_eq_some_iff.1 hc).2
  rw [ho, hcl, List.drop_eq_getElem_cons hjc, List.take_succ_cons, List.take_zero, hcj, List.getElem?_eq_getElem (by omega)] at h
  obtain ⟨a, ha, _⟩ := DataW.trod_int hk h
  injection ha with ha
  exact ⟨a, ha⟩
theorem byteReads {P : Program} {e : TypeId} (hs : P.underlying e = some (.int .u8)) (hC : P.cellsOf e = 1) : Reads P eByte e := by
  refine ⟨hC, ?_⟩
  intro H enc w base spare held fuel cs x h
  obtain ⟨n, rfl, _, hw⟩ := DataW.trod_int hs h
  have hb := bounds_u8 hw
  refine ⟨UInt8.ofNat n.toNat, ?_⟩
  show [Value.int .u8 ((UInt8.ofNat n.toNat).toNat : Int)] = [.int .u8 n]
  have : (UInt8.ofNat n.toNat).toNat = n.toNat := by simp; omega
  rw [this]
  congr 2
  omega
end Go.SL
