/- FnParaPut answers true for every input, and leaves its argument as it was; the variables that the row lists are tied to the program's text. Conditions: none beyond the row's own (the listed variables). -/
import Derived.Test.YtlonbhkjjoognaaGreatDoorMC7
import Derived.WalkKit
import Derived.ProofKit
import Derived.OpenShut
import Derived.ShutString
import Derived.ChangeOld
import Derived.Below
import Derived.SizedLaws
import Derived.Deep.Slices
import Derived.Deep.Fields
import Derived.Test.YtlonbhkjjoognaaGreatDoorRows
import Derived.Test.YtlonbhkjjoognaaGreatDoorTie
import Derived.Test.YtlonbhkjjoognaaGreatDoorCards
import Derived.PinnedBridge
import Derived.Lib.LaidU8
import Derived.Lay
import Derived.SevenTiedAt
import Derived.LaidSub
/- From data that are read to what the rules call readable; from a contract to what a row asks. -/
set_option linter.unusedVariables false
set_option linter.unusedSimpArgs false
namespace Go.SL
open Go.RowKit Go.ChangeShapes Go.WideShapes Go.Deep
theorem SAT.below {L : List HP} {w w' : World} (h : SAT w (fun _ => False) L w') : Below w.heap.size w w' := ⟨h.1.os, h.1.tape, h.1.output, h.1.size, fun k hk => h.1.block k hk (fun h => h)⟩
theorem cell_lt {w : World} {a : Addr} {u : Value} (h : w.cell? a = some u) : a.block < w.heap.size := by
  unfold World.cell? at h
  cases ho : w.heap[a.block]? with
  | none => simp [ho] at h
  | some o => exact (Array.getElem?_eq_some_iff.1 ho).1
theorem rd_below {α : Type} {q : Enc α} {v : Value} {l : List α} {w w' : World} (h : rd q v l w) (hb : Below w.heap.size w w') : rd q v l w' := by
  obtain ⟨A, c, h1, h2, h3, h4⟩ := h
  refine ⟨A, c, h1, h2, h3, fun hp => ?_⟩
  obtain ⟨ad, ha, hc⟩ := h4 hp
  refine ⟨ad, ha, fun j u hu => ?_⟩
  have := hc j u hu
  rw [hb.cell (cell_lt this)]
  exact this
/-- What stays, whatever a call makes beside. -/
def Stays (R : World → Prop) : Prop := ∀ w w', R w → Below w.heap.size w w' → R w'
theorem rd_stays {α : Type} {q : Enc α} {v : Value} {l : List α} : Stays (rd q v l) := fun _ _ h hb => rd_below h hb
theorem law_of_spec {P : Program} {f : FuncId} {args : List Value} {Rs : List (World → Prop)} (hs : Spec P f args Rs [] (fun _ : Unit => .bool true) (fun _ => []) (fun _ => True)) (w : World) (hR : ∀ R ∈ Rs, R w ∧ Stays R) :
    Calls P f args.toArray w fun e w' => e = .returned (.bool true) ∧ Below w.heap.size w w' := by
  refine (hs w (fun _ => False) (fun R hR' => ⟨fun w' hw' => (hR R hR').2 w w' (hR R hR').1 hw'.below⟩) ⟨KeptW.refl _ _, fun _ => none, (fun _ _ h => (by cases h)), (fun _ _ h => (by cases h)), fun _ => rfl⟩).mono ?_
  rintro e w' ⟨_, _, rfl, hS⟩
  exact ⟨rfl, hS.below⟩
/-- Elements of a kind are read as q has them. -/
def Reads (P : Program) {α : Type} (q : Enc α) (e : TypeId) : Prop := P.cellsOf e = q.sz ∧
  ∀ {H : Type} {enc : TypeId × Value → H} {w : World} {base : Nat} {spare : Nat → Bool} {held : Bool} {fuel : Nat} {cs : List Value} {x : DataW H × List MemPlace}, DataW.trod enc P w base spare held fuel e cs = some x → ∃ a, q.f a = cs
theorem rd_of_trod {H : Type} {enc : TypeId × Value → H} {P : Program} {w : World} {base : Nat} {spare : Nat → Bool} {held : Bool} {α : Type} {q : Enc α} {t e : TypeId} {A : Option Addr} {n c : Nat} {d : DataW H} {p : List MemPlace}
    (hq : Reads P q e) (ht : P.underlying t = some (.slice e)) (h : DataW.Trod enc P w base spare held t (.slice A n c) d p) : ∃ l, rd q (.slice A n c) l w := by
  obtain ⟨fuel, hf⟩ := h
  rcases open_slice ht hf with ⟨h1, _⟩ | ⟨a, len, cap, m, n', D, Pl, hcs, _, hl, hm, hmm, _, hi⟩
  · simp [Value.cells] at h1
    obtain ⟨rfl, rfl, rfl⟩ := h1
    exact ⟨[], none, 0, rfl, Nat.le_refl _, by simp [maxLen], fun h => by simp at h⟩
  · simp [Value.cells] at hcs
    obtain ⟨rfl, rfl, rfl⟩ := hcs
    have hlm : n ≤ m := by rw [hmm]; split <;> omega
    have hx : ∀ i, i < n → ∃ x, w.cells? base (a.add (i * q.sz)) q.sz = some (q.f x) := fun i hin => by
      obtain ⟨cs', h1, h2⟩ := hi i (by omega)
      obtain ⟨x, hx⟩ := hq.2 h2
      rw [hq.1] at h1
      exact ⟨x, by rw [hx]; exact h1⟩
    obtain ⟨g, hg⟩ : ∃ g : Nat → α, ∀ i, i < n → w.cells? base (a.add (i * q.sz)) q.sz = some (q.f (g i)) :=
      ⟨fun i => if h : i < n then (hx i h).choose else q.d, fun i hin => by simp only [dif_pos hin]; exact (hx i hin).choose_spec⟩
    have hlen : ((List.range n).map g).length = n := by simp
    refine ⟨(List.range n).map g, some a, c, by rw [hlen], by rw [hlen]; exact hl, hm, fun _ => ⟨a, rfl, fun j u hu => ?_⟩⟩
    have hp := q.pos
    have hj : j < n * q.sz := by
      have := (List.getElem?_eq_some_iff.1 hu).1
      rwa [flat_len, hlen] at this
    have hi1 : j / q.sz < n := Nat.div_lt_of_lt_mul (by rw [Nat.mul_comm]; exact hj)
    have hr1 : j % q.sz < q.sz := Nat.mod_lt _ hp
    have e1 : j = j / q.sz * q.sz + j % q.sz := by rw [Nat.mul_comm]; exact (Nat.div_add_mod j q.sz).symm
    have h3 := flat_get (k := q) (xs := (List.range n).map g) (i := j / q.sz) (f := j % q.sz) (by rw [hlen]; exact hi1) hr1
    rw [← e1, hu] at h3
    have h4 : ((List.range n).map g).getD (j / q.sz) q.d = g (j / q.sz) := by simp [List.getD_eq_getElem?_getD, hi1]
    rw [h4] at h3
    obtain ⟨_, _, hat⟩ := World.cells?_some (hg _ hi1)
    have h5 := hat _ hr1
    rw [← h3, add_add, ← e1] at h5
    exact h5
/-- One field of a struct of ints. -/
theorem int_field {H : Type} {enc : TypeId × Value → H} {P : Program} {w : World} {base : Nat} {spare : Nat → Bool} {held : Bool} {fs : Array Field} {n : Nat} {cs : List Value} {xs : List (DataW H × List MemPlace)} {j : Nat} {f : Field} {c : Value}
    (hone : oneCellFields P fs = true) (hlen : xs.length = fs.size) (hf : ∀ (i : Nat) (f : Field), fs[i]? = some f → DataW.trod enc P w base spare held n f.type ((cs.drop f.offset).take (P.cellsOf f.type)) = xs[i]?)
    (hj : fs[j]? = some f) (hc : cs[j]? = some c) (hk : P.underlying f.type = some (.int .i64)) : ∃ a, c = .int .i64 a := by
  obtain ⟨ho, hcl⟩ := hone_of hone j f hj
  have h := hf j f hj
  have hjl : j < fs.size := (Array.getElem?_eq_some_iff.1 hj).1
  have hjc := (List.getElem?_eq_some_iff.1 hc).1
  have hcj := (List.getElem?_eq_some_iff.1 hc).2
  rw [ho, hcl, List.drop_eq_getElem_cons hjc, List.take_succ_cons, List.take_zero, hcj, List.getElem?_eq_getElem (by omega)] at h
  obtain ⟨a, ha, _⟩ := DataW.trod_int hk h
  injection ha with ha
  exact ⟨a, ha⟩
theorem byteReads {P : Program} {e : TypeId} (hs : P.underlying e = some (.int .u8)) (hC : P.cellsOf e = 1) : Reads P eByte e := by
  refine ⟨hC, ?_⟩
  intro H enc w base spare held fuel cs x h
  obtain ⟨n, rfl, _, hw⟩ := DataW.trod_int hs h
  have hb := bounds_u8 hw
  refine ⟨UInt8.ofNat n.toNat, ?_⟩
  show [Value.int .u8 ((UInt8.ofNat n.toNat).toNat : Int)] = [.int .u8 n]
  have : (UInt8.ofNat n.toNat).toNat = n.toNat := by simp; omega
  rw [this]
  congr 2
  omega
end Go.SL

/- A paragraph that comes in. -/
set_option linter.unusedVariables false
set_option linter.unusedSimpArgs false
namespace Go.SL
open Go.RowKit Go.Proofs Go.ChangeShapes Go.WideShapes
set_option maxRecDepth 100000 in
theorem spanReads (e : TypeId) {f0 f1 f2 f3 : Field} (hs : Tryz.prog.underlying e = some (.struct #[f0, f1, f2, f3])) (hone : Go.Deep.oneCellFields Tryz.prog #[f0, f1, f2, f3] = true) (hC : Tryz.prog.cellsOf e = 4)
    (k0 : Tryz.prog.underlying f0.type = some (.int .i64)) (k1 : Tryz.prog.underlying f1.type = some (.int .i64)) (k2 : Tryz.prog.underlying f2.type = some (.int .i64)) (k3 : Tryz.prog.underlying f3.type = some (.int .i64)) : Reads Tryz.prog eSpan e := by
  refine ⟨hC, ?_⟩
  intro H enc w base spare held fuel cs x h
  obtain ⟨xs, n, _, _, hl, hlen, hf⟩ := DataW.trod_struct hs h
  rw [hC] at hl
  match cs, hl with
  | [c0, c1, c2, c3], _ =>
    obtain ⟨a0, rfl⟩ := int_field hone hlen hf (j := 0) rfl rfl k0
    obtain ⟨a1, rfl⟩ := int_field hone hlen hf (j := 1) rfl rfl k1
    obtain ⟨a2, rfl⟩ := int_field hone hlen hf (j := 2) rfl rfl k2
    obtain ⟨a3, rfl⟩ := int_field hone hlen hf (j := 3) rfl rfl k3
    exact ⟨⟨a0, a1, a2, a3⟩, rfl⟩
theorem cell_field {H : Type} {enc : TypeId × Value → H} {P : Program} {w : World} {base : Nat} {spare : Nat → Bool} {held : Bool} {fs : Array Field} {n : Nat} {cs : List Value} {xs : List (DataW H × List MemPlace)} {j : Nat} {f : Field} {c : Value}
    (hone : Go.Deep.oneCellFields P fs = true) (hlen : xs.length = fs.size) (hf : ∀ (i : Nat) (f : Field), fs[i]? = some f → DataW.trod enc P w base spare held n f.type ((cs.drop f.offset).take (P.cellsOf f.type)) = xs[i]?)
    (hj : fs[j]? = some f) (hc : cs[j]? = some c) : ∃ y, DataW.trod enc P w base spare held n f.type [c] = some y := by
  obtain ⟨ho, hcl⟩ := Go.Deep.hone_of hone j f hj
  have h := hf j f hj
  have hjl : j < fs.size := (Array.getElem?_eq_some_iff.1 hj).1
  have hjc := (List.getElem?_eq_some_iff.1 hc).1
  have hcj := (List.getElem?_eq_some_iff.1 hc).2
  rw [ho, hcl, List.drop_eq_getElem_cons hjc, List.take_succ_cons, List.take_zero, hcj, List.getElem?_eq_getElem (by omega)] at h
  exact ⟨_, h⟩
set_option maxRecDepth 100000 in
theorem para_of_trod {H : Type} {enc : TypeId × Value → H} {W : World} {base : Nat} {spare : Nat → Bool} {held : Bool} {v0 : Value} {d : DataW H} {ps : List MemPlace} (t ts te : TypeId) {f0 f1 f2 f3 f4 f5 : Field} (hs : Tryz.prog.underlying t = some (.struct #[f0, f1, f2, f3, f4, f5]))
    (hone : Go.Deep.oneCellFields Tryz.prog #[f0, f1, f2, f3, f4, f5] = true) (hC : Tryz.prog.cellsOf t = 6) (k0 : Tryz.prog.underlying f0.type = some .string) (k1 : Tryz.prog.underlying f1.type = some (.int .i64)) (k2 : Tryz.prog.underlying f2.type = some (.int .i64)) (k3 : Tryz.prog.underlying f3.type = some (.int .i64))
    (k4 : Tryz.prog.underlying f4.type = some (.int .i64)) (k5 : Tryz.prog.underlying f5.type = some (.slice te)) (he : Reads Tryz.prog eSpan te) (hv : ∃ cs, v0 = .agg cs) (h : DataW.Trod enc Tryz.prog W base spare held t v0 d ps) : ∃ p v, v0 = pv p v ∧ rd eSpan v p.spans W ∧ p.text.length ≤ 9223372036854775807 := by
  obtain ⟨cs, rfl⟩ := hv
  obtain ⟨fuel, h⟩ := h
  obtain ⟨xs, n, _, _, hl, hlen, hf⟩ := DataW.trod_struct hs h
  rw [hC] at hl
  obtain ⟨cs⟩ := cs
  change cs.length = 6 at hl
  match cs, hl with
  | [c0, c1, c2, c3, c4, c5], _ =>
    obtain ⟨y0, h0⟩ := cell_field hone hlen hf (j := 0) rfl rfl
    obtain ⟨s, e0, _, hsz⟩ := DataW.trod_string k0 h0
    injection e0 with e0
    subst e0
    obtain ⟨a1, rfl⟩ := int_field hone hlen hf (j := 1) rfl rfl k1
    obtain ⟨a2, rfl⟩ := int_field hone hlen hf (j := 2) rfl rfl k2
    obtain ⟨a3, rfl⟩ := int_field hone hlen hf (j := 3) rfl rfl k3
    obtain ⟨a4, rfl⟩ := int_field hone hlen hf (j := 4) rfl rfl k4
    obtain ⟨y5, h5⟩ := cell_field hone hlen hf (j := 5) rfl rfl
    obtain ⟨A, m, c, rfl⟩ : ∃ A m c, c5 = .slice A m c := by
      rcases Go.Deep.open_slice k5 h5 with ⟨h1, _⟩ | ⟨a, len, cap, m, n', D, Pl, hcs, _⟩
      · injection h1 with h1
        exact ⟨_, _, _, h1⟩
      · injection hcs with hcs
        exact ⟨_, _, _, hcs⟩
    obtain ⟨l, hr⟩ := rd_of_trod he k5 ⟨n, h5⟩
    refine ⟨⟨s.data.toList, a1, a2, a3, a4, l⟩, _, ?_, hr, ?_⟩
    · simp [pv, sv]
    · have : s.data.toList.length = s.size := Array.length_toList
      rw [this]
      exact hsz
theorem open_text {H : Type} {enc : TypeId × Value → H} {P : Program} {w : World} {base : Nat} {sp : Nat → Bool} {held : Bool} {r : Go.Reach} {b0 : Nat} {t : TypeId} {v : Value} {d : DataW H} {ps : List MemPlace} (ht : P.underlying t = some .string) (hval : Value.okWide P w r b0 t v) (hd : DataW.Trod enc P w base sp held t v d ps) :
    ∃ s : ByteArray, v = .string s ∧ d = .lit (.string s.data.toList) ∧ ps = [] ∧ s.size ≤ maxLen := by
  obtain ⟨s, rfl⟩ := okWide_string ht hval
  obtain ⟨fuel, hf⟩ := hd
  obtain ⟨s', h, hx, hs⟩ := DataW.trod_string ht hf
  simp [Value.cells] at h
  subst h
  simp at hx
  exact ⟨s, rfl, hx.1, hx.2, hs⟩
theorem shut_text {H : Type} {enc : TypeId × Value → H} {P : Program} {w : World} {base : Nat} {sp : Nat → Bool} {held : Bool} {t : TypeId} {s : ByteArray} (ht : P.underlying t = some .string) (hs : s.size ≤ maxLen) : DataW.Trod enc P w base sp held t (.string s) (.lit (.string s.data.toList)) [] :=
  ⟨1, by simp [DataW.trod, Value.cells, ht, hs]⟩
end Go.SL


set_option linter.unusedVariables false
set_option linter.unusedSimpArgs false
namespace Go.Proofs.YtlonbhkjjoognaaGreatDoor.fnParaPut
open Go.ChangeShapes Go.WideShapes Go.ChangeAt Go.RowKit Go.SL
theorem tabs_stays : Stays tabs := fun _ _ h hb => Utf8Tabs_below h hb
theorem own : ownKnob Tryz.prog.godebug = none := by kernel_rfl
theorem laidOut : laidOutB Tryz.prog = true := by kernel_rfl
theorem elems : Reads Tryz.prog eByte 5 := byteReads Tryz.underlying5 (by kernel_rfl)
theorem x197 : U8Extra Tryz.prog Tryz.lays197_ren := ⟨by kernel_rfl, by kernel_rfl, by kernel_rfl, by kernel_rfl, by kernel_rfl, by kernel_rfl, by kernel_rfl⟩
/-- The listed variables that are plain tables. -/
def plainL : List (String × DataW Unit) := Rows.fnParaPutRow.laid.filter fun x => x.2.handleName?.isNone
/-- A world in which the listed variables lie as listed: the witness. -/
noncomputable def handleW (os : Os) : World :=
  let w0 := World.holding Tryz.prog os ⟨#[], #[], []⟩
  { w0 with heap := w0.heap.modify 0 fun
      | .cells _ t frozen => .cells #[.iface 151 (.agg #[typeHandle Tryz.prog 49])] t frozen
      | o => o }
noncomputable def laidW (os : Os) : World := (handleW os).layVars Tryz.prog plainL
theorem laidW_met (os : Os) (args : Array Value) : laidMet Tryz.prog plainL ((laidW os).forCall (fun _ _ => 0) ⟨#[], args, []⟩).memory := by
  have e1 : (plainL.filter fun x => (plainL.map (·.1)).contains x.1) = plainL := List.filter_eq_self.2 fun x hx => List.contains_iff_mem.2 (List.mem_map.2 ⟨x, hx, rfl⟩)
  have e2 : (plainL.filter fun x => !(plainL.map (·.1)).contains x.1) = [] := List.filter_eq_nil_iff.2 fun x hx => by rw [List.contains_iff_mem.2 (List.mem_map.2 ⟨x, hx, rfl⟩)]; simp
  have hf : (handleW os).layFits Tryz.prog plainL [] = true := by kernel_rfl
  have hi : (handleW os).layIfaces Tryz.prog plainL (laidW os) = true := by kernel_rfl
  have h : laidMet Tryz.prog plainL (laidW os) := laidMet_layVars (w0 := handleW os) (plainL.map (·.1)) [] (by rw [e1]; rfl) (by rw [e1]; exact hf) (by rw [e1]; exact hi) (by rw [e2]; exact LaidIn.none)
  exact h.of_heap (by simp [World.memory, World.forCall, Input.heap])
set_option maxRecDepth 100000 in
theorem lifted (os : Os) (started : os.Started) (H : Type) (enc : TypeId × Value → H) :
    ReturnsInHanded {} Tryz.checked os 3 .any (fun w args => (Rows.fnParaPutSpec.pre enc Tryz.prog Tryz.f3 [] false w args ∧ laidMetH Tryz.prog Rows.fnParaPutRow.laid w) ∧ sizedMet enc Tryz.prog Tryz.f3 (OpenSpec.ofChange Rows.fnParaPutSpec) false w args)
      (Rows.fnParaPutSpec.post enc Tryz.prog Tryz.f3 false true false false) := by
  refine returnsInHanded_of_change_and (C := Tryz.checked) (X := fun w _ => laidMetH Tryz.prog Rows.fnParaPutRow.laid w) (fun _ _ _ hh h => h.of_heap hh) own started (by kernel_rfl) Tryz.func3
    (ChangeSpec.witness_shaped (enc := enc) (C := Tryz.checked) (os := os) (X := fun w _ => laidMetH Tryz.prog Rows.fnParaPutRow.laid w) false (laidW os) #[.slice none 0 0] 8 (World.layVars_os _ _ _)
      (World.shaped_of_ZipB (by kernel_rfl) (by kernel_rfl)) (by kernel_rfl) (by kernel_rfl) (by kernel_rfl)
      (laidMetH_of_parts (laidW_met os _) (by kernel_rfl))) ?_
  intro W base args ds gs before hval0 hW _ _ hL _
  have hval : ∀ (j : Nat) t v, Tryz.f3.params[j]? = some t → args[j]? = some v → Value.okWide Tryz.prog W .any base t v := hval0
  have hW' := hW
  obtain ⟨p, q, hA0, hV, rfl, hfz, hnd⟩ := hW
  have hA : DataW.TrodAll enc Tryz.prog W 0 (fun _ => true) true Tryz.f3.params.toList args.toList ds p := hA0
  rw [Tryz.params3] at hA hval
  obtain ⟨v0, vs0, d0, ds0, p0, q0, hargs, rfl, rfl, h0, r0⟩ := trodAll_cons hA
  obtain ⟨rfl, rfl, rfl⟩ := trodAll_nil r0
  obtain rfl : args = #[v0] := by cases args; simp_all
  obtain ⟨rfl, rfl⟩ := trodVars_none hV
  have k0 := h0
  have lt0 : ∀ x ∈ p0, x.block < W.heap.size := by obtain ⟨m, hm⟩ := k0; exact DataW.trod_lt m _ _ _ hm
  obtain ⟨A0, n0, c0, rfl⟩ := okWide_slice Tryz.underlying22 (hval 0 22 v0 rfl rfl)
  obtain ⟨l0, hr0⟩ := rd_of_trod elems Tryz.underlying22 h0
  have hL := (laidMetH_iff.1 hL).1
  have hpl : (Rows.fnParaPutRow.laid.filter fun x => x.2.handleName?.isNone) = [("unicode/utf8.acceptRanges", Rows.laid_unicode_utf8_acceptRanges), ("unicode/utf8.first", Rows.laid_unicode_utf8_first)] := by kernel_rfl
  rw [hpl] at hL
  have hT : tabs W := utf8Tabs_of_reads (ρ := Tryz.lays197_ren) { Tryz.lays197 with } x197 (Pinned.utf8First_eq ▸ Lib.laidMet.reads hL (.tail _ (.head _))) (Lib.laidMet.reads hL (.head _))
  clear hA0 hval0
  refine (law_of_spec (FnParaPut_c _ l0) W (fun R hR => ?_)).mono fun e W' ⟨he, bel⟩ => ?_
  · rcases List.mem_cons.1 hR with rfl | hR
    · exact ⟨hr0, rd_stays⟩
    · rw [List.mem_singleton.1 hR]
      exact ⟨hT, tabs_stays⟩
  subst he
  exact ⟨_, rfl, _, _, _, [], _, [], hW', trodAll_mk1 (shut_bool Tryz.underlying4 _), (trodAll_cons_mk (Below.trod laidOut (by kernel_rfl) (of_decide_eq_true (by kernel_rfl)) k0 bel lt0) trodAll_mk0), rfl, bel.frame _, fun h => by cases h⟩
theorem over : Rows.FnParaPutSaid :=
  OpenClaim.holds_of_wide 3 Tryz.f3 rfl rfl rfl rfl rfl rfl rfl ⟨rfl, rfl, rfl, rfl, rfl⟩ rfl rfl rfl rfl rfl (by kernel_rfl) Tryz.func3 (by kernel_rfl)
    (of_decide_eq_true (by kernel_rfl)) (by unfold Func.isWrapper; first | (rw [if_pos (by decide +kernel)]; kernel_rfl) | (rw [if_neg (by decide +kernel)]; exact ⟨rfl, rfl⟩))
    (fun os started H enc _ => lifted os started H enc)
end Go.Proofs.YtlonbhkjjoognaaGreatDoor.fnParaPut
namespace Go.Proofs.YtlonbhkjjoognaaGreatDoor
theorem fnParaPut_holds : Rows.FnParaPutCardSaid :=
  Claim7.holds_tied_plain_at .later [] [.data, .handle, .pinned] true (true, "ead09303a965200747a4792f4eebfb1ab2e3a5a3feb24594f479f85304d2cac5") true
    fnParaPut.over (fun _ h => by cases h) (by kernel_rfl) (fun _ h => by cases h) fnParaPut_row_tie rfl ⟨rfl, rfl⟩ (by kernel_rfl) rfl
    (fun f fn hf hfn => by
      obtain rfl : f = 3 := Option.some.inj ((show Tryz.prog.funcNamed "loop.example/colophon/laws.FnParaPut" = some 3 by kernel_rfl).symm.trans hf) |>.symm
      obtain rfl : fn = Tryz.f3 := (Option.some.inj (Tryz.func3.symm.trans hfn)).symm
      exact ⟨by kernel_rfl, fun j t ht => by
        rw [Tryz.params3] at ht
        have hm : t ∈ [22] := by have := Array.mem_of_getElem? ht; simp at this ⊢; exact this
        have hall : ([22].all fun u => !Tryz.prog.wantsStandIn u) = true := by kernel_rfl
        exact (show Tryz.prog.wantsStandIn t = false by simpa using List.all_eq_true.1 hall t hm)⟩)
    (by kernel_rfl)
end Go.Proofs.YtlonbhkjjoognaaGreatDoor
