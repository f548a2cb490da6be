/- FnExactSpansMove answers true for every input, and leaves its arguments as they were. Conditions: none. -/
import Derived.Test.YtccmdhihlkmjjaaRows
import Derived.Test.YtccmdhihlkmjjaaD1
import Derived.Test.YtccmdhihlkmjjaaR0
namespace Go.SL
open Go.RowKit Go.Proofs Go.ChangeShapes Go.WideShapes
theorem spanReads (e : TypeId) {f0 f1 f2 f3 : Field} (hs : Try.prog.underlying e = some (.struct #[f0, f1, f2, f3])) (hone : Go.Deep.oneCellFields Try.prog #[f0, f1, f2, f3] = true) (hC : Try.prog.cellsOf e = 4)
    (k0 : Try.prog.underlying f0.type = some (.int .i64)) (k1 : Try.prog.underlying f1.type = some (.int .i64)) (k2 : Try.prog.underlying f2.type = some (.int .i64)) (k3 : Try.prog.underlying f3.type = some (.int .i64)) : Reads Try.prog eSpan e := by
  refine ⟨hC, ?_⟩
  intro H enc w base spare held fuel cs x h
  obtain ⟨xs, n, _, _, hl, hlen, hf⟩ := DataW.trod_struct hs h
  rw [hC] at hl
  match cs, hl with
  | [c0, c1, c2, c3], _ =>
    obtain ⟨a0, rfl⟩ := int_field hone hlen hf (j := 0) rfl rfl k0
    obtain ⟨a1, rfl⟩ := int_field hone hlen hf (j := 1) rfl rfl k1
    obtain ⟨a2, rfl⟩ := int_field hone hlen hf (j := 2) rfl rfl k2
    obtain ⟨a3, rfl⟩ := int_field hone hlen hf (j := 3) rfl rfl k3
    exact ⟨⟨a0, a1, a2, a3⟩, rfl⟩
end Go.SL
namespace Go.Proofs.Ytccmdhihlkmjjaa.fnExactSpansMove
open Go.ChangeShapes Go.WideShapes Go.ChangeAt Go.RowKit Go.SL
theorem own : ownKnob Try.prog.godebug = none := by kernel_rfl
theorem laidOut : laidOutB Try.prog = true := by kernel_rfl
theorem elems : Reads Try.prog eSpan 46 := spanReads 46 Try.underlying46 (by kernel_rfl) (by kernel_rfl) (by kernel_rfl) (by kernel_rfl) (by kernel_rfl) (by kernel_rfl)
set_option maxRecDepth 100000 in
theorem lifted (os : Os) (started : os.Started) (H : Type) (enc : TypeId × Value → H) :
    ReturnsInHanded {} Try.checked os 3 .any (Rows.fnExactSpansMoveSpec.pre6 enc Try.prog Try.f3 Rows.fnExactSpansMoveRow.domain false) (Rows.fnExactSpansMoveSpec.post enc Try.prog Try.f3 false true false false) := by
  refine returnsInHanded_of_change (C := Try.checked) own started (by kernel_rfl) Try.func3
    (ChangeSpec.witness6 (enc := enc) (C := Try.checked) false ⟨#[], #[.slice none 0 0, .int .i64 0, .int .i64 0, .int .i64 0], []⟩ 8 (by kernel_rfl) (by kernel_rfl) (by kernel_rfl) (by kernel_rfl)) ?_
  intro W base args ds gs before hval0 hW hcnd _
  have hval : ∀ (j : Nat) t v, Try.f3.params[j]? = some t → args[j]? = some v → Value.okWide Try.prog W .any base t v := hval0
  have hW' := hW
  obtain ⟨p, q, hA0, hV, rfl, hfz, hnd⟩ := hW
  have hA : DataW.TrodAll enc Try.prog W 0 (fun _ => true) true Try.f3.params.toList args.toList ds p := hA0
  rw [Try.params3] at hA hval
  obtain ⟨v0, vs0, d0, ds0, p0, q0, hargs, rfl, rfl, h0, r0⟩ := trodAll_cons hA
  obtain ⟨v1, vs1, d1, ds1, p1, q1, rfl, rfl, rfl, h1, r1⟩ := trodAll_cons r0
  obtain ⟨v2, vs2, d2, ds2, p2, q2, rfl, rfl, rfl, h2, r2⟩ := trodAll_cons r1
  obtain ⟨v3, vs3, d3, ds3, p3, q3, rfl, rfl, rfl, h3, r3⟩ := trodAll_cons r2
  obtain ⟨rfl, rfl, rfl⟩ := trodAll_nil r3
  obtain rfl : args = #[v0, v1, v2, v3] := by cases args; simp_all
  obtain ⟨rfl, rfl⟩ := trodVars_none hV
  have k0 := h0
  have lt0 : ∀ x ∈ p0, x.block < W.heap.size := by obtain ⟨m, hm⟩ := k0; exact DataW.trod_lt m _ _ _ hm
  obtain ⟨A0, n0, c0, rfl⟩ := okWide_slice Try.underlying22 (hval 0 22 v0 rfl rfl)
  obtain ⟨l0, hr0⟩ := rd_of_trod elems Try.underlying22 h0
  obtain ⟨a1, rfl, rfl, rfl, w1⟩ := open_int Try.underlying3 (hval 1 3 v1 rfl rfl) h1
  obtain ⟨a2, rfl, rfl, rfl, w2⟩ := open_int Try.underlying3 (hval 2 3 v2 rfl rfl) h2
  obtain ⟨a3, rfl, rfl, rfl, w3⟩ := open_int Try.underlying3 (hval 3 3 v3 rfl rfl) h3
  clear hA0 hval0
  refine (law_of_spec (FnExactSpansMove_c _ l0 a1 a2 a3) W (fun R hR => ?_)).mono fun e W' ⟨he, bel⟩ => ?_
  · rw [List.mem_singleton.1 hR]
    exact ⟨hr0, rd_stays⟩
  subst he
  exact ⟨_, rfl, _, _, _, [], _, [], hW', trodAll_mk1 (shut_bool Try.underlying4 _), (trodAll_cons_mk (Below.trod laidOut (by kernel_rfl) (of_decide_eq_true (by kernel_rfl)) k0 bel lt0) (trodAll_cons_mk (shut_int Try.underlying3 w1) (trodAll_cons_mk (shut_int Try.underlying3 w2) (trodAll_cons_mk (shut_int Try.underlying3 w3) trodAll_mk0)))), rfl, bel.frame _, fun h => by cases h⟩
theorem over : Rows.fnExactSpansMoveRow.holds Try.pinned (OpenSpec.ofChange Rows.fnExactSpansMoveSpec) :=
  OpenClaim.holds_of_wide 3 Try.f3 rfl rfl rfl rfl rfl rfl rfl ⟨rfl, rfl, rfl, rfl, rfl⟩ rfl rfl rfl rfl rfl (by kernel_rfl) Try.func3 (by kernel_rfl)
    (of_decide_eq_true (by kernel_rfl)) (by unfold Func.isWrapper; first | (rw [if_pos (by decide +kernel)]; kernel_rfl) | (rw [if_neg (by decide +kernel)]; exact ⟨rfl, rfl⟩))
    (fun os started H enc _ => lifted os started H enc)
end Go.Proofs.Ytccmdhihlkmjjaa.fnExactSpansMove
namespace Go.Proofs.Ytccmdhihlkmjjaa
theorem fnExactSpansMove_holds : Rows.FnExactSpansMoveSaid := fnExactSpansMove.over
end Go.Proofs.Ytccmdhihlkmjjaa
