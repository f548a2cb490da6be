/- FnExactParaPut answers true for every input, and leaves its arguments as they were; the two tables of unicode/utf8 that the row lists are tied to the program's text. Conditions: none beyond the row's own (the listed tables). -/
import Derived.Test.YtccmdhihlkmjjaaDoorMP7
import Derived.WalkKit
import Derived.ProofKit
import Derived.OpenShut
import Derived.ShutString
import Derived.ChangeOld
import Derived.Below
import Derived.SizedLaws
import Derived.Deep.Slices
import Derived.Deep.Fields
import Derived.Test.YtccmdhihlkmjjaaDoorRows
import Derived.Test.YtccmdhihlkmjjaaDoorTie
import Derived.Test.YtccmdhihlkmjjaaDoorCards
import Derived.PinnedBridge
import Derived.Lib.LaidU8
import Derived.Lay
import Derived.SevenTiedAt
/- laws: toPara, szPara, eqPara, markPara, heldPara. -/
set_option linter.unusedVariables false
set_option linter.unusedSimpArgs false
namespace Go.SL
open Go.RowKit Go.Proofs
set_option maxRecDepth 100000 in
set_option maxHeartbeats 4000000 in
theorem toPara_c (p : Para) (v : Value) (hl : p.spans.length ≤ 1100000) : Spec Tryd.prog 7 [pv p v] [rd eSpan v p.spans] [] (fun u : Value => pv p u) (fun u => [row eSpan 64 u p.spans]) (fun _ => True) := by
  refine Spec.mk Tryd.func7 rfl Tryd.ntmps7 rfl ?_
  intro w0 O hR hS0
  have hr := hR _ List.mem_cons_self; clear hR hS0
  repeat' (first | ((with_reducible apply iOJ); first | ((with_reducible apply iOp); refine OJ.p ?_) | with_reducible apply OJ.nil | ((with_reducible apply iOg); first | refine OJ.guardY ?_ | refine OJ.guardN ?_ | refine OJ.guardNd ?_ | refine OJ.guardU ?_ | refine OJ.guardS (fun _ => ?_) (fun _ => ?_) | fail) | ((with_reducible apply iOstore); first | (refine OJ.as AS.store ?_; rintro _ _ rfl) | (refine OJ.as AS.storeA ?_; rintro _ _ rfl) | (refine OJ.as AS.storeAV ?_; rintro _ _ rfl) | (refine OJ.as AS.storeE ?_; rintro _ _ rfl) | (refine OJ.as AS.storeEA ?_; rintro _ _ rfl) | fail) | ((with_reducible apply iOcall); first | (refine OJ.as AS.append1 ?_; rintro _ _ rfl) | (refine OJ.as AS.append ?_; rintro _ _ rfl) | (refine OJ.as (AS.call1 (toSpanS_c _ _ hl)) ?_; rotate_right; rintro _ _ ⟨y, hy, rfl, rfl⟩) | fail) | ((with_reducible apply iObox); first | (refine OJ.as AS.box1 ?_; rintro _ _ ⟨_, rfl, rfl⟩) | (refine OJ.as AS.boxA ?_; rintro _ _ ⟨_, rfl, rfl⟩) | fail) | ((with_reducible apply iOalloc); first | (refine OJ.as AS.alloc ?_; rintro _ _ ⟨_, rfl, rfl⟩) | fail) | ((with_reducible apply iObuildSlice); first | (refine OJ.as AS.buildSlice ?_; rintro _ _ ⟨_, rfl, rfl⟩) | fail) | ((with_reducible apply iOmakeSlice); first | (refine OJ.as AS.makeSlice ?_; rintro _ _ rfl) | fail) | ((with_reducible apply iOmakeMap); first | (refine OJ.as AS.makeMap ?_; rintro _ _ ⟨_, rfl, rfl⟩) | fail) | ((with_reducible apply iOmapEntry); first | (refine OJ.as AS.mapEntry ?_; rintro _ _ ⟨_, _, rfl, rfl⟩) | fail) | ((with_reducible apply iOentryStore); first | (refine OJ.as AS.entryStore ?_; rintro _ _ rfl) | fail) | refine OJ.unboxP fun _ => ?_ | fail) | ((with_reducible apply iJ); first | refine J.seq ?_ | refine J.region ?_ | refine J.block ?_ | refine J.skip ?_ | refine J.exit ?_ | refine J.condT ?_ | refine J.condF ?_ | refine J.cond (fun _ => ?_) (fun _ => ?_) | refine J.retC (ends _ trivial rfl ?_) | fail) | ((with_reducible apply iJK); first | refine JK.code ?_ | refine JK.blk ?_ | refine JK.loop ?_ | refine JK.begin ?_ | refine JK.more ?_ | fail) | ((with_reducible apply iEnt); first | exact Ent.nil | ((with_reducible apply iERow); refine Ent.row ?_ ?_) | ((with_reducible apply iEBox); first | refine Ent.box ?_ ?_ | refine Ent.box2 ?_ ?_) | ((with_reducible apply iEBlk); refine Ent.blk ?_ ?_) | ((with_reducible apply iEPure); refine Ent.pure ?_ ?_) | ((with_reducible apply iERdR); first | refine Ent.rdR ?_ | refine Ent.any ?_ | fail) | refine Ent.any ?_ | with_reducible exact Ent.refl | fail) | ((with_reducible apply iEq); with_reducible rfl) | fail)
def szP (p : Para) (n : Int) : Int := match decide (w64 (n - p.text.length) < 0) with
  | true => -1
  | false => match decide (szS p.spans (w64 (n - p.text.length)) < 0) with
    | true => -1
    | false => szS p.spans (w64 (n - p.text.length))
set_option maxRecDepth 100000 in
set_option maxHeartbeats 4000000 in
theorem szPara_c (p : Para) (v : Value) (n : Int) : Spec Tryd.prog 5 [pv p v, .int .i64 n] [rd eSpan v p.spans] [] (fun _ : Unit => .int .i64 (szP p n)) (fun _ => []) (fun _ => True) := by
  refine Spec.mk Tryd.func5 rfl Tryd.ntmps5 rfl ?_
  intro w0 O hR hS0
  have hr := hR _ List.mem_cons_self; clear hR hS0
  repeat' (first | ((with_reducible apply iOJ); first | ((with_reducible apply iOp); refine OJ.p ?_) | with_reducible apply OJ.nil | ((with_reducible apply iOg); first | refine OJ.guardY ?_ | refine OJ.guardN ?_ | refine OJ.guardNd ?_ | refine OJ.guardU ?_ | refine OJ.guardS (fun _ => ?_) (fun _ => ?_) | fail) | ((with_reducible apply iOstore); first | (refine OJ.as AS.store ?_; rintro _ _ rfl) | (refine OJ.as AS.storeA ?_; rintro _ _ rfl) | (refine OJ.as AS.storeAV ?_; rintro _ _ rfl) | (refine OJ.as AS.storeE ?_; rintro _ _ rfl) | (refine OJ.as AS.storeEA ?_; rintro _ _ rfl) | fail) | ((with_reducible apply iOcall); first | (refine OJ.as AS.append1 ?_; rintro _ _ rfl) | (refine OJ.as AS.append ?_; rintro _ _ rfl) | (refine OJ.as (AS.call0 (szSpanS_c _ _ _)) ?_; rotate_right; rintro _ _ ⟨y, hy, rfl, rfl⟩) | fail) | ((with_reducible apply iObox); first | (refine OJ.as AS.box1 ?_; rintro _ _ ⟨_, rfl, rfl⟩) | (refine OJ.as AS.boxA ?_; rintro _ _ ⟨_, rfl, rfl⟩) | fail) | ((with_reducible apply iOalloc); first | (refine OJ.as AS.alloc ?_; rintro _ _ ⟨_, rfl, rfl⟩) | fail) | ((with_reducible apply iObuildSlice); first | (refine OJ.as AS.buildSlice ?_; rintro _ _ ⟨_, rfl, rfl⟩) | fail) | ((with_reducible apply iOmakeSlice); first | (refine OJ.as AS.makeSlice ?_; rintro _ _ rfl) | fail) | ((with_reducible apply iOmakeMap); first | (refine OJ.as AS.makeMap ?_; rintro _ _ ⟨_, rfl, rfl⟩) | fail) | ((with_reducible apply iOmapEntry); first | (refine OJ.as AS.mapEntry ?_; rintro _ _ ⟨_, _, rfl, rfl⟩) | fail) | ((with_reducible apply iOentryStore); first | (refine OJ.as AS.entryStore ?_; rintro _ _ rfl) | fail) | refine OJ.unboxP fun _ => ?_ | fail) | ((with_reducible apply iJ); first | refine J.seq ?_ | refine J.region ?_ | refine J.block ?_ | refine J.skip ?_ | refine J.exit ?_ | refine J.condT ?_ | refine J.condF ?_ | refine J.cond (fun _ => ?_) (fun _ => ?_) | refine J.ret (ends () trivial ?_ Ent.nil) | fail) | ((with_reducible apply iJK); first | refine JK.code ?_ | refine JK.blk ?_ | refine JK.loop ?_ | refine JK.begin ?_ | refine JK.more ?_ | fail) | ((with_reducible apply iEnt); first | exact Ent.nil | ((with_reducible apply iERow); refine Ent.row ?_ ?_) | ((with_reducible apply iEBox); first | refine Ent.box ?_ ?_ | refine Ent.box2 ?_ ?_) | ((with_reducible apply iEBlk); refine Ent.blk ?_ ?_) | ((with_reducible apply iEPure); refine Ent.pure ?_ ?_) | ((with_reducible apply iERdR); first | refine Ent.rdR ?_ | refine Ent.any ?_ | fail) | refine Ent.any ?_ | with_reducible exact Ent.refl | fail) | ((with_reducible apply iEq); with_reducible rfl) | fail)
  all_goals
    refine int_eq ?_
    simp only [szP]
    simp [w64, *]
set_option maxRecDepth 100000 in
set_option maxHeartbeats 4000000 in
theorem eqPara_same (p : Para) (v u : Value) : Spec Tryd.prog 9 [pv p v, pv p u] [rd eSpan v p.spans, rd eSpan u p.spans] [] (fun _ : Unit => .bool true) (fun _ => []) (fun _ => True) := by
  refine Spec.mk Tryd.func9 rfl Tryd.ntmps9 rfl ?_
  intro w0 O hR hS0
  have hr := hR _ List.mem_cons_self
  have hr2 := hR _ (List.mem_cons_of_mem _ List.mem_cons_self); clear hR hS0
  repeat' (first | ((with_reducible apply iOJ); first | ((with_reducible apply iOp); refine OJ.p ?_) | with_reducible apply OJ.nil | ((with_reducible apply iOg); first | refine OJ.guardY ?_ | refine OJ.guardN ?_ | refine OJ.guardNd ?_ | refine OJ.guardU ?_ | refine OJ.guardS (fun _ => ?_) (fun _ => ?_) | fail) | ((with_reducible apply iOstore); first | (refine OJ.as AS.store ?_; rintro _ _ rfl) | (refine OJ.as AS.storeA ?_; rintro _ _ rfl) | (refine OJ.as AS.storeAV ?_; rintro _ _ rfl) | (refine OJ.as AS.storeE ?_; rintro _ _ rfl) | (refine OJ.as AS.storeEA ?_; rintro _ _ rfl) | fail) | ((with_reducible apply iOcall); first | (refine OJ.as AS.append1 ?_; rintro _ _ rfl) | (refine OJ.as AS.append ?_; rintro _ _ rfl) | (refine OJ.as (AS.call0 (eqSpanS_same _ _ _)) ?_; rotate_right; rintro _ _ ⟨y, hy, rfl, rfl⟩) | fail) | ((with_reducible apply iObox); first | (refine OJ.as AS.box1 ?_; rintro _ _ ⟨_, rfl, rfl⟩) | (refine OJ.as AS.boxA ?_; rintro _ _ ⟨_, rfl, rfl⟩) | fail) | ((with_reducible apply iOalloc); first | (refine OJ.as AS.alloc ?_; rintro _ _ ⟨_, rfl, rfl⟩) | fail) | ((with_reducible apply iObuildSlice); first | (refine OJ.as AS.buildSlice ?_; rintro _ _ ⟨_, rfl, rfl⟩) | fail) | ((with_reducible apply iOmakeSlice); first | (refine OJ.as AS.makeSlice ?_; rintro _ _ rfl) | fail) | ((with_reducible apply iOmakeMap); first | (refine OJ.as AS.makeMap ?_; rintro _ _ ⟨_, rfl, rfl⟩) | fail) | ((with_reducible apply iOmapEntry); first | (refine OJ.as AS.mapEntry ?_; rintro _ _ ⟨_, _, rfl, rfl⟩) | fail) | ((with_reducible apply iOentryStore); first | (refine OJ.as AS.entryStore ?_; rintro _ _ rfl) | fail) | refine OJ.unboxP fun _ => ?_ | fail) | ((with_reducible apply iJ); first | refine J.seq ?_ | refine J.region ?_ | refine J.block ?_ | refine J.skip ?_ | refine J.exit ?_ | refine J.condT ?_ | refine J.condF ?_ | refine J.cond (fun _ => ?_) (fun _ => ?_) | refine J.retB ?_ | fail) | ((with_reducible apply iJK); first | refine JK.code ?_ | refine JK.blk ?_ | refine JK.loop ?_ | refine JK.begin ?_ | refine JK.more ?_ | fail) | ((with_reducible apply iEnt); first | exact Ent.nil | ((with_reducible apply iERow); refine Ent.row ?_ ?_) | ((with_reducible apply iEBox); first | refine Ent.box ?_ ?_ | refine Ent.box2 ?_ ?_) | ((with_reducible apply iEBlk); refine Ent.blk ?_ ?_) | ((with_reducible apply iEPure); refine Ent.pure ?_ ?_) | ((with_reducible apply iERdR); first | refine Ent.rdR ?_ | refine Ent.any ?_ | fail) | refine Ent.any ?_ | with_reducible exact Ent.refl | fail) | ((with_reducible apply iEq); with_reducible rfl) | fail)
  all_goals first | rfl | (exfalso; simp_all; done)
set_option maxRecDepth 100000 in
set_option maxHeartbeats 4000000 in
theorem markPara_c (p : Para) (v : Value) (l : List Span) (k : Int) (hk : -1000000000 ≤ k ∧ k ≤ 1000000000) (hl : l.length ≤ 1100000) : Spec Tryd.prog 10 [pv p v, .int .i64 k] [] [row eSpan 64 v l] (fun _ : Unit => .int .i64 (k + 4 * l.length)) (fun _ => [row eSpan 64 v (markS k l.length)]) (fun _ => True) := by
  refine Spec.mk Tryd.func10 rfl Tryd.ntmps10 rfl ?_
  intro w0 O hR hS0; clear hR hS0
  repeat' (first | ((with_reducible apply iOJ); first | ((with_reducible apply iOp); refine OJ.p ?_) | with_reducible apply OJ.nil | ((with_reducible apply iOg); first | refine OJ.guardY ?_ | refine OJ.guardN ?_ | refine OJ.guardNd ?_ | refine OJ.guardU ?_ | refine OJ.guardS (fun _ => ?_) (fun _ => ?_) | fail) | ((with_reducible apply iOstore); first | (refine OJ.as AS.store ?_; rintro _ _ rfl) | (refine OJ.as AS.storeA ?_; rintro _ _ rfl) | (refine OJ.as AS.storeAV ?_; rintro _ _ rfl) | (refine OJ.as AS.storeE ?_; rintro _ _ rfl) | (refine OJ.as AS.storeEA ?_; rintro _ _ rfl) | fail) | ((with_reducible apply iOcall); first | (refine OJ.as AS.append1 ?_; rintro _ _ rfl) | (refine OJ.as AS.append ?_; rintro _ _ rfl) | (refine OJ.as (AS.call1 (markSpanS_c _ _ _ hk hl)) ?_; rotate_right; rintro _ _ ⟨y, hy, rfl, rfl⟩) | fail) | ((with_reducible apply iObox); first | (refine OJ.as AS.box1 ?_; rintro _ _ ⟨_, rfl, rfl⟩) | (refine OJ.as AS.boxA ?_; rintro _ _ ⟨_, rfl, rfl⟩) | fail) | ((with_reducible apply iOalloc); first | (refine OJ.as AS.alloc ?_; rintro _ _ ⟨_, rfl, rfl⟩) | fail) | ((with_reducible apply iObuildSlice); first | (refine OJ.as AS.buildSlice ?_; rintro _ _ ⟨_, rfl, rfl⟩) | fail) | ((with_reducible apply iOmakeSlice); first | (refine OJ.as AS.makeSlice ?_; rintro _ _ rfl) | fail) | ((with_reducible apply iOmakeMap); first | (refine OJ.as AS.makeMap ?_; rintro _ _ ⟨_, rfl, rfl⟩) | fail) | ((with_reducible apply iOmapEntry); first | (refine OJ.as AS.mapEntry ?_; rintro _ _ ⟨_, _, rfl, rfl⟩) | fail) | ((with_reducible apply iOentryStore); first | (refine OJ.as AS.entryStore ?_; rintro _ _ rfl) | fail) | refine OJ.unboxP fun _ => ?_ | fail) | ((with_reducible apply iJ); first | refine J.seq ?_ | refine J.region ?_ | refine J.block ?_ | refine J.skip ?_ | refine J.exit ?_ | refine J.condT ?_ | refine J.condF ?_ | refine J.cond (fun _ => ?_) (fun _ => ?_) | refine J.ret (ends () trivial rfl ?_) | fail) | ((with_reducible apply iJK); first | refine JK.code ?_ | refine JK.blk ?_ | refine JK.loop ?_ | refine JK.begin ?_ | refine JK.more ?_ | fail) | ((with_reducible apply iEnt); first | exact Ent.nil | ((with_reducible apply iERow); refine Ent.row ?_ ?_) | ((with_reducible apply iEBox); first | refine Ent.box ?_ ?_ | refine Ent.box2 ?_ ?_) | ((with_reducible apply iEBlk); refine Ent.blk ?_ ?_) | ((with_reducible apply iEPure); refine Ent.pure ?_ ?_) | ((with_reducible apply iERdR); first | refine Ent.rdR ?_ | refine Ent.any ?_ | fail) | refine Ent.any ?_ | with_reducible exact Ent.refl | fail) | ((with_reducible apply iEq); with_reducible rfl) | fail)
set_option maxRecDepth 100000 in
set_option maxHeartbeats 4000000 in
theorem heldPara_c (p : Para) (v : Value) (n : Nat) (k : Int) (hk : 0 ≤ k ∧ k ≤ 1000000000) (hl : n ≤ 1100000) : Spec Tryd.prog 11 [pv p v, .int .i64 k] [rd eSpan v (markS k n)] [] (fun _ : Unit => .int .i64 (k + 4 * n)) (fun _ => []) (fun _ => True) := by
  refine Spec.mk Tryd.func11 rfl Tryd.ntmps11 rfl ?_
  intro w0 O hR hS0
  have hr := hR _ List.mem_cons_self; clear hR hS0
  have hH := heldSpanS_c v n k (by omega) hl
  repeat' (first | ((with_reducible apply iOJ); first | ((with_reducible apply iOp); refine OJ.p ?_) | with_reducible apply OJ.nil | ((with_reducible apply iOg); first | refine OJ.guardY ?_ | refine OJ.guardN ?_ | refine OJ.guardNd ?_ | refine OJ.guardU ?_ | refine OJ.guardS (fun _ => ?_) (fun _ => ?_) | fail) | ((with_reducible apply iOstore); first | (refine OJ.as AS.store ?_; rintro _ _ rfl) | (refine OJ.as AS.storeA ?_; rintro _ _ rfl) | (refine OJ.as AS.storeAV ?_; rintro _ _ rfl) | (refine OJ.as AS.storeE ?_; rintro _ _ rfl) | (refine OJ.as AS.storeEA ?_; rintro _ _ rfl) | fail) | ((with_reducible apply iOcall); first | (refine OJ.as AS.append1 ?_; rintro _ _ rfl) | (refine OJ.as AS.append ?_; rintro _ _ rfl) | (refine OJ.as (AS.call0 (hH)) ?_; rotate_right; rintro _ _ ⟨y, hy, rfl, rfl⟩) | fail) | ((with_reducible apply iObox); first | (refine OJ.as AS.box1 ?_; rintro _ _ ⟨_, rfl, rfl⟩) | (refine OJ.as AS.boxA ?_; rintro _ _ ⟨_, rfl, rfl⟩) | fail) | ((with_reducible apply iOalloc); first | (refine OJ.as AS.alloc ?_; rintro _ _ ⟨_, rfl, rfl⟩) | fail) | ((with_reducible apply iObuildSlice); first | (refine OJ.as AS.buildSlice ?_; rintro _ _ ⟨_, rfl, rfl⟩) | fail) | ((with_reducible apply iOmakeSlice); first | (refine OJ.as AS.makeSlice ?_; rintro _ _ rfl) | fail) | ((with_reducible apply iOmakeMap); first | (refine OJ.as AS.makeMap ?_; rintro _ _ ⟨_, rfl, rfl⟩) | fail) | ((with_reducible apply iOmapEntry); first | (refine OJ.as AS.mapEntry ?_; rintro _ _ ⟨_, _, rfl, rfl⟩) | fail) | ((with_reducible apply iOentryStore); first | (refine OJ.as AS.entryStore ?_; rintro _ _ rfl) | fail) | refine OJ.unboxP fun _ => ?_ | fail) | ((with_reducible apply iJ); first | refine J.seq ?_ | refine J.region ?_ | refine J.block ?_ | refine J.skip ?_ | refine J.exit ?_ | refine J.condT ?_ | refine J.condF ?_ | refine J.cond (fun _ => ?_) (fun _ => ?_) | refine J.ret (ends () trivial rfl Ent.nil) | fail) | ((with_reducible apply iJK); first | refine JK.code ?_ | refine JK.blk ?_ | refine JK.loop ?_ | refine JK.begin ?_ | refine JK.more ?_ | fail) | ((with_reducible apply iEnt); first | exact Ent.nil | ((with_reducible apply iERow); refine Ent.row ?_ ?_) | ((with_reducible apply iEBox); first | refine Ent.box ?_ ?_ | refine Ent.box2 ?_ ?_) | ((with_reducible apply iEBlk); refine Ent.blk ?_ ?_) | ((with_reducible apply iEPure); refine Ent.pure ?_ ?_) | ((with_reducible apply iERdR); first | refine Ent.rdR ?_ | refine Ent.any ?_ | fail) | refine Ent.any ?_ | with_reducible exact Ent.refl | fail) | ((with_reducible apply iEq); with_reducible rfl) | fail)
  all_goals first | (exfalso; omega) | skip
end Go.SL

/- FnExactParaCut: the walk. -/
set_option linter.unusedVariables false
set_option linter.unusedSimpArgs false
namespace Go.SL
open Go.RowKit Go.Proofs
theorem szP_big {p : Para} (ht : p.text.length ≤ 9223372036854775807) (hs : p.spans.length ≤ 9223372036854775807) (h : ¬ (p.text.length + p.spans.length ≤ 1048576)) : szP p 1048576 = -1 := by
  unfold szP
  rw [w64_in (by omega)]
  by_cases h1 : (1048576 : Int) - p.text.length < 0
  · rw [decide_eq_true h1]
  · have e : szS p.spans (1048576 - p.text.length) = -1 := by
      unfold szS
      rw [w64_in (by omega), decide_eq_true (by omega)]
    rw [decide_eq_false h1, e]
    rfl
theorem szP_ok {p : Para} (h : p.text.length + p.spans.length ≤ 1048576) : szP p 1048576 = 1048576 - p.text.length - p.spans.length := by
  unfold szP
  rw [w64_in (by omega), decide_eq_false (by omega)]
  have e : szS p.spans (1048576 - p.text.length) = 1048576 - p.text.length - p.spans.length := by
    unfold szS
    rw [w64_in (by omega), decide_eq_false (by omega)]
  rw [e, decide_eq_false (by omega)]
theorem sCut_len (p : Para) (f t : Int) : ((sCut p f t).getD zPara).spans.length ≤ 80 := by
  unfold sCut
  cases iGet p.text with
  | none => simp [zPara]
  | some xs =>
    dsimp only
    split
    · have := sSpansMove_len p.spans xs.length f (f - t)
      simp only [Option.getD_some, sMake]
      omega
    · simp [zPara]
set_option maxRecDepth 100000 in
set_option maxHeartbeats 8000000 in
theorem FnExactParaCut_c (p : Para) (v : Value) (f t : Int) (ht : p.text.length ≤ 9223372036854775807) (hsp : p.spans.length ≤ 9223372036854775807) : Spec Tryd.prog 3 [pv p v, .int .i64 f, .int .i64 t] [rd eSpan v p.spans, tabs] [] (fun _ : Unit => .bool true) (fun _ => []) (fun _ => True) := by
  refine Spec.mk Tryd.func3 rfl Tryd.ntmps3 rfl ?_
  intro w0 O hR hS0
  have hr := hR _ List.mem_cons_self
  have hr2 := hR _ (List.mem_cons_of_mem _ List.mem_cons_self); clear hR hS0
  have hsz := szPara_c p v 1048576
  by_cases hl : p.text.length + p.spans.length ≤ 1048576
  · rw [szP_ok hl] at hsz
    have hT := toPara_c p v (by omega)
    have hS := fun v => sCut_c p v f t (by omega)
    have hI := fun v => iCut_c p v f t (by omega) (by omega)
    have hSl := sCut_len p f t
    obtain ⟨S, hSe⟩ : ∃ S, sCut p f t = S := ⟨_, rfl⟩
    rw [hSe] at hSl
    simp only [hSe] at hI hS
    clear hSe
    have hE1 := fun v u => eqPara_same (S.getD zPara) v u
    have hE2 := fun v u => eqPara_same p v u
    have hM1 := fun v => markPara_c p v p.spans 1 (by omega) (by omega)
    have hM2 := fun v => markPara_c (S.getD zPara) v (S.getD zPara).spans 1 (by omega) (by omega)
    have hH := fun v => heldPara_c (S.getD zPara) v (S.getD zPara).spans.length 1 (by omega) (by omega)
    repeat' (first | ((with_reducible apply iOJ); first | ((with_reducible apply iOp); refine OJ.p ?_) | with_reducible apply OJ.nil | ((with_reducible apply iOg); first | refine OJ.guardY ?_ | refine OJ.guardN ?_ | refine OJ.guardNd ?_ | refine OJ.guardU ?_ | refine OJ.guardS (fun _ => ?_) (fun _ => ?_) | fail) | ((with_reducible apply iOstore); first | (refine OJ.as AS.store ?_; rintro _ _ rfl) | (refine OJ.as AS.storeA ?_; rintro _ _ rfl) | (refine OJ.as AS.storeAV ?_; rintro _ _ rfl) | (refine OJ.as AS.storeE ?_; rintro _ _ rfl) | (refine OJ.as AS.storeEA ?_; rintro _ _ rfl) | fail) | ((with_reducible apply iOcall); first | (refine OJ.as AS.append1 ?_; rintro _ _ rfl) | (refine OJ.as AS.append ?_; rintro _ _ rfl) | (refine OJ.as (AS.call0 (hsz)) ?_; rotate_right; rintro _ _ ⟨y, hy, rfl, rfl⟩) | (refine OJ.as (AS.call1 (hT)) ?_; rotate_right; rintro _ _ ⟨y, hy, rfl, rfl⟩) | (refine OJ.as (AS.call1 (hS _)) ?_; rotate_right; rintro _ _ ⟨y, hy, rfl, rfl⟩) | (refine OJ.as (AS.call1 (hI _)) ?_; rotate_right; rintro _ _ ⟨y, hy, rfl, rfl⟩) | (refine OJ.as (AS.call0 (hE1 _ _)) ?_; rotate_right; rintro _ _ ⟨y, hy, rfl, rfl⟩) | (refine OJ.as (AS.call0 (hE2 _ _)) ?_; rotate_right; rintro _ _ ⟨y, hy, rfl, rfl⟩) | (refine OJ.as (AS.call1 (hM1 _)) ?_; rotate_right; rintro _ _ ⟨y, hy, rfl, rfl⟩) | (refine OJ.as (AS.call1 (hM2 _)) ?_; rotate_right; rintro _ _ ⟨y, hy, rfl, rfl⟩) | (refine OJ.as (AS.call0 (hH _)) ?_; rotate_right; rintro _ _ ⟨y, hy, rfl, rfl⟩) | fail) | ((with_reducible apply iObox); first | (refine OJ.as AS.box1 ?_; rintro _ _ ⟨_, rfl, rfl⟩) | (refine OJ.as AS.boxA ?_; rintro _ _ ⟨_, rfl, rfl⟩) | fail) | ((with_reducible apply iOalloc); first | (refine OJ.as AS.alloc ?_; rintro _ _ ⟨_, rfl, rfl⟩) | fail) | ((with_reducible apply iObuildSlice); first | (refine OJ.as AS.buildSlice ?_; rintro _ _ ⟨_, rfl, rfl⟩) | fail) | ((with_reducible apply iOmakeSlice); first | (refine OJ.as AS.makeSlice ?_; rintro _ _ rfl) | fail) | ((with_reducible apply iOmakeMap); first | (refine OJ.as AS.makeMap ?_; rintro _ _ ⟨_, rfl, rfl⟩) | fail) | ((with_reducible apply iOmapEntry); first | (refine OJ.as AS.mapEntry ?_; rintro _ _ ⟨_, _, rfl, rfl⟩) | fail) | ((with_reducible apply iOentryStore); first | (refine OJ.as AS.entryStore ?_; rintro _ _ rfl) | fail) | refine OJ.unboxP fun _ => ?_ | fail) | ((with_reducible apply iJ); first | refine J.seq ?_ | refine J.region ?_ | refine J.block ?_ | refine J.skip ?_ | refine J.exit ?_ | refine J.condT ?_ | refine J.condF ?_ | refine J.cond (fun _ => ?_) (fun _ => ?_) | refine J.draw ?_ | refine J.retB ?_ | fail) | ((with_reducible apply iJK); first | refine JK.code ?_ | refine JK.blk ?_ | refine JK.loop ?_ | refine JK.begin ?_ | refine JK.more ?_ | fail) | ((with_reducible apply iAJ); first | refine AJ.rebase ?_ | refine AJ.regain ?_ | refine AJ.take ?_ | refine AJ.takeY ?_ | refine AJ.takeN ?_ | refine AJ.takeNd ?_ | refine AJ.takeNS ?_ | refine AJ.takeU ?_ | refine AJ.sel ?_ | refine AJ.selY ?_ | refine AJ.sel2 ?_ ?_ | refine AJ.split (fun _ => ?_) (fun _ => ?_) | refine AJ.done ?_ | fail) | ((with_reducible apply iAO); first | ((with_reducible apply iAstore); first | (refine AO.as AS.store ?_; rotate_right; rintro _ _ rfl; refine AO.step ?_) | (refine AO.as AS.storeA ?_; rotate_right; rintro _ _ rfl; refine AO.step ?_) | (refine AO.as AS.storeAV ?_; rotate_right; rintro _ _ rfl; refine AO.step ?_) | (refine AO.as AS.storeE ?_; rotate_right; rintro _ _ rfl; refine AO.step ?_) | (refine AO.as AS.storeEA ?_; rotate_right; rintro _ _ rfl; refine AO.step ?_) | fail) | ((with_reducible apply iAcall); first | (refine AO.as AS.append1 ?_; rotate_right; rintro _ _ rfl; refine AO.step ?_) | (refine AO.as AS.append ?_; rotate_right; rintro _ _ rfl; refine AO.step ?_) | (refine AO.as (AS.call1 (hT)) ?_; rotate_right; rintro _ _ ⟨y, hy, rfl, rfl⟩; refine AO.step ?_) | (refine AO.as (AS.call0 (hE2 _ _)) ?_; rotate_right; rintro _ _ ⟨y, hy, rfl, rfl⟩; refine AO.step ?_) | fail) | ((with_reducible apply iAbox); first | (refine AO.as AS.box1 ?_; rotate_right; rintro _ _ ⟨_, rfl, rfl⟩; refine AO.step ?_) | (refine AO.as AS.boxA ?_; rotate_right; rintro _ _ ⟨_, rfl, rfl⟩; refine AO.step ?_) | fail) | ((with_reducible apply iAalloc); first | (refine AO.as AS.alloc ?_; rotate_right; rintro _ _ ⟨_, rfl, rfl⟩; refine AO.step ?_) | fail) | ((with_reducible apply iAbuildSlice); first | (refine AO.as AS.buildSlice ?_; rotate_right; rintro _ _ ⟨_, rfl, rfl⟩; refine AO.step ?_) | fail) | ((with_reducible apply iAmakeSlice); first | (refine AO.as AS.makeSlice ?_; rotate_right; rintro _ _ rfl; refine AO.step ?_) | fail) | ((with_reducible apply iAmakeMap); first | (refine AO.as AS.makeMap ?_; rotate_right; rintro _ _ ⟨_, rfl, rfl⟩; refine AO.step ?_) | fail) | ((with_reducible apply iAmapEntry); first | (refine AO.as AS.mapEntry ?_; rotate_right; rintro _ _ ⟨_, _, rfl, rfl⟩; refine AO.step ?_) | fail) | ((with_reducible apply iAentryStore); first | (refine AO.as AS.entryStore ?_; rotate_right; rintro _ _ rfl; refine AO.step ?_) | fail) | fail) | ((with_reducible apply iEnt); first | exact Ent.nil | ((with_reducible apply iERow); refine Ent.row ?_ ?_) | ((with_reducible apply iEBox); first | refine Ent.box ?_ ?_ | refine Ent.box2 ?_ ?_) | ((with_reducible apply iEBlk); refine Ent.blk ?_ ?_) | ((with_reducible apply iEPure); refine Ent.pure ?_ ?_) | ((with_reducible apply iERdR); first | refine Ent.rdR ?_ | refine Ent.any ?_ | fail) | refine Ent.any ?_ | with_reducible exact Ent.refl | fail) | ((with_reducible apply iEq); with_reducible rfl) | fail)
    all_goals first | rfl | (exfalso; omega) | skip
  · rw [szP_big ht hsp hl] at hsz
    repeat' (first | ((with_reducible apply iOJ); first | ((with_reducible apply iOp); refine OJ.p ?_) | with_reducible apply OJ.nil | ((with_reducible apply iOg); first | refine OJ.guardY ?_ | refine OJ.guardN ?_ | refine OJ.guardNd ?_ | refine OJ.guardU ?_ | refine OJ.guardS (fun _ => ?_) (fun _ => ?_) | fail) | ((with_reducible apply iOstore); first | (refine OJ.as AS.store ?_; rintro _ _ rfl) | (refine OJ.as AS.storeA ?_; rintro _ _ rfl) | (refine OJ.as AS.storeAV ?_; rintro _ _ rfl) | (refine OJ.as AS.storeE ?_; rintro _ _ rfl) | (refine OJ.as AS.storeEA ?_; rintro _ _ rfl) | fail) | ((with_reducible apply iOcall); first | (refine OJ.as AS.append1 ?_; rintro _ _ rfl) | (refine OJ.as AS.append ?_; rintro _ _ rfl) | (refine OJ.as (AS.call0 (hsz)) ?_; rotate_right; rintro _ _ ⟨y, hy, rfl, rfl⟩) | fail) | ((with_reducible apply iObox); first | (refine OJ.as AS.box1 ?_; rintro _ _ ⟨_, rfl, rfl⟩) | (refine OJ.as AS.boxA ?_; rintro _ _ ⟨_, rfl, rfl⟩) | fail) | ((with_reducible apply iOalloc); first | (refine OJ.as AS.alloc ?_; rintro _ _ ⟨_, rfl, rfl⟩) | fail) | ((with_reducible apply iObuildSlice); first | (refine OJ.as AS.buildSlice ?_; rintro _ _ ⟨_, rfl, rfl⟩) | fail) | ((with_reducible apply iOmakeSlice); first | (refine OJ.as AS.makeSlice ?_; rintro _ _ rfl) | fail) | ((with_reducible apply iOmakeMap); first | (refine OJ.as AS.makeMap ?_; rintro _ _ ⟨_, rfl, rfl⟩) | fail) | ((with_reducible apply iOmapEntry); first | (refine OJ.as AS.mapEntry ?_; rintro _ _ ⟨_, _, rfl, rfl⟩) | fail) | ((with_reducible apply iOentryStore); first | (refine OJ.as AS.entryStore ?_; rintro _ _ rfl) | fail) | refine OJ.unboxP fun _ => ?_ | fail) | ((with_reducible apply iJ); first | refine J.seq ?_ | refine J.region ?_ | refine J.block ?_ | refine J.skip ?_ | refine J.exit ?_ | refine J.condT ?_ | refine J.condF ?_ | refine J.cond (fun _ => ?_) (fun _ => ?_) | refine J.retB ?_ | fail) | ((with_reducible apply iJK); first | refine JK.code ?_ | refine JK.blk ?_ | refine JK.loop ?_ | refine JK.begin ?_ | refine JK.more ?_ | fail) | ((with_reducible apply iEnt); first | exact Ent.nil | ((with_reducible apply iERow); refine Ent.row ?_ ?_) | ((with_reducible apply iEBox); first | refine Ent.box ?_ ?_ | refine Ent.box2 ?_ ?_) | ((with_reducible apply iEBlk); refine Ent.blk ?_ ?_) | ((with_reducible apply iEPure); refine Ent.pure ?_ ?_) | ((with_reducible apply iERdR); first | refine Ent.rdR ?_ | refine Ent.any ?_ | fail) | refine Ent.any ?_ | with_reducible exact Ent.refl | fail) | ((with_reducible apply iEq); with_reducible rfl) | fail)
    all_goals first | rfl | (exfalso; omega)
end Go.SL

/- FnExactParaPut: the walk. -/
set_option linter.unusedVariables false
set_option linter.unusedSimpArgs false
namespace Go.SL
open Go.RowKit Go.Proofs
theorem sPutP_len (p : Para) (i : Int) (l : List UInt8) : ((sPutP p i l).getD zPara).spans.length ≤ 80 := by
  unfold sPutP
  split
  · rename_i xs zs _ _
    split
    · have := sSpansMove_len p.spans xs.length i zs.length
      simp only [Option.getD_some, sMake]
      omega
    · simp [zPara]
  · simp [zPara]
set_option maxRecDepth 100000 in
set_option maxHeartbeats 8000000 in
theorem FnExactParaPut_c (p : Para) (v : Value) (i : Int) (l : List UInt8) (ht : p.text.length ≤ 9223372036854775807) (hsp : p.spans.length ≤ 9223372036854775807) : Spec Tryd.prog 4 [pv p v, .int .i64 i, sv l] [rd eSpan v p.spans, tabs] [] (fun _ : Unit => .bool true) (fun _ => []) (fun _ => True) := by
  refine Spec.mk Tryd.func4 rfl Tryd.ntmps4 rfl ?_
  intro w0 O hR hS0
  have hr := hR _ List.mem_cons_self
  have hr2 := hR _ (List.mem_cons_of_mem _ List.mem_cons_self); clear hR hS0
  have hsz := szPara_c p v 1048576
  by_cases hl0 : l.length ≤ 1048576
  · by_cases hl : p.text.length + p.spans.length ≤ 1048576
    · rw [szP_ok hl] at hsz
      have hT := toPara_c p v (by omega)
      have hS := fun v => sPutP_c p v i l (by omega) (by omega)
      have hI := fun v => iPutP_c p v i l (by omega) (by omega) (by omega)
      have hSl := sPutP_len p i l
      obtain ⟨S, hSe⟩ : ∃ S, sPutP p i l = S := ⟨_, rfl⟩
      rw [hSe] at hSl
      simp only [hSe] at hI hS
      clear hSe
      have hE1 := fun v u => eqPara_same (S.getD zPara) v u
      have hE2 := fun v u => eqPara_same p v u
      have hM1 := fun v => markPara_c p v p.spans 1 (by omega) (by omega)
      have hM2 := fun v => markPara_c (S.getD zPara) v (S.getD zPara).spans 1 (by omega) (by omega)
      have hH := fun v => heldPara_c (S.getD zPara) v (S.getD zPara).spans.length 1 (by omega) (by omega)
      repeat' (first | ((with_reducible apply iOJ); first | ((with_reducible apply iOp); refine OJ.p ?_) | with_reducible apply OJ.nil | ((with_reducible apply iOg); first | refine OJ.guardY ?_ | refine OJ.guardN ?_ | refine OJ.guardNd ?_ | refine OJ.guardU ?_ | refine OJ.guardS (fun _ => ?_) (fun _ => ?_) | fail) | ((with_reducible apply iOstore); first | (refine OJ.as AS.store ?_; rintro _ _ rfl) | (refine OJ.as AS.storeA ?_; rintro _ _ rfl) | (refine OJ.as AS.storeAV ?_; rintro _ _ rfl) | (refine OJ.as AS.storeE ?_; rintro _ _ rfl) | (refine OJ.as AS.storeEA ?_; rintro _ _ rfl) | fail) | ((with_reducible apply iOcall); first | (refine OJ.as AS.append1 ?_; rintro _ _ rfl) | (refine OJ.as AS.append ?_; rintro _ _ rfl) | (refine OJ.as (AS.call0 (hsz)) ?_; rotate_right; rintro _ _ ⟨y, hy, rfl, rfl⟩) | (refine OJ.as (AS.call1 (hT)) ?_; rotate_right; rintro _ _ ⟨y, hy, rfl, rfl⟩) | (refine OJ.as (AS.call1 (hS _)) ?_; rotate_right; rintro _ _ ⟨y, hy, rfl, rfl⟩) | (refine OJ.as (AS.call1 (hI _)) ?_; rotate_right; rintro _ _ ⟨y, hy, rfl, rfl⟩) | (refine OJ.as (AS.call0 (hE1 _ _)) ?_; rotate_right; rintro _ _ ⟨y, hy, rfl, rfl⟩) | (refine OJ.as (AS.call0 (hE2 _ _)) ?_; rotate_right; rintro _ _ ⟨y, hy, rfl, rfl⟩) | (refine OJ.as (AS.call1 (hM1 _)) ?_; rotate_right; rintro _ _ ⟨y, hy, rfl, rfl⟩) | (refine OJ.as (AS.call1 (hM2 _)) ?_; rotate_right; rintro _ _ ⟨y, hy, rfl, rfl⟩) | (refine OJ.as (AS.call0 (hH _)) ?_; rotate_right; rintro _ _ ⟨y, hy, rfl, rfl⟩) | fail) | ((with_reducible apply iObox); first | (refine OJ.as AS.box1 ?_; rintro _ _ ⟨_, rfl, rfl⟩) | (refine OJ.as AS.boxA ?_; rintro _ _ ⟨_, rfl, rfl⟩) | fail) | ((with_reducible apply iOalloc); first | (refine OJ.as AS.alloc ?_; rintro _ _ ⟨_, rfl, rfl⟩) | fail) | ((with_reducible apply iObuildSlice); first | (refine OJ.as AS.buildSlice ?_; rintro _ _ ⟨_, rfl, rfl⟩) | fail) | ((with_reducible apply iOmakeSlice); first | (refine OJ.as AS.makeSlice ?_; rintro _ _ rfl) | fail) | ((with_reducible apply iOmakeMap); first | (refine OJ.as AS.makeMap ?_; rintro _ _ ⟨_, rfl, rfl⟩) | fail) | ((with_reducible apply iOmapEntry); first | (refine OJ.as AS.mapEntry ?_; rintro _ _ ⟨_, _, rfl, rfl⟩) | fail) | ((with_reducible apply iOentryStore); first | (refine OJ.as AS.entryStore ?_; rintro _ _ rfl) | fail) | refine OJ.unboxP fun _ => ?_ | fail) | ((with_reducible apply iJ); first | refine J.seq ?_ | refine J.region ?_ | refine J.block ?_ | refine J.skip ?_ | refine J.exit ?_ | refine J.condT ?_ | refine J.condF ?_ | refine J.cond (fun _ => ?_) (fun _ => ?_) | refine J.draw ?_ | refine J.retB ?_ | fail) | ((with_reducible apply iJK); first | refine JK.code ?_ | refine JK.blk ?_ | refine JK.loop ?_ | refine JK.begin ?_ | refine JK.more ?_ | fail) | ((with_reducible apply iAJ); first | refine AJ.rebase ?_ | refine AJ.regain ?_ | refine AJ.take ?_ | refine AJ.takeY ?_ | refine AJ.takeN ?_ | refine AJ.takeNd ?_ | refine AJ.takeNS ?_ | refine AJ.takeU ?_ | refine AJ.sel ?_ | refine AJ.selY ?_ | refine AJ.sel2 ?_ ?_ | refine AJ.split (fun _ => ?_) (fun _ => ?_) | refine AJ.done ?_ | fail) | ((with_reducible apply iAO); first | ((with_reducible apply iAstore); first | (refine AO.as AS.store ?_; rotate_right; rintro _ _ rfl; refine AO.step ?_) | (refine AO.as AS.storeA ?_; rotate_right; rintro _ _ rfl; refine AO.step ?_) | (refine AO.as AS.storeAV ?_; rotate_right; rintro _ _ rfl; refine AO.step ?_) | (refine AO.as AS.storeE ?_; rotate_right; rintro _ _ rfl; refine AO.step ?_) | (refine AO.as AS.storeEA ?_; rotate_right; rintro _ _ rfl; refine AO.step ?_) | fail) | ((with_reducible apply iAcall); first | (refine AO.as AS.append1 ?_; rotate_right; rintro _ _ rfl; refine AO.step ?_) | (refine AO.as AS.append ?_; rotate_right; rintro _ _ rfl; refine AO.step ?_) | (refine AO.as (AS.call1 (hT)) ?_; rotate_right; rintro _ _ ⟨y, hy, rfl, rfl⟩; refine AO.step ?_) | (refine AO.as (AS.call0 (hE2 _ _)) ?_; rotate_right; rintro _ _ ⟨y, hy, rfl, rfl⟩; refine AO.step ?_) | fail) | ((with_reducible apply iAbox); first | (refine AO.as AS.box1 ?_; rotate_right; rintro _ _ ⟨_, rfl, rfl⟩; refine AO.step ?_) | (refine AO.as AS.boxA ?_; rotate_right; rintro _ _ ⟨_, rfl, rfl⟩; refine AO.step ?_) | fail) | ((with_reducible apply iAalloc); first | (refine AO.as AS.alloc ?_; rotate_right; rintro _ _ ⟨_, rfl, rfl⟩; refine AO.step ?_) | fail) | ((with_reducible apply iAbuildSlice); first | (refine AO.as AS.buildSlice ?_; rotate_right; rintro _ _ ⟨_, rfl, rfl⟩; refine AO.step ?_) | fail) | ((with_reducible apply iAmakeSlice); first | (refine AO.as AS.makeSlice ?_; rotate_right; rintro _ _ rfl; refine AO.step ?_) | fail) | ((with_reducible apply iAmakeMap); first | (refine AO.as AS.makeMap ?_; rotate_right; rintro _ _ ⟨_, rfl, rfl⟩; refine AO.step ?_) | fail) | ((with_reducible apply iAmapEntry); first | (refine AO.as AS.mapEntry ?_; rotate_right; rintro _ _ ⟨_, _, rfl, rfl⟩; refine AO.step ?_) | fail) | ((with_reducible apply iAentryStore); first | (refine AO.as AS.entryStore ?_; rotate_right; rintro _ _ rfl; refine AO.step ?_) | fail) | fail) | ((with_reducible apply iEnt); first | exact Ent.nil | ((with_reducible apply iERow); refine Ent.row ?_ ?_) | ((with_reducible apply iEBox); first | refine Ent.box ?_ ?_ | refine Ent.box2 ?_ ?_) | ((with_reducible apply iEBlk); refine Ent.blk ?_ ?_) | ((with_reducible apply iEPure); refine Ent.pure ?_ ?_) | ((with_reducible apply iERdR); first | refine Ent.rdR ?_ | refine Ent.any ?_ | fail) | refine Ent.any ?_ | with_reducible exact Ent.refl | fail) | ((with_reducible apply iEq); with_reducible rfl) | fail)
      all_goals first | rfl | (exfalso; omega) | skip
    · rw [szP_big ht hsp hl] at hsz
      repeat' (first | ((with_reducible apply iOJ); first | ((with_reducible apply iOp); refine OJ.p ?_) | with_reducible apply OJ.nil | ((with_reducible apply iOg); first | refine OJ.guardY ?_ | refine OJ.guardN ?_ | refine OJ.guardNd ?_ | refine OJ.guardU ?_ | refine OJ.guardS (fun _ => ?_) (fun _ => ?_) | fail) | ((with_reducible apply iOstore); first | (refine OJ.as AS.store ?_; rintro _ _ rfl) | (refine OJ.as AS.storeA ?_; rintro _ _ rfl) | (refine OJ.as AS.storeAV ?_; rintro _ _ rfl) | (refine OJ.as AS.storeE ?_; rintro _ _ rfl) | (refine OJ.as AS.storeEA ?_; rintro _ _ rfl) | fail) | ((with_reducible apply iOcall); first | (refine OJ.as AS.append1 ?_; rintro _ _ rfl) | (refine OJ.as AS.append ?_; rintro _ _ rfl) | (refine OJ.as (AS.call0 (hsz)) ?_; rotate_right; rintro _ _ ⟨y, hy, rfl, rfl⟩) | fail) | ((with_reducible apply iObox); first | (refine OJ.as AS.box1 ?_; rintro _ _ ⟨_, rfl, rfl⟩) | (refine OJ.as AS.boxA ?_; rintro _ _ ⟨_, rfl, rfl⟩) | fail) | ((with_reducible apply iOalloc); first | (refine OJ.as AS.alloc ?_; rintro _ _ ⟨_, rfl, rfl⟩) | fail) | ((with_reducible apply iObuildSlice); first | (refine OJ.as AS.buildSlice ?_; rintro _ _ ⟨_, rfl, rfl⟩) | fail) | ((with_reducible apply iOmakeSlice); first | (refine OJ.as AS.makeSlice ?_; rintro _ _ rfl) | fail) | ((with_reducible apply iOmakeMap); first | (refine OJ.as AS.makeMap ?_; rintro _ _ ⟨_, rfl, rfl⟩) | fail) | ((with_reducible apply iOmapEntry); first | (refine OJ.as AS.mapEntry ?_; rintro _ _ ⟨_, _, rfl, rfl⟩) | fail) | ((with_reducible apply iOentryStore); first | (refine OJ.as AS.entryStore ?_; rintro _ _ rfl) | fail) | refine OJ.unboxP fun _ => ?_ | fail) | ((with_reducible apply iJ); first | refine J.seq ?_ | refine J.region ?_ | refine J.block ?_ | refine J.skip ?_ | refine J.exit ?_ | refine J.condT ?_ | refine J.condF ?_ | refine J.cond (fun _ => ?_) (fun _ => ?_) | refine J.retB ?_ | fail) | ((with_reducible apply iJK); first | refine JK.code ?_ | refine JK.blk ?_ | refine JK.loop ?_ | refine JK.begin ?_ | refine JK.more ?_ | fail) | ((with_reducible apply iEnt); first | exact Ent.nil | ((with_reducible apply iERow); refine Ent.row ?_ ?_) | ((with_reducible apply iEBox); first | refine Ent.box ?_ ?_ | refine Ent.box2 ?_ ?_) | ((with_reducible apply iEBlk); refine Ent.blk ?_ ?_) | ((with_reducible apply iEPure); refine Ent.pure ?_ ?_) | ((with_reducible apply iERdR); first | refine Ent.rdR ?_ | refine Ent.any ?_ | fail) | refine Ent.any ?_ | with_reducible exact Ent.refl | fail) | ((with_reducible apply iEq); with_reducible rfl) | fail)
      all_goals first | rfl | (exfalso; omega)
  · repeat' (first | ((with_reducible apply iOJ); first | ((with_reducible apply iOp); refine OJ.p ?_) | with_reducible apply OJ.nil | ((with_reducible apply iOg); first | refine OJ.guardY ?_ | refine OJ.guardN ?_ | refine OJ.guardNd ?_ | refine OJ.guardU ?_ | refine OJ.guardS (fun _ => ?_) (fun _ => ?_) | fail) | ((with_reducible apply iOstore); first | (refine OJ.as AS.store ?_; rintro _ _ rfl) | (refine OJ.as AS.storeA ?_; rintro _ _ rfl) | (refine OJ.as AS.storeAV ?_; rintro _ _ rfl) | (refine OJ.as AS.storeE ?_; rintro _ _ rfl) | (refine OJ.as AS.storeEA ?_; rintro _ _ rfl) | fail) | ((with_reducible apply iOcall); first | (refine OJ.as AS.append1 ?_; rintro _ _ rfl) | (refine OJ.as AS.append ?_; rintro _ _ rfl) | fail) | ((with_reducible apply iObox); first | (refine OJ.as AS.box1 ?_; rintro _ _ ⟨_, rfl, rfl⟩) | (refine OJ.as AS.boxA ?_; rintro _ _ ⟨_, rfl, rfl⟩) | fail) | ((with_reducible apply iOalloc); first | (refine OJ.as AS.alloc ?_; rintro _ _ ⟨_, rfl, rfl⟩) | fail) | ((with_reducible apply iObuildSlice); first | (refine OJ.as AS.buildSlice ?_; rintro _ _ ⟨_, rfl, rfl⟩) | fail) | ((with_reducible apply iOmakeSlice); first | (refine OJ.as AS.makeSlice ?_; rintro _ _ rfl) | fail) | ((with_reducible apply iOmakeMap); first | (refine OJ.as AS.makeMap ?_; rintro _ _ ⟨_, rfl, rfl⟩) | fail) | ((with_reducible apply iOmapEntry); first | (refine OJ.as AS.mapEntry ?_; rintro _ _ ⟨_, _, rfl, rfl⟩) | fail) | ((with_reducible apply iOentryStore); first | (refine OJ.as AS.entryStore ?_; rintro _ _ rfl) | fail) | refine OJ.unboxP fun _ => ?_ | fail) | ((with_reducible apply iJ); first | refine J.seq ?_ | refine J.region ?_ | refine J.block ?_ | refine J.skip ?_ | refine J.exit ?_ | refine J.condT ?_ | refine J.condF ?_ | refine J.cond (fun _ => ?_) (fun _ => ?_) | refine J.retB ?_ | fail) | ((with_reducible apply iJK); first | refine JK.code ?_ | refine JK.blk ?_ | refine JK.loop ?_ | refine JK.begin ?_ | refine JK.more ?_ | fail) | ((with_reducible apply iEnt); first | exact Ent.nil | ((with_reducible apply iERow); refine Ent.row ?_ ?_) | ((with_reducible apply iEBox); first | refine Ent.box ?_ ?_ | refine Ent.box2 ?_ ?_) | ((with_reducible apply iEBlk); refine Ent.blk ?_ ?_) | ((with_reducible apply iEPure); refine Ent.pure ?_ ?_) | ((with_reducible apply iERdR); first | refine Ent.rdR ?_ | refine Ent.any ?_ | fail) | refine Ent.any ?_ | with_reducible exact Ent.refl | fail) | ((with_reducible apply iEq); with_reducible rfl) | fail)
    all_goals first | rfl | (exfalso; omega)
end Go.SL

/- From data that are read to what the rules call readable; from a contract to what a row asks. -/
set_option linter.unusedVariables false
set_option linter.unusedSimpArgs false
namespace Go.SL
open Go.RowKit Go.ChangeShapes Go.WideShapes Go.Deep
theorem SAT.below {L : List HP} {w w' : World} (h : SAT w (fun _ => False) L w') : Below w.heap.size w w' := ⟨h.1.os, h.1.tape, h.1.output, h.1.size, fun k hk => h.1.block k hk (fun h => h)⟩
theorem cell_lt {w : World} {a : Addr} {u : Value} (h : w.cell? a = some u) : a.block < w.heap.size := by
  unfold World.cell? at h
  cases ho : w.heap[a.block]? with
  | none => simp [ho] at h
  | some o => exact (Array.getElem?_eq_some_iff.1 ho).1
theorem rd_below {α : Type} {q : Enc α} {v : Value} {l : List α} {w w' : World} (h : rd q v l w) (hb : Below w.heap.size w w') : rd q v l w' := by
  obtain ⟨A, c, h1, h2, h3, h4⟩ := h
  refine ⟨A, c, h1, h2, h3, fun hp => ?_⟩
  obtain ⟨ad, ha, hc⟩ := h4 hp
  refine ⟨ad, ha, fun j u hu => ?_⟩
  have := hc j u hu
  rw [hb.cell (cell_lt this)]
  exact this
/-- What stays, whatever a call makes beside. -/
def Stays (R : World → Prop) : Prop := ∀ w w', R w → Below w.heap.size w w' → R w'
theorem rd_stays {α : Type} {q : Enc α} {v : Value} {l : List α} : Stays (rd q v l) := fun _ _ h hb => rd_below h hb
theorem law_of_spec {P : Program} {f : FuncId} {args : List Value} {Rs : List (World → Prop)} (hs : Spec P f args Rs [] (fun _ : Unit => .bool true) (fun _ => []) (fun _ => True)) (w : World) (hR : ∀ R ∈ Rs, R w ∧ Stays R) :
    Calls P f args.toArray w fun e w' => e = .returned (.bool true) ∧ Below w.heap.size w w' := by
  refine (hs w (fun _ => False) (fun R hR' => ⟨fun w' hw' => (hR R hR').2 w w' (hR R hR').1 hw'.below⟩) ⟨KeptW.refl _ _, fun _ => none, (fun _ _ h => (by cases h)), (fun _ _ h => (by cases h)), fun _ => rfl⟩).mono ?_
  rintro e w' ⟨_, _, rfl, hS⟩
  exact ⟨rfl, hS.below⟩
/-- Elements of a kind are read as q has them. -/
def Reads (P : Program) {α : Type} (q : Enc α) (e : TypeId) : Prop := P.cellsOf e = q.sz ∧
  ∀ {H : Type} {enc : TypeId × Value → H} {w : World} {base : Nat} {spare : Nat → Bool} {held : Bool} {fuel : Nat} {cs : List Value} {x : DataW H × List MemPlace}, DataW.trod enc P w base spare held fuel e cs = some x → ∃ a, q.f a = cs
theorem rd_of_trod {H : Type} {enc : TypeId × Value → H} {P : Program} {w : World} {base : Nat} {spare : Nat → Bool} {held : Bool} {α : Type} {q : Enc α} {t e : TypeId} {A : Option Addr} {n c : Nat} {d : DataW H} {p : List MemPlace}
    (hq : Reads P q e) (ht : P.underlying t = some (.slice e)) (h : DataW.Trod enc P w base spare held t (.slice A n c) d p) : ∃ l, rd q (.slice A n c) l w := by
  obtain ⟨fuel, hf⟩ := h
  rcases open_slice ht hf with ⟨h1, _⟩ | ⟨a, len, cap, m, n', D, Pl, hcs, _, hl, hm, hmm, _, hi⟩
  · simp [Value.cells] at h1
    obtain ⟨rfl, rfl, rfl⟩ := h1
    exact ⟨[], none, 0, rfl, Nat.le_refl _, by simp [maxLen], fun h => by simp at h⟩
  · simp [Value.cells] at hcs
    obtain ⟨rfl, rfl, rfl⟩ := hcs
    have hlm : n ≤ m := by rw [hmm]; split <;> omega
    have hx : ∀ i, i < n → ∃ x, w.cells? base (a.add (i * q.sz)) q.sz = some (q.f x) := fun i hin => by
      obtain ⟨cs', h1, h2⟩ := hi i (by omega)
      obtain ⟨x, hx⟩ := hq.2 h2
      rw [hq.1] at h1
      exact ⟨x, by rw [hx]; exact h1⟩
    obtain ⟨g, hg⟩ : ∃ g : Nat → α, ∀ i, i < n → w.cells? base (a.add (i * q.sz)) q.sz = some (q.f (g i)) :=
      ⟨fun i => if h : i < n then (hx i h).choose else q.d, fun i hin => by simp only [dif_pos hin]; exact (hx i hin).choose_spec⟩
    have hlen : ((List.range n).map g).length = n := by simp
    refine ⟨(List.range n).map g, some a, c, by rw [hlen], by rw [hlen]; exact hl, hm, fun _ => ⟨a, rfl, fun j u hu => ?_⟩⟩
    have hp := q.pos
    have hj : j < n * q.sz := by
      have := (List.getElem?_eq_some_iff.1 hu).1
      rwa [flat_len, hlen] at this
    have hi1 : j / q.sz < n := Nat.div_lt_of_lt_mul (by rw [Nat.mul_comm]; exact hj)
    have hr1 : j % q.sz < q.sz := Nat.mod_lt _ hp
    have e1 : j = j / q.sz * q.sz + j % q.sz := by rw [Nat.mul_comm]; exact (Nat.div_add_mod j q.sz).symm
    have h3 := flat_get (k := q) (xs := (List.range n).map g) (i := j / q.sz) (f := j % q.sz) (by rw [hlen]; exact hi1) hr1
    rw [← e1, hu] at h3
    have h4 : ((List.range n).map g).getD (j / q.sz) q.d = g (j / q.sz) := by simp [List.getD_eq_getElem?_getD, hi1]
    rw [h4] at h3
    obtain ⟨_, _, hat⟩ := World.cells?_some (hg _ hi1)
    have h5 := hat _ hr1
    rw [← h3, add_add, ← e1] at h5
    exact h5
/-- One field of a struct of ints. -/
theorem int_field {H : Type} {enc : TypeId × Value → H} {P : Program} {w : World} {base : Nat} {spare : Nat → Bool} {held : Bool} {fs : Array Field} {n : Nat} {cs : List Value} {xs : List (DataW H × List MemPlace)} {j : Nat} {f : Field} {c : Value}
    (hone : oneCellFields P fs = true) (hlen : xs.length = fs.size) (hf : ∀ (i : Nat) (f : Field), fs[i]? = some f → DataW.trod enc P w base spare held n f.type ((cs.drop f.offset).take (P.cellsOf f.type)) = xs[i]?)
    (hj : fs[j]? = some f) (hc : cs[j]? = some c) (hk : P.underlying f.type = some (.int .i64)) : ∃ a, c = .int .i64 a := by
  obtain ⟨ho, hcl⟩ := hone_of hone j f hj
  have h := hf j f hj
  have hjl : j < fs.size := (Array.getElem?_eq_some_iff.1 hj).1
  have hjc := (List.getElem?_eq_some_iff.1 hc).1
  have hcj := (List.getElem?_eq_some_iff.1 hc).2
  rw [ho, hcl, List.drop_eq_getElem_cons hjc, List.take_succ_cons, List.take_zero, hcj, List.getElem?_eq_getElem (by omega)] at h
  obtain ⟨a, ha, _⟩ := DataW.trod_int hk h
  injection ha with ha
  exact ⟨a, ha⟩
theorem byteReads {P : Program} {e : TypeId} (hs : P.underlying e = some (.int .u8)) (hC : P.cellsOf e = 1) : Reads P eByte e := by
  refine ⟨hC, ?_⟩
  intro H enc w base spare held fuel cs x h
  obtain ⟨n, rfl, _, hw⟩ := DataW.trod_int hs h
  have hb := bounds_u8 hw
  refine ⟨UInt8.ofNat n.toNat, ?_⟩
  show [Value.int .u8 ((UInt8.ofNat n.toNat).toNat : Int)] = [.int .u8 n]
  have : (UInt8.ofNat n.toNat).toNat = n.toNat := by simp; omega
  rw [this]
  congr 2
  omega
end Go.SL

/- A paragraph that comes in. -/
set_option linter.unusedVariables false
set_option linter.unusedSimpArgs false
namespace Go.SL
open Go.RowKit Go.Proofs Go.ChangeShapes Go.WideShapes
set_option maxRecDepth 100000 in
theorem spanReads (e : TypeId) {f0 f1 f2 f3 : Field} (hs : Tryd.prog.underlying e = some (.struct #[f0, f1, f2, f3])) (hone : Go.Deep.oneCellFields Tryd.prog #[f0, f1, f2, f3] = true) (hC : Tryd.prog.cellsOf e = 4)
    (k0 : Tryd.prog.underlying f0.type = some (.int .i64)) (k1 : Tryd.prog.underlying f1.type = some (.int .i64)) (k2 : Tryd.prog.underlying f2.type = some (.int .i64)) (k3 : Tryd.prog.underlying f3.type = some (.int .i64)) : Reads Tryd.prog eSpan e := by
  refine ⟨hC, ?_⟩
  intro H enc w base spare held fuel cs x h
  obtain ⟨xs, n, _, _, hl, hlen, hf⟩ := DataW.trod_struct hs h
  rw [hC] at hl
  match cs, hl with
  | [c0, c1, c2, c3], _ =>
    obtain ⟨a0, rfl⟩ := int_field hone hlen hf (j := 0) rfl rfl k0
    obtain ⟨a1, rfl⟩ := int_field hone hlen hf (j := 1) rfl rfl k1
    obtain ⟨a2, rfl⟩ := int_field hone hlen hf (j := 2) rfl rfl k2
    obtain ⟨a3, rfl⟩ := int_field hone hlen hf (j := 3) rfl rfl k3
    exact ⟨⟨a0, a1, a2, a3⟩, rfl⟩
theorem cell_field {H : Type} {enc : TypeId × Value → H} {P : Program} {w : World} {base : Nat} {spare : Nat → Bool} {held : Bool} {fs : Array Field} {n : Nat} {cs : List Value} {xs : List (DataW H × List MemPlace)} {j : Nat} {f : Field} {c : Value}
    (hone : Go.Deep.oneCellFields P fs = true) (hlen : xs.length = fs.size) (hf : ∀ (i : Nat) (f : Field), fs[i]? = some f → DataW.trod enc P w base spare held n f.type ((cs.drop f.offset).take (P.cellsOf f.type)) = xs[i]?)
    (hj : fs[j]? = some f) (hc : cs[j]? = some c) : ∃ y, DataW.trod enc P w base spare held n f.type [c] = some y := by
  obtain ⟨ho, hcl⟩ := Go.Deep.hone_of hone j f hj
  have h := hf j f hj
  have hjl : j < fs.size := (Array.getElem?_eq_some_iff.1 hj).1
  have hjc := (List.getElem?_eq_some_iff.1 hc).1
  have hcj := (List.getElem?_eq_some_iff.1 hc).2
  rw [ho, hcl, List.drop_eq_getElem_cons hjc, List.take_succ_cons, List.take_zero, hcj, List.getElem?_eq_getElem (by omega)] at h
  exact ⟨_, h⟩
set_option maxRecDepth 100000 in
theorem para_of_trod {H : Type} {enc : TypeId × Value → H} {W : World} {base : Nat} {spare : Nat → Bool} {held : Bool} {v0 : Value} {d : DataW H} {ps : List MemPlace} (t ts te : TypeId) {f0 f1 f2 f3 f4 f5 : Field} (hs : Tryd.prog.underlying t = some (.struct #[f0, f1, f2, f3, f4, f5]))
    (hone : Go.Deep.oneCellFields Tryd.prog #[f0, f1, f2, f3, f4, f5] = true) (hC : Tryd.prog.cellsOf t = 6) (k0 : Tryd.prog.underlying f0.type = some .string) (k1 : Tryd.prog.underlying f1.type = some (.int .i64)) (k2 : Tryd.prog.underlying f2.type = some (.int .i64)) (k3 : Tryd.prog.underlying f3.type = some (.int .i64))
    (k4 : Tryd.prog.underlying f4.type = some (.int .i64)) (k5 : Tryd.prog.underlying f5.type = some (.slice te)) (he : Reads Tryd.prog eSpan te) (hv : ∃ cs, v0 = .agg cs) (h : DataW.Trod enc Tryd.prog W base spare held t v0 d ps) : ∃ p v, v0 = pv p v ∧ rd eSpan v p.spans W ∧ p.text.length ≤ 9223372036854775807 := by
  obtain ⟨cs, rfl⟩ := hv
  obtain ⟨fuel, h⟩ := h
  obtain ⟨xs, n, _, _, hl, hlen, hf⟩ := DataW.trod_struct hs h
  rw [hC] at hl
  obtain ⟨cs⟩ := cs
  change cs.length = 6 at hl
  match cs, hl with
  | [c0, c1, c2, c3, c4, c5], _ =>
    obtain ⟨y0, h0⟩ := cell_field hone hlen hf (j := 0) rfl rfl
    obtain ⟨s, e0, _, hsz⟩ := DataW.trod_string k0 h0
    injection e0 with e0
    subst e0
    obtain ⟨a1, rfl⟩ := int_field hone hlen hf (j := 1) rfl rfl k1
    obtain ⟨a2, rfl⟩ := int_field hone hlen hf (j := 2) rfl rfl k2
    obtain ⟨a3, rfl⟩ := int_field hone hlen hf (j := 3) rfl rfl k3
    obtain ⟨a4, rfl⟩ := int_field hone hlen hf (j := 4) rfl rfl k4
    obtain ⟨y5, h5⟩ := cell_field hone hlen hf (j := 5) rfl rfl
    obtain ⟨A, m, c, rfl⟩ : ∃ A m c, c5 = .slice A m c := by
      rcases Go.Deep.open_slice k5 h5 with ⟨h1, _⟩ | ⟨a, len, cap, m, n', D, Pl, hcs, _⟩
      · injection h1 with h1
        exact ⟨_, _, _, h1⟩
      · injection hcs with hcs
        exact ⟨_, _, _, hcs⟩
    obtain ⟨l, hr⟩ := rd_of_trod he k5 ⟨n, h5⟩
    refine ⟨⟨s.data.toList, a1, a2, a3, a4, l⟩, _, ?_, hr, ?_⟩
    · simp [pv, sv]
    · have : s.data.toList.length = s.size := Array.length_toList
      rw [this]
      exact hsz
theorem open_text {H : Type} {enc : TypeId × Value → H} {P : Program} {w : World} {base : Nat} {sp : Nat → Bool} {held : Bool} {r : Go.Reach} {b0 : Nat} {t : TypeId} {v : Value} {d : DataW H} {ps : List MemPlace} (ht : P.underlying t = some .string) (hval : Value.okWide P w r b0 t v) (hd : DataW.Trod enc P w base sp held t v d ps) :
    ∃ s : ByteArray, v = .string s ∧ d = .lit (.string s.data.toList) ∧ ps = [] ∧ s.size ≤ maxLen := by
  obtain ⟨s, rfl⟩ := okWide_string ht hval
  obtain ⟨fuel, hf⟩ := hd
  obtain ⟨s', h, hx, hs⟩ := DataW.trod_string ht hf
  simp [Value.cells] at h
  subst h
  simp at hx
  exact ⟨s, rfl, hx.1, hx.2, hs⟩
theorem shut_text {H : Type} {enc : TypeId × Value → H} {P : Program} {w : World} {base : Nat} {sp : Nat → Bool} {held : Bool} {t : TypeId} {s : ByteArray} (ht : P.underlying t = some .string) (hs : s.size ≤ maxLen) : DataW.Trod enc P w base sp held t (.string s) (.lit (.string s.data.toList)) [] :=
  ⟨1, by simp [DataW.trod, Value.cells, ht, hs]⟩
end Go.SL


set_option linter.unusedVariables false
set_option linter.unusedSimpArgs false
namespace Go.SL
open Go.RowKit Go.Proofs
theorem tabs_stays2 : Stays tabs := fun _ _ h hb => Utf8Tabs_below h hb
end Go.SL
namespace Go.Proofs.YtccmdhihlkmjjaaDoor.fnExactParaPut
open Go.ChangeShapes Go.WideShapes Go.ChangeAt Go.RowKit Go.SL
theorem own : ownKnob Tryd.prog.godebug = none := by kernel_rfl
theorem laidOut : laidOutB Tryd.prog = true := by kernel_rfl
theorem elems : Reads Tryd.prog eSpan 66 := spanReads 66 Tryd.underlying66 (by kernel_rfl) (by kernel_rfl) (by kernel_rfl) (by kernel_rfl) (by kernel_rfl) (by kernel_rfl)
theorem y197 : U8Extra Tryd.prog Tryd.lays197_ren := ⟨by kernel_rfl, by kernel_rfl, by kernel_rfl, by kernel_rfl, by kernel_rfl, by kernel_rfl, by kernel_rfl⟩
set_option maxRecDepth 100000 in
theorem lifted (os : Os) (started : os.Started) (H : Type) (enc : TypeId × Value → H) :
    ReturnsInHanded {} Tryd.checked os 4 .any (fun w args => (Rows.fnExactParaPutSpec.pre enc Tryd.prog Tryd.f4 [] false w args ∧ laidMetH Tryd.prog Rows.fnExactParaPutRow.laid w) ∧ sizedMet enc Tryd.prog Tryd.f4 (OpenSpec.ofChange Rows.fnExactParaPutSpec) false w args)
      (Rows.fnExactParaPutSpec.post enc Tryd.prog Tryd.f4 false true false false) := by
  refine returnsInHanded_of_change_and (C := Tryd.checked) (X := fun w _ => laidMetH Tryd.prog Rows.fnExactParaPutRow.laid w) (fun _ _ _ hh h => h.of_heap hh) own started (by kernel_rfl) Tryd.func4
    (ChangeSpec.witness_shaped (enc := enc) (C := Tryd.checked) (os := os) (X := fun w _ => laidMetH Tryd.prog Rows.fnExactParaPutRow.laid w) false (World.laidAll Tryd.prog os Rows.fnExactParaPutRow.laid) #[.agg #[.string ⟨#[]⟩, .int .i64 0, .int .i64 0, .int .i64 0, .int .i64 0, .slice none 0 0], .int .i64 0, .string ⟨#[]⟩] 8 (World.laidAll_os _ _ _)
      (World.shaped_of_ZipB (by kernel_rfl) (by kernel_rfl)) (by kernel_rfl) (by kernel_rfl) (by kernel_rfl)
      (by rw [MakeChecks.laidMetH_plain _ _ _ (by kernel_rfl)]; exact laidMet_laidAll _ (by kernel_rfl) (by kernel_rfl))) ?_
  intro W base args ds gs before hval0 hW _ _ hL _
  have hval : ∀ (j : Nat) t v, Tryd.f4.params[j]? = some t → args[j]? = some v → Value.okWide Tryd.prog W .any base t v := hval0
  have hW' := hW
  obtain ⟨p, q, hA0, hV, rfl, hfz, hnd⟩ := hW
  have hA : DataW.TrodAll enc Tryd.prog W 0 (fun _ => true) true Tryd.f4.params.toList args.toList ds p := hA0
  rw [Tryd.params4] at hA hval
  obtain ⟨v0, vs0, d0, ds0, p0, q0, hargs, rfl, rfl, h0, r0⟩ := trodAll_cons hA
  obtain ⟨v1, vs1, d1, ds1, p1, q1, rfl, rfl, rfl, h1, r1⟩ := trodAll_cons r0
  obtain ⟨v2, vs2, d2, ds2, p2, q2, rfl, rfl, rfl, h2, r2⟩ := trodAll_cons r1
  obtain ⟨rfl, rfl, rfl⟩ := trodAll_nil r2
  obtain rfl : args = #[v0, v1, v2] := by cases args; simp_all
  obtain ⟨rfl, rfl⟩ := trodVars_none hV
  have k0 := h0
  have lt0 : ∀ x ∈ p0, x.block < W.heap.size := by obtain ⟨m, hm⟩ := k0; exact DataW.trod_lt m _ _ _ hm
  obtain ⟨cs0, hcs0, _⟩ := okWide_struct Tryd.underlying24 (hval 0 24 v0 rfl rfl)
  obtain ⟨pa, sp, rfl, hr0, hlen⟩ := para_of_trod 24 22 66 Tryd.underlying24 (by kernel_rfl) (by kernel_rfl) (by kernel_rfl) (by kernel_rfl) (by kernel_rfl) (by kernel_rfl) (by kernel_rfl) (by kernel_rfl) elems ⟨cs0, hcs0⟩ h0
  obtain ⟨a1, rfl, rfl, rfl, w1⟩ := open_int Tryd.underlying3 (hval 1 3 v1 rfl rfl) h1
  obtain ⟨s2, rfl, rfl, rfl, w2⟩ := open_text Tryd.underlying9 (hval 2 9 v2 rfl rfl) h2
  rw [MakeChecks.laidMetH_plain _ _ _ (by kernel_rfl)] at hL
  have hT : tabs W := utf8Tabs_of_reads (ρ := Tryd.lays197_ren) { Tryd.lays197 with } y197 (Pinned.utf8First_eq ▸ Lib.laidMet.reads hL (.tail _ (.head _))) (Lib.laidMet.reads hL (.head _))
  clear hA0 hval0
  have hs2 : sv s2.data.toList = Value.string s2 := by simp [sv]
  have hc := FnExactParaPut_c pa sp a1 s2.data.toList hlen (rd_bd hr0)
  rw [hs2] at hc
  refine (law_of_spec hc W (fun R hR => ?_)).mono fun e W' ⟨he, bel⟩ => ?_
  · rcases List.mem_cons.1 hR with rfl | hR
    · exact ⟨hr0, rd_stays⟩
    · rw [List.mem_singleton.1 hR]
      exact ⟨hT, tabs_stays2⟩
  subst he
  exact ⟨_, rfl, _, _, _, [], _, [], hW', trodAll_mk1 (shut_bool Tryd.underlying4 _), (trodAll_cons_mk (Below.trod laidOut (by kernel_rfl) (of_decide_eq_true (by kernel_rfl)) k0 bel lt0) (trodAll_cons_mk (shut_int Tryd.underlying3 w1) (trodAll_cons_mk (shut_text Tryd.underlying9 w2) trodAll_mk0))), rfl, bel.frame _, fun h => by cases h⟩
theorem over : Rows.FnExactParaPutSaid :=
  OpenClaim.holds_of_wide 4 Tryd.f4 rfl rfl rfl rfl rfl rfl rfl ⟨rfl, rfl, rfl, rfl, rfl⟩ rfl rfl rfl rfl rfl (by kernel_rfl) Tryd.func4 (by kernel_rfl)
    (of_decide_eq_true (by kernel_rfl)) (by unfold Func.isWrapper; first | (rw [if_pos (by decide +kernel)]; kernel_rfl) | (rw [if_neg (by decide +kernel)]; exact ⟨rfl, rfl⟩))
    (fun os started H enc _ => lifted os started H enc)
end Go.Proofs.YtccmdhihlkmjjaaDoor.fnExactParaPut
namespace Go.Proofs.YtccmdhihlkmjjaaDoor
theorem fnExactParaPut_holds : Rows.FnExactParaPutCardSaid :=
  Claim7.holds_tied_plain_at .later [] [.data, .pinned] true (true, "e931ac06e3e6eb2826be052b2589c21de2809462c53a80a58b95ff905a2ae8dc") false
    fnExactParaPut.over (fun _ h => by cases h) (by kernel_rfl) (fun _ h => by cases h) fnExactParaPut_row_tie rfl ⟨rfl, rfl⟩ (by kernel_rfl) rfl
    (fun f fn hf hfn => by
      obtain rfl : f = 4 := Option.some.inj ((show Tryd.prog.funcNamed "loop.example/colophon/laws.FnExactParaPut" = some 4 by kernel_rfl).symm.trans hf) |>.symm
      obtain rfl : fn = Tryd.f4 := (Option.some.inj (Tryd.func4.symm.trans hfn)).symm
      exact ⟨by kernel_rfl, fun j t ht => by
        rw [Tryd.params4] at ht
        have hm : t ∈ [24, 3, 9] := by have := Array.mem_of_getElem? ht; simp at this ⊢; exact this
        have hall : ([24, 3, 9].all fun u => !Tryd.prog.wantsStandIn u) = true := by kernel_rfl
        exact (show Tryd.prog.wantsStandIn t = false by simpa using List.all_eq_true.1 hall t hm)⟩)
    (by kernel_rfl)
end Go.Proofs.YtccmdhihlkmjjaaDoor
