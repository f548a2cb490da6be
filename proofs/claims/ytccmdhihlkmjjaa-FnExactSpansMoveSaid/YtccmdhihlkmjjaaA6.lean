/- spec.l6At -/
import Derived.Test.YtccmdhihlkmjjaaA2
namespace Go.SL
open Go.RowKit Go.Proofs
def sAtL (n : Int) : List Span → Int × Int
  | [] => (10, 0)
  | s :: l => match inR n s.fr (w64 (s.to - 1)) with
    | true => (s.size, s.mark)
    | false => sAtL n l
set_option maxRecDepth 100000 in
set_option maxHeartbeats 4000000 in
theorem l6At_c (v : Value) (l : List Span) (n : Int) : Spec Try.prog 36 [v, .int .i64 n] [rd eSpan v l] [] (fun _ : Unit => .tuple #[.int .i64 (sAtL n l).1, .int .i64 (sAtL n l).2]) (fun _ => []) (fun _ => True) := by
  refine Spec.mk Try.func36 rfl Try.ntmps36 rfl ?_
  intro w0 O hR hS0
  have hr := hR _ List.mem_cons_self; clear hR
  repeat' (first | (show OJ _ _ _ _ _ _ _; first | refine OJ.p ?_ | refine OJ.nil ?_ | refine OJ.guardY ?_ | refine OJ.guardN ?_ | refine OJ.guardNd ?_ | refine OJ.guardU ?_ | refine OJ.guardS (fun _ => ?_) (fun _ => ?_) | (refine OJ.as AS.store ?_; rintro _ _ rfl) | (refine OJ.as AS.box1 ?_; rintro _ _ ⟨_, rfl, rfl⟩) | (refine OJ.as AS.boxA ?_; rintro _ _ ⟨_, rfl, rfl⟩) | (refine OJ.as AS.alloc ?_; rintro _ _ ⟨_, rfl, rfl⟩) | (refine OJ.as AS.buildSlice ?_; rintro _ _ ⟨_, rfl, rfl⟩) | (refine OJ.as AS.append1 ?_; rintro _ _ rfl) | (refine OJ.as AS.append ?_; rintro _ _ rfl) | (refine OJ.as AS.storeA ?_; rintro _ _ rfl) | (refine OJ.as AS.storeE ?_; rintro _ _ rfl) | (refine OJ.as AS.storeEA ?_; rintro _ _ rfl) | (refine OJ.as AS.makeSlice ?_; rintro _ _ rfl) | refine OJ.unboxP fun _ => ?_ | fail) | (show J _ _ _ _ _ _; first | refine J.seq ?_ | refine J.region ?_ | refine J.block ?_ | refine J.skip ?_ | refine J.exit ?_ | refine J.condT ?_ | refine J.condF ?_ | refine J.cond (fun _ => ?_) (fun _ => ?_) | fail) | (show JK _ _ _ _ _; first | refine JK.code ?_ | refine JK.blk ?_ | refine JK.loop ?_ | refine JK.begin ?_ | refine JK.more ?_ | fail) | (show Ent _ _; first | exact Ent.nil | refine Ent.row ?_ ?_ | refine Ent.box ?_ ?_ | refine Ent.box2 ?_ ?_ | refine Ent.blk ?_ ?_ | refine Ent.any ?_ | with_reducible exact Ent.refl | fail) | (show (_ : _) = _; with_reducible rfl) | fail)
  refine J.loopI (fun i : Nat => i ≤ l.length ∧ sAtL n l = sAtL n (l.drop i)) (fun i => l.length - i) (fun i => [(6, .int .i64 i), (0, v), (1, .int .i64 n)]) (fun _ => []) 0 ⟨Nat.zero_le _, rfl⟩ ?_
  rintro i ⟨hi, hm⟩ ih
  have hb := rd_bd (hr.h w0 hS0)
  repeat' (first | (show OJ _ _ _ _ _ _ _; first | refine OJ.p ?_ | refine OJ.nil ?_ | refine OJ.guardY ?_ | refine OJ.guardN ?_ | refine OJ.guardNd ?_ | refine OJ.guardU ?_ | refine OJ.guardS (fun _ => ?_) (fun _ => ?_) | (refine OJ.as AS.store ?_; rintro _ _ rfl) | (refine OJ.as AS.box1 ?_; rintro _ _ ⟨_, rfl, rfl⟩) | (refine OJ.as AS.boxA ?_; rintro _ _ ⟨_, rfl, rfl⟩) | (refine OJ.as AS.alloc ?_; rintro _ _ ⟨_, rfl, rfl⟩) | (refine OJ.as AS.buildSlice ?_; rintro _ _ ⟨_, rfl, rfl⟩) | (refine OJ.as AS.append1 ?_; rintro _ _ rfl) | (refine OJ.as AS.append ?_; rintro _ _ rfl) | (refine OJ.as AS.storeA ?_; rintro _ _ rfl) | (refine OJ.as AS.storeE ?_; rintro _ _ rfl) | (refine OJ.as AS.storeEA ?_; rintro _ _ rfl) | (refine OJ.as AS.makeSlice ?_; rintro _ _ rfl) | refine OJ.unboxP fun _ => ?_ | fail) | (show J _ _ _ _ _ _; first | refine J.seq ?_ | refine J.region ?_ | refine J.block ?_ | refine J.skip ?_ | refine J.exit ?_ | refine J.condT ?_ | refine J.condF ?_ | refine J.cond (fun _ => ?_) (fun _ => ?_) | refine J.draw ?_ | refine J.ret (ends () trivial ?_ Ent.nil) | fail) | (show JK _ _ _ _ _; first | refine JK.code ?_ | refine JK.blk ?_ | refine JK.loop ?_ | refine JK.begin ?_ | refine JK.more ?_ | fail) | (show AJ _ _ _ _ _ _ _ _ _ _ _; first | refine AJ.take ?_ | refine AJ.takeY ?_ | refine AJ.takeN ?_ | refine AJ.takeNd ?_ | refine AJ.takeNS ?_ | refine AJ.takeU ?_ | refine AJ.sel ?_ | refine AJ.selY ?_ | refine AJ.split (fun _ => ?_) (fun _ => ?_) | refine AJ.done ?_ | fail) | (show AO _ _ _ _ _ _ _ _ _ _ _ _ _ _ _; first | (refine AO.as AS.store ?_; rotate_right; rintro _ _ rfl; refine AO.step ?_) | (refine AO.as AS.append1 ?_; rotate_right; rintro _ _ rfl; refine AO.step ?_) | (refine AO.as AS.append ?_; rotate_right; rintro _ _ rfl; refine AO.step ?_) | (refine AO.as AS.storeA ?_; rotate_right; rintro _ _ rfl; refine AO.step ?_) | (refine AO.as AS.storeE ?_; rotate_right; rintro _ _ rfl; refine AO.step ?_) | (refine AO.as AS.storeEA ?_; rotate_right; rintro _ _ rfl; refine AO.step ?_) | (refine AO.as AS.makeSlice ?_; rotate_right; rintro _ _ rfl; refine AO.step ?_) | (refine AO.as AS.box1 ?_; rotate_right; rintro _ _ ⟨_, rfl, rfl⟩; refine AO.step ?_) | (refine AO.as AS.boxA ?_; rotate_right; rintro _ _ ⟨_, rfl, rfl⟩; refine AO.step ?_) | (refine AO.as AS.alloc ?_; rotate_right; rintro _ _ ⟨_, rfl, rfl⟩; refine AO.step ?_) | (refine AO.as AS.buildSlice ?_; rotate_right; rintro _ _ ⟨_, rfl, rfl⟩; refine AO.step ?_) | (refine AO.as (AS.call0 (l1In_c _ _ _)) ?_; rotate_right; rintro _ _ ⟨y, hy, rfl, rfl⟩; refine AO.step ?_) | fail) | (show JL _ _ _ _ _ _; first | refine JL.use (ih (i + 1) ⟨by omega, ?_⟩ (by omega)) | fail) | (show Ent _ _; first | exact Ent.nil | refine Ent.row ?_ ?_ | refine Ent.box ?_ ?_ | refine Ent.box2 ?_ ?_ | refine Ent.blk ?_ ?_ | refine Ent.any ?_ | with_reducible exact Ent.refl | fail) | (show (_ : _) = _; with_reducible rfl) | fail)
  all_goals clear ih hr hS0
  · rw [tup2, hm, dropD (d := eSpan.d) (by omega)]
    simp [-List.getD_eq_getElem?_getD, toNat1, sAtL, w64, *]
  · rw [hm, dropD (d := eSpan.d) (by omega)]
    simp [-List.getD_eq_getElem?_getD, toNat1, sAtL, w64, *]
  · rw [tup2, hm, List.drop_of_length_le (by omega)]
    rfl
end Go.SL
