/- impl.looks.add -/
import Derived.Test.YtccmdhihlkmjjaaA8
namespace Go.SL
open Go.RowKit Go.Proofs
structure Stretch where
  look : Look
  many : Int
def eStretch : Enc Stretch where
  sz := 3
  f s := [.int .i64 s.look.size, .int .i64 s.look.mark, .int .i64 s.many]
  d := ⟨⟨0, 0⟩, 0⟩
  dec
    | [.int .i64 a, .int .i64 b, .int .i64 c] => some ⟨⟨a, b⟩, c⟩
    | _ => none
  pos := by decide
  len _ := rfl
  one x u hu := by simp at hu; rcases hu with h | h | h <;> (rw [h]; rfl)
  inv cs x h := by
    split at h
    · injection h with h; rw [← h]
    · cases h
instance : EncN 69 eStretch := ⟨trivial⟩
def addS (g : List Stretch) (x : Look) (n : Int) : List Stretch := match decide (n = 0) with
  | true => g
  | false => match decide (0 < g.length) && eqLk (g.getD (g.length - 1) eStretch.d).look x with
    | true => g.set (g.length - 1) ⟨(g.getD (g.length - 1) eStretch.d).look, w64 ((g.getD (g.length - 1) eStretch.d).many + n)⟩
    | false => g ++ [⟨x, n⟩]
set_option maxRecDepth 100000 in
set_option maxHeartbeats 4000000 in
theorem add_c (b : Nat) (g : List Stretch) (x : Look) (n : Int) (hg : g.length ≤ 1000000) : Spec Try.prog 28 [.pointer (some ⟨b, 0, none⟩), .agg #[.int .i64 x.size, .int .i64 x.mark], .int .i64 n]
    [] [boxR b 48 eStretch 69 g] (fun _ : Unit => .tuple #[]) (fun _ => [boxR b 48 eStretch 69 (addS g x n)]) (fun _ => True) := by
  refine Spec.mk Try.func28 rfl Try.ntmps28 rfl ?_
  intro w0 O hR hS0; clear hR hS0
  refine J.unbox fun v => ?_
  repeat' (first | ((with_reducible apply iOJ); first | ((with_reducible apply iOp); refine OJ.p ?_) | with_reducible apply OJ.nil | ((with_reducible apply iOg); first | refine OJ.guardY ?_ | refine OJ.guardN ?_ | refine OJ.guardNd ?_ | refine OJ.guardU ?_ | refine OJ.guardS (fun _ => ?_) (fun _ => ?_) | fail) | ((with_reducible apply iOstore); first | (refine OJ.as AS.store ?_; rintro _ _ rfl) | (refine OJ.as AS.storeA ?_; rintro _ _ rfl) | (refine OJ.as AS.storeE ?_; rintro _ _ rfl) | (refine OJ.as AS.storeEA ?_; rintro _ _ rfl) | fail) | ((with_reducible apply iOcall); first | (refine OJ.as AS.append1 ?_; rintro _ _ rfl) | (refine OJ.as AS.append ?_; rintro _ _ rfl) | fail) | ((with_reducible apply iObox); first | (refine OJ.as AS.box1 ?_; rintro _ _ ⟨_, rfl, rfl⟩) | (refine OJ.as AS.boxA ?_; rintro _ _ ⟨_, rfl, rfl⟩) | fail) | ((with_reducible apply iOalloc); first | (refine OJ.as AS.alloc ?_; rintro _ _ ⟨_, rfl, rfl⟩) | fail) | ((with_reducible apply iObuildSlice); first | (refine OJ.as AS.buildSlice ?_; rintro _ _ ⟨_, rfl, rfl⟩) | fail) | ((with_reducible apply iOmakeSlice); first | (refine OJ.as AS.makeSlice ?_; rintro _ _ rfl) | fail) | refine OJ.unboxP fun _ => ?_ | fail) | ((with_reducible apply iJ); first | refine J.seq ?_ | refine J.region ?_ | refine J.block ?_ | refine J.skip ?_ | refine J.exit ?_ | refine J.condT ?_ | refine J.condF ?_ | refine J.cond (fun _ => ?_) (fun _ => ?_) | refine J.draw ?_ | fail) | ((with_reducible apply iJK); first | refine JK.code ?_ | refine JK.blk ?_ | refine JK.loop ?_ | refine JK.begin ?_ | refine JK.more ?_ | refine JK.fin (ends () trivial rfl ?_) | fail) | ((with_reducible apply iAJ); first | refine AJ.rebase ?_ | refine AJ.regain ?_ | refine AJ.take ?_ | refine AJ.takeY ?_ | refine AJ.takeN ?_ | refine AJ.takeNd ?_ | refine AJ.takeNS ?_ | refine AJ.takeU ?_ | refine AJ.sel ?_ | refine AJ.selY ?_ | refine AJ.sel2 ?_ ?_ | refine AJ.split (fun _ => ?_) (fun _ => ?_) | refine AJ.done ?_ | fail) | ((with_reducible apply iAO); first | ((with_reducible apply iAstore); first | (refine AO.as AS.store ?_; rotate_right; rintro _ _ rfl; refine AO.step ?_) | (refine AO.as AS.storeA ?_; rotate_right; rintro _ _ rfl; refine AO.step ?_) | (refine AO.as AS.storeE ?_; rotate_right; rintro _ _ rfl; refine AO.step ?_) | (refine AO.as AS.storeEA ?_; rotate_right; rintro _ _ rfl; refine AO.step ?_) | fail) | ((with_reducible apply iAcall); first | (refine AO.as AS.append1 ?_; rotate_right; rintro _ _ rfl; refine AO.step ?_) | (refine AO.as AS.append ?_; rotate_right; rintro _ _ rfl; refine AO.step ?_) | fail) | ((with_reducible apply iAbox); first | (refine AO.as AS.box1 ?_; rotate_right; rintro _ _ ⟨_, rfl, rfl⟩; refine AO.step ?_) | (refine AO.as AS.boxA ?_; rotate_right; rintro _ _ ⟨_, rfl, rfl⟩; refine AO.step ?_) | fail) | ((with_reducible apply iAalloc); first | (refine AO.as AS.alloc ?_; rotate_right; rintro _ _ ⟨_, rfl, rfl⟩; refine AO.step ?_) | fail) | ((with_reducible apply iAbuildSlice); first | (refine AO.as AS.buildSlice ?_; rotate_right; rintro _ _ ⟨_, rfl, rfl⟩; refine AO.step ?_) | fail) | ((with_reducible apply iAmakeSlice); first | (refine AO.as AS.makeSlice ?_; rotate_right; rintro _ _ rfl; refine AO.step ?_) | fail) | fail) | ((with_reducible apply iEnt); first | exact Ent.nil | ((with_reducible apply iERow); refine Ent.row ?_ ?_) | ((with_reducible apply iEBox); first | refine Ent.box ?_ ?_ | refine Ent.box2 ?_ ?_) | ((with_reducible apply iEBlk); refine Ent.blk ?_ ?_) | refine Ent.any ?_ | with_reducible exact Ent.refl | fail) | ((with_reducible apply iEq); with_reducible rfl) | fail)
  all_goals try simp only [toNat1] at *
  · simp [addS, *]
  · have h4 : 0 < g.length := by omega
    simp [-List.getD_eq_getElem?_getD, toNat1, addS, eqLk, w64, *]
  · have h4 : 0 < g.length := by omega
    simp [-List.getD_eq_getElem?_getD, toNat1, addS, eqLk, w64, *]
  · have h4 : ¬ 0 < g.length := by omega
    simp [-List.getD_eq_getElem?_getD, toNat1, addS, *]
end Go.SL
