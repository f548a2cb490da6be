/- impl.looks.add -/
import Derived.Test.YtccmdhihlkmjjaaA8
namespace Go.SL
open Go.RowKit Go.Proofs
structure Stretch where
  look : Look
  many : Int
def eStretch : Enc Stretch where
  sz := 3
  f s := [.int .i64 s.look.size, .int .i64 s.look.mark, .int .i64 s.many]
  d := ⟨⟨0, 0⟩, 0⟩
  dec
    | [.int .i64 a, .int .i64 b, .int .i64 c] => some ⟨⟨a, b⟩, c⟩
    | _ => none
  pos := by decide
  len _ := rfl
  one x u hu := by simp at hu; rcases hu with h | h | h <;> (rw [h]; rfl)
  inv cs x h := by
    split at h
    · injection h with h; rw [← h]
    · cases h
instance : EncN 69 eStretch := ⟨trivial⟩
def addS (g : List Stretch) (x : Look) (n : Int) : List Stretch := match decide (n = 0) with
  | true => g
  | false => match decide (0 < g.length) && eqLk (g.getD (g.length - 1) eStretch.d).look x with
    | true => g.set (g.length - 1) ⟨(g.getD (g.length - 1) eStretch.d).look, w64 ((g.getD (g.length - 1) eStretch.d).many + n)⟩
    | false => g ++ [⟨x, n⟩]
set_option maxRecDepth 100000 in
set_option maxHeartbeats 4000000 in
theorem add_c (b : Nat) (g : List Stretch) (x : Look) (n : Int) (hg : g.length ≤ 1000000) : Spec Try.prog 28 [.pointer (some ⟨b, 0, none⟩), .agg #[.int .i64 x.size, .int .i64 x.mark], .int .i64 n]
    [] [boxR b 48 eStretch 69 g] (fun _ : Unit => .tuple #[]) (fun _ => [boxR b 48 eStretch 69 (addS g x n)]) (fun _ => True) := by
  refine Spec.mk Try.func28 rfl Try.ntmps28 rfl ?_
  intro w0 O hR hS0; clear hR hS0
  refine J.unbox fun v => ?_
  repeat' (first | (show OJ _ _ _ _ _ _ _; first | refine OJ.p ?_ | refine OJ.nil ?_ | refine OJ.guardY ?_ | refine OJ.guardN ?_ | refine OJ.guardNd ?_ | refine OJ.guardU ?_ | refine OJ.guardS (fun _ => ?_) (fun _ => ?_) | (refine OJ.as AS.store ?_; rintro _ _ rfl) | (refine OJ.as AS.box1 ?_; rintro _ _ ⟨_, rfl, rfl⟩) | (refine OJ.as AS.boxA ?_; rintro _ _ ⟨_, rfl, rfl⟩) | (refine OJ.as AS.alloc ?_; rintro _ _ ⟨_, rfl, rfl⟩) | (refine OJ.as AS.buildSlice ?_; rintro _ _ ⟨_, rfl, rfl⟩) | (refine OJ.as AS.append1 ?_; rintro _ _ rfl) | (refine OJ.as AS.append ?_; rintro _ _ rfl) | (refine OJ.as AS.storeA ?_; rintro _ _ rfl) | (refine OJ.as AS.storeE ?_; rintro _ _ rfl) | (refine OJ.as AS.storeEA ?_; rintro _ _ rfl) | (refine OJ.as AS.makeSlice ?_; rintro _ _ rfl) | refine OJ.unboxP fun _ => ?_ | fail) | (show J _ _ _ _ _ _; first | refine J.seq ?_ | refine J.region ?_ | refine J.block ?_ | refine J.skip ?_ | refine J.exit ?_ | refine J.condT ?_ | refine J.condF ?_ | refine J.cond (fun _ => ?_) (fun _ => ?_) | refine J.draw ?_ | fail) | (show JK _ _ _ _ _; first | refine JK.code ?_ | refine JK.blk ?_ | refine JK.loop ?_ | refine JK.begin ?_ | refine JK.more ?_ | refine JK.fin (ends () trivial rfl ?_) | fail) | (show AJ _ _ _ _ _ _ _ _ _ _ _; first | refine AJ.take ?_ | refine AJ.takeY ?_ | refine AJ.takeN ?_ | refine AJ.takeNd ?_ | refine AJ.takeNS ?_ | refine AJ.takeU ?_ | refine AJ.sel ?_ | refine AJ.selY ?_ | refine AJ.split (fun _ => ?_) (fun _ => ?_) | refine AJ.done ?_ | fail) | (show AO _ _ _ _ _ _ _ _ _ _ _ _ _ _ _; first | (refine AO.as AS.store ?_; rotate_right; rintro _ _ rfl; refine AO.step ?_) | (refine AO.as AS.append1 ?_; rotate_right; rintro _ _ rfl; refine AO.step ?_) | (refine AO.as AS.append ?_; rotate_right; rintro _ _ rfl; refine AO.step ?_) | (refine AO.as AS.storeA ?_; rotate_right; rintro _ _ rfl; refine AO.step ?_) | (refine AO.as AS.storeE ?_; rotate_right; rintro _ _ rfl; refine AO.step ?_) | (refine AO.as AS.storeEA ?_; rotate_right; rintro _ _ rfl; refine AO.step ?_) | (refine AO.as AS.makeSlice ?_; rotate_right; rintro _ _ rfl; refine AO.step ?_) | (refine AO.as AS.box1 ?_; rotate_right; rintro _ _ ⟨_, rfl, rfl⟩; refine AO.step ?_) | (refine AO.as AS.boxA ?_; rotate_right; rintro _ _ ⟨_, rfl, rfl⟩; refine AO.step ?_) | (refine AO.as AS.alloc ?_; rotate_right; rintro _ _ ⟨_, rfl, rfl⟩; refine AO.step ?_) | (refine AO.as AS.buildSlice ?_; rotate_right; rintro _ _ ⟨_, rfl, rfl⟩; refine AO.step ?_) | fail) | (show Ent _ _; first | exact Ent.nil | refine Ent.row ?_ ?_ | refine Ent.box ?_ ?_ | refine Ent.box2 ?_ ?_ | refine Ent.blk ?_ ?_ | refine Ent.any ?_ | with_reducible exact Ent.refl | fail) | (show (_ : _) = _; with_reducible rfl) | fail)
  all_goals try simp only [toNat1] at *
  · simp [addS, *]
  · have h4 : 0 < g.length := by omega
    simp [-List.getD_eq_getElem?_getD, toNat1, addS, eqLk, w64, *]
  · have h4 : 0 < g.length := by omega
    simp [-List.getD_eq_getElem?_getD, toNat1, addS, eqLk, w64, *]
  · have h4 : ¬ 0 < g.length := by omega
    simp [-List.getD_eq_getElem?_getD, toNat1, addS, *]
end Go.SL
