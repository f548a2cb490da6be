/- spec.l6Looks -/
import Derived.Test.YtccmdhihlkmjjaaA6
namespace Go.SL
open Go.RowKit Go.Proofs
structure Look where
  size : Int
  mark : Int
def eLook : Enc Look where
  sz := 2
  f s := [.int .i64 s.size, .int .i64 s.mark]
  d := ⟨0, 0⟩
  dec
    | [.int .i64 a, .int .i64 b] => some ⟨a, b⟩
    | _ => none
  pos := by decide
  len _ := rfl
  one x u hu := by simp at hu; rcases hu with h | h <;> (rw [h]; rfl)
  inv cs x h := by
    split at h
    · injection h with h; rw [← h]
    · cases h
instance : EncN 66 eLook := ⟨trivial⟩
def lookOf (l : List Span) (i : Nat) : Look := ⟨(sAtL i l).1, (sAtL i l).2⟩
def sLooks (l : List Span) (n : Nat) : List Look := (List.range n).map (lookOf l)
theorem sLooks_len (l : List Span) (n : Nat) : (sLooks l n).length = n := by simp [sLooks]
theorem sLooks_succ (l : List Span) (n : Nat) : sLooks l (n + 1) = sLooks l n ++ [lookOf l n] := by simp [sLooks, List.range_succ]
set_option maxRecDepth 100000 in
set_option maxHeartbeats 4000000 in
theorem l6Looks_c (v : Value) (l : List Span) (n : Nat) (hn : n ≤ 1000000) : Spec Try.prog 21 [v, .int .i64 n] [rd eSpan v l] [] (fun u : Value => u) (fun u => [row eLook 66 u (sLooks l n)]) (fun _ => True) := by
  refine Spec.mk Try.func21 rfl Try.ntmps21 rfl ?_
  intro w0 O hR hS0
  have hr := hR _ List.mem_cons_self; clear hR hS0
  repeat' (first | ((with_reducible apply iOJ); first | ((with_reducible apply iOp); refine OJ.p ?_) | with_reducible apply OJ.nil | ((with_reducible apply iOg); first | refine OJ.guardY ?_ | refine OJ.guardN ?_ | refine OJ.guardNd ?_ | refine OJ.guardU ?_ | refine OJ.guardS (fun _ => ?_) (fun _ => ?_) | fail) | ((with_reducible apply iOstore); first | (refine OJ.as AS.store ?_; rintro _ _ rfl) | (refine OJ.as AS.storeA ?_; rintro _ _ rfl) | (refine OJ.as AS.storeE ?_; rintro _ _ rfl) | (refine OJ.as AS.storeEA ?_; rintro _ _ rfl) | fail) | ((with_reducible apply iOcall); first | (refine OJ.as AS.append1 ?_; rintro _ _ rfl) | (refine OJ.as AS.append ?_; rintro _ _ rfl) | fail) | ((with_reducible apply iObox); first | (refine OJ.as AS.box1 ?_; rintro _ _ ⟨_, rfl, rfl⟩) | (refine OJ.as AS.boxA ?_; rintro _ _ ⟨_, rfl, rfl⟩) | fail) | ((with_reducible apply iOalloc); first | (refine OJ.as AS.alloc ?_; rintro _ _ ⟨_, rfl, rfl⟩) | fail) | ((with_reducible apply iObuildSlice); first | (refine OJ.as AS.buildSlice ?_; rintro _ _ ⟨_, rfl, rfl⟩) | fail) | ((with_reducible apply iOmakeSlice); first | (refine OJ.as AS.makeSlice ?_; rintro _ _ rfl) | fail) | refine OJ.unboxP fun _ => ?_ | fail) | ((with_reducible apply iJ); first | refine J.seq ?_ | refine J.region ?_ | refine J.block ?_ | refine J.skip ?_ | refine J.exit ?_ | refine J.condT ?_ | refine J.condF ?_ | refine J.cond (fun _ => ?_) (fun _ => ?_) | fail) | ((with_reducible apply iJK); first | refine JK.code ?_ | refine JK.blk ?_ | refine JK.loop ?_ | refine JK.begin ?_ | refine JK.more ?_ | fail) | ((with_reducible apply iEnt); first | exact Ent.nil | ((with_reducible apply iERow); refine Ent.row ?_ ?_) | ((with_reducible apply iEBox); first | refine Ent.box ?_ ?_ | refine Ent.box2 ?_ ?_) | ((with_reducible apply iEBlk); refine Ent.blk ?_ ?_) | refine Ent.any ?_ | with_reducible exact Ent.refl | fail) | ((with_reducible apply iEq); with_reducible rfl) | fail)
  refine J.loopV (fun i _ => i ≤ n) (fun i => n - i) (fun i u => [(6, .int .i64 (i : Nat)), (5, u), (0, v), (1, .int .i64 n)]) (fun i u => [row eLook 66 u (sLooks l i)]) 0 _ (Nat.zero_le _) ?_
  intro i u hi ih
  have hl := sLooks_len l i
  repeat' (first | ((with_reducible apply iOJ); first | ((with_reducible apply iOp); refine OJ.p ?_) | with_reducible apply OJ.nil | ((with_reducible apply iOg); first | refine OJ.guardY ?_ | refine OJ.guardN ?_ | refine OJ.guardNd ?_ | refine OJ.guardU ?_ | refine OJ.guardS (fun _ => ?_) (fun _ => ?_) | fail) | ((with_reducible apply iOstore); first | (refine OJ.as AS.store ?_; rintro _ _ rfl) | (refine OJ.as AS.storeA ?_; rintro _ _ rfl) | (refine OJ.as AS.storeE ?_; rintro _ _ rfl) | (refine OJ.as AS.storeEA ?_; rintro _ _ rfl) | fail) | ((with_reducible apply iOcall); first | (refine OJ.as AS.append1 ?_; rintro _ _ rfl) | (refine OJ.as AS.append ?_; rintro _ _ rfl) | (refine OJ.as (AS.call0 (l6At_c _ l _)) ?_; rotate_right; rintro _ _ ⟨y, hy, rfl, rfl⟩) | fail) | ((with_reducible apply iObox); first | (refine OJ.as AS.box1 ?_; rintro _ _ ⟨_, rfl, rfl⟩) | (refine OJ.as AS.boxA ?_; rintro _ _ ⟨_, rfl, rfl⟩) | fail) | ((with_reducible apply iOalloc); first | (refine OJ.as AS.alloc ?_; rintro _ _ ⟨_, rfl, rfl⟩) | fail) | ((with_reducible apply iObuildSlice); first | (refine OJ.as AS.buildSlice ?_; rintro _ _ ⟨_, rfl, rfl⟩) | fail) | ((with_reducible apply iOmakeSlice); first | (refine OJ.as AS.makeSlice ?_; rintro _ _ rfl) | fail) | refine OJ.unboxP fun _ => ?_ | fail) | ((with_reducible apply iJ); first | refine J.seq ?_ | refine J.region ?_ | refine J.block ?_ | refine J.skip ?_ | refine J.exit ?_ | refine J.condT ?_ | refine J.condF ?_ | refine J.cond (fun _ => ?_) (fun _ => ?_) | refine J.draw ?_ | refine J.ret (ends u trivial rfl ?_) | fail) | ((with_reducible apply iJK); first | refine JK.code ?_ | refine JK.blk ?_ | refine JK.loop ?_ | refine JK.begin ?_ | refine JK.more ?_ | fail) | ((with_reducible apply iAJ); first | refine AJ.rebase ?_ | refine AJ.regain ?_ | refine AJ.take ?_ | refine AJ.takeY ?_ | refine AJ.takeN ?_ | refine AJ.takeNd ?_ | refine AJ.takeNS ?_ | refine AJ.takeU ?_ | refine AJ.sel ?_ | refine AJ.selY ?_ | refine AJ.sel2 ?_ ?_ | refine AJ.split (fun _ => ?_) (fun _ => ?_) | refine AJ.done ?_ | fail) | ((with_reducible apply iAO); first | ((with_reducible apply iAstore); first | (refine AO.as AS.store ?_; rotate_right; rintro _ _ rfl; refine AO.step ?_) | (refine AO.as AS.storeA ?_; rotate_right; rintro _ _ rfl; refine AO.step ?_) | (refine AO.as AS.storeE ?_; rotate_right; rintro _ _ rfl; refine AO.step ?_) | (refine AO.as AS.storeEA ?_; rotate_right; rintro _ _ rfl; refine AO.step ?_) | fail) | ((with_reducible apply iAcall); first | (refine AO.as AS.append1 ?_; rotate_right; rintro _ _ rfl; refine AO.step ?_) | (refine AO.as AS.append ?_; rotate_right; rintro _ _ rfl; refine AO.step ?_) | fail) | ((with_reducible apply iAbox); first | (refine AO.as AS.box1 ?_; rotate_right; rintro _ _ ⟨_, rfl, rfl⟩; refine AO.step ?_) | (refine AO.as AS.boxA ?_; rotate_right; rintro _ _ ⟨_, rfl, rfl⟩; refine AO.step ?_) | fail) | ((with_reducible apply iAalloc); first | (refine AO.as AS.alloc ?_; rotate_right; rintro _ _ ⟨_, rfl, rfl⟩; refine AO.step ?_) | fail) | ((with_reducible apply iAbuildSlice); first | (refine AO.as AS.buildSlice ?_; rotate_right; rintro _ _ ⟨_, rfl, rfl⟩; refine AO.step ?_) | fail) | ((with_reducible apply iAmakeSlice); first | (refine AO.as AS.makeSlice ?_; rotate_right; rintro _ _ rfl; refine AO.step ?_) | fail) | fail) | ((with_reducible apply iJL); first | refine JL.useL (ih (i + 1) _ (by omega) (by omega)) ?_ | fail) | ((with_reducible apply iEnt); first | exact Ent.nil | ((with_reducible apply iERow); refine Ent.row ?_ ?_) | ((with_reducible apply iEBox); first | refine Ent.box ?_ ?_ | refine Ent.box2 ?_ ?_) | ((with_reducible apply iEBlk); refine Ent.blk ?_ ?_) | refine Ent.any ?_ | with_reducible exact Ent.refl | fail) | ((with_reducible apply iEq); with_reducible rfl) | fail)
  · exact (sLooks_succ l i).symm
  · rw [show i = n by omega]
end Go.SL
