/- trial 2 -/
import Derived.Test.YtccmdhihlkmjjaaA1
namespace Go.SL
open Go.RowKit Go.Proofs
structure Span where
  fr : Int
  to : Int
  size : Int
  mark : Int
def eSpan : Enc Span where
  sz := 4
  f s := [.int .i64 s.fr, .int .i64 s.to, .int .i64 s.size, .int .i64 s.mark]
  d := ⟨0, 0, 0, 0⟩
  dec
    | [.int .i64 a, .int .i64 b, .int .i64 c, .int .i64 d] => some ⟨a, b, c, d⟩
    | _ => none
  pos := by decide
  len _ := rfl
  one x u hu := by simp at hu; rcases hu with h | h | h | h <;> (rw [h]; rfl)
  inv cs x h := by
    split at h
    · injection h with h; rw [← h]
    · cases h
instance : EncN 44 eSpan := ⟨trivial⟩
def w64 (n : Int) : Int := IntKind.i64.wrap n
def sl6Ok (s : Span) (n : Int) : Bool := inR s.fr 0 (w64 (n - 1)) && (inR s.to (w64 (s.fr + 1)) n && (inR s.size 1 40 && inR s.mark 0 9))
set_option maxRecDepth 100000 in
theorem l6Ok_c (s : Span) (n : Int) : Spec Try.prog 34 [.agg #[.int .i64 s.fr, .int .i64 s.to, .int .i64 s.size, .int .i64 s.mark], .int .i64 n] [] [] (fun _ : Unit => .bool (sl6Ok s n)) (fun _ => []) (fun _ => True) := by
  refine Spec.mk Try.func34 rfl Try.ntmps34 rfl ?_
  intro w0 O hR hS0; clear hR hS0
  repeat' (first | ((with_reducible apply iOJ); first | ((with_reducible apply iOp); refine OJ.p ?_) | with_reducible apply OJ.nil | ((with_reducible apply iOg); first | refine OJ.guardY ?_ | refine OJ.guardN ?_ | refine OJ.guardNd ?_ | refine OJ.guardU ?_ | refine OJ.guardS (fun _ => ?_) (fun _ => ?_) | fail) | ((with_reducible apply iOstore); first | (refine OJ.as AS.store ?_; rintro _ _ rfl) | (refine OJ.as AS.storeA ?_; rintro _ _ rfl) | (refine OJ.as AS.storeE ?_; rintro _ _ rfl) | (refine OJ.as AS.storeEA ?_; rintro _ _ rfl) | fail) | ((with_reducible apply iOcall); first | (refine OJ.as AS.append1 ?_; rintro _ _ rfl) | (refine OJ.as AS.append ?_; rintro _ _ rfl) | (refine OJ.as (AS.call0 (l1In_c _ _ _)) ?_; rotate_right; rintro _ _ ⟨y, hy, rfl, rfl⟩) | fail) | ((with_reducible apply iObox); first | (refine OJ.as AS.box1 ?_; rintro _ _ ⟨_, rfl, rfl⟩) | (refine OJ.as AS.boxA ?_; rintro _ _ ⟨_, rfl, rfl⟩) | fail) | ((with_reducible apply iOalloc); first | (refine OJ.as AS.alloc ?_; rintro _ _ ⟨_, rfl, rfl⟩) | fail) | ((with_reducible apply iObuildSlice); first | (refine OJ.as AS.buildSlice ?_; rintro _ _ ⟨_, rfl, rfl⟩) | fail) | ((with_reducible apply iOmakeSlice); first | (refine OJ.as AS.makeSlice ?_; rintro _ _ rfl) | fail) | refine OJ.unboxP fun _ => ?_ | fail) | ((with_reducible apply iJ); first | refine J.seq ?_ | refine J.region ?_ | refine J.block ?_ | refine J.skip ?_ | refine J.exit ?_ | refine J.condT ?_ | refine J.condF ?_ | refine J.cond (fun _ => ?_) (fun _ => ?_) | fail) | ((with_reducible apply iJK); first | refine JK.code ?_ | refine JK.blk ?_ | refine JK.loop ?_ | refine JK.begin ?_ | refine JK.more ?_ | fail) | ((with_reducible apply iEnt); first | exact Ent.nil | ((with_reducible apply iERow); refine Ent.row ?_ ?_) | ((with_reducible apply iEBox); first | refine Ent.box ?_ ?_ | refine Ent.box2 ?_ ?_) | ((with_reducible apply iEBlk); refine Ent.blk ?_ ?_) | refine Ent.any ?_ | with_reducible exact Ent.refl | fail) | ((with_reducible apply iEq); with_reducible rfl) | fail)
  all_goals refine J.ret (ends () trivial ?_ Ent.nil)
  all_goals exact congrArg Value.bool (by simp [sl6Ok, w64, *])
end Go.SL
