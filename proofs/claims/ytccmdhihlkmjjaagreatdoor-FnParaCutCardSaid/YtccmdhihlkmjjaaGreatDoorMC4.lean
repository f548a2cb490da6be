/- Parts of the proof (joined by program). -/
import Derived.Test.YtccmdhihlkmjjaaGreatDoorMC3
/- impl.RuneBidi: it tells some number (which one does not matter to what is cut or put). -/
set_option linter.unusedVariables false
set_option linter.unusedSimpArgs false
namespace Go.SL
open Go.RowKit Go.Proofs
/-- Letters from one to another one, and what they have. -/
structure Reach where
  low : Int
  high : Int
  has : Int
def eReach : Enc Reach where
  sz := 3
  f x := [.int .i64 x.low, .int .i64 x.high, .int .i64 x.has]
  d := ⟨0, 0, 0⟩
  dec
    | [.int .i64 a, .int .i64 b, .int .i64 c] => some ⟨a, b, c⟩
    | _ => none
  pos := by decide
  len _ := rfl
  one x u hu := by
    simp only [List.mem_cons, List.not_mem_nil, or_false] at hu
    rcases hu with rfl | rfl | rfl <;> rfl
  inv cs x h := by
    split at h
    · injection h with h; rw [← h]
    · cases h
instance : EncN 268 eReach := ⟨trivial⟩
set_option maxRecDepth 100000 in
theorem isNaN_c (r : Int) : Spec Tryz.prog 248 [.int .i64 r] [] [] (fun _ : Unit => .bool false) (fun _ => []) (fun _ => True) := by
  refine Spec.mk Tryz.func248 rfl Tryz.ntmps248 rfl ?_
  intro w0 O hR hS0; clear hR hS0
  repeat' (first | ((with_reducible apply iOJ); first | ((with_reducible apply iOp); refine OJ.p ?_) | with_reducible apply OJ.nil | ((with_reducible apply iOg); first | refine OJ.guardY ?_ | refine OJ.guardN ?_ | refine OJ.guardNd ?_ | refine OJ.guardU ?_ | refine OJ.guardS (fun _ => ?_) (fun _ => ?_) | fail) | ((with_reducible apply iOstore); first | (refine OJ.as AS.store ?_; rintro _ _ rfl) | (refine OJ.as AS.storeA ?_; rintro _ _ rfl) | (refine OJ.as AS.storeAV ?_; rintro _ _ rfl) | (refine OJ.as AS.storeE ?_; rintro _ _ rfl) | (refine OJ.as AS.storeEA ?_; rintro _ _ rfl) | fail) | ((with_reducible apply iOcall); first | (refine OJ.as AS.append1 ?_; rintro _ _ rfl) | (refine OJ.as AS.append ?_; rintro _ _ rfl) | fail) | ((with_reducible apply iObox); first | (refine OJ.as AS.box1 ?_; rintro _ _ ⟨_, rfl, rfl⟩) | (refine OJ.as AS.boxA ?_; rintro _ _ ⟨_, rfl, rfl⟩) | fail) | ((with_reducible apply iOalloc); first | (refine OJ.as AS.alloc ?_; rintro _ _ ⟨_, rfl, rfl⟩) | fail) | ((with_reducible apply iObuildSlice); first | (refine OJ.as AS.buildSlice ?_; rintro _ _ ⟨_, rfl, rfl⟩) | fail) | ((with_reducible apply iOmakeSlice); first | (refine OJ.as AS.makeSlice ?_; rintro _ _ rfl) | fail) | ((with_reducible apply iOmakeMap); first | (refine OJ.as AS.makeMap ?_; rintro _ _ ⟨_, rfl, rfl⟩) | fail) | ((with_reducible apply iOmapEntry); first | (refine OJ.as AS.mapEntry ?_; rintro _ _ ⟨_, _, rfl, rfl⟩) | fail) | ((with_reducible apply iOentryStore); first | (refine OJ.as AS.entryStore ?_; rintro _ _ rfl) | fail) | refine OJ.unboxP fun _ => ?_ | fail) | ((with_reducible apply iJ); first | refine J.seq ?_ | refine J.region ?_ | refine J.block ?_ | refine J.skip ?_ | refine J.exit ?_ | refine J.condT ?_ | refine J.condF ?_ | refine J.cond (fun _ => ?_) (fun _ => ?_) | refine J.retB ?_ | fail) | ((with_reducible apply iJK); first | refine JK.code ?_ | refine JK.blk ?_ | refine JK.loop ?_ | refine JK.begin ?_ | refine JK.more ?_ | fail) | ((with_reducible apply iEnt); first | exact Ent.nil | ((with_reducible apply iERow); refine Ent.row ?_ ?_) | ((with_reducible apply iEBox); first | refine Ent.box ?_ ?_ | refine Ent.box2 ?_ ?_) | ((with_reducible apply iEBlk); refine Ent.blk ?_ ?_) | ((with_reducible apply iEPure); refine Ent.pure ?_ ?_) | ((with_reducible apply iERdR); first | refine Ent.rdR ?_ | refine Ent.any ?_ | fail) | refine Ent.any ?_ | with_reducible exact Ent.refl | fail) | ((with_reducible apply iEq); with_reducible rfl) | fail)
  all_goals simp
def cmpI (a b : Int) : Int := if a < b then -1 else if b < a then 1 else 0
set_option maxRecDepth 100000 in
theorem compare_c (a b : Int) : Spec Tryz.prog 209 [.int .i64 a, .int .i64 b] [] [] (fun _ : Unit => .int .i64 (cmpI a b)) (fun _ => []) (fun _ => True) := by
  refine Spec.mk Tryz.func209 rfl Tryz.ntmps209 rfl ?_
  intro w0 O hR hS0; clear hR hS0
  repeat' (first | ((with_reducible apply iOJ); first | ((with_reducible apply iOp); refine OJ.p ?_) | with_reducible apply OJ.nil | ((with_reducible apply iOg); first | refine OJ.guardY ?_ | refine OJ.guardN ?_ | refine OJ.guardNd ?_ | refine OJ.guardU ?_ | refine OJ.guardS (fun _ => ?_) (fun _ => ?_) | fail) | ((with_reducible apply iOstore); first | (refine OJ.as AS.store ?_; rintro _ _ rfl) | (refine OJ.as AS.storeA ?_; rintro _ _ rfl) | (refine OJ.as AS.storeAV ?_; rintro _ _ rfl) | (refine OJ.as AS.storeE ?_; rintro _ _ rfl) | (refine OJ.as AS.storeEA ?_; rintro _ _ rfl) | fail) | ((with_reducible apply iOcall); first | (refine OJ.as AS.append1 ?_; rintro _ _ rfl) | (refine OJ.as AS.append ?_; rintro _ _ rfl) | (refine OJ.as (AS.call0 (isNaN_c _)) ?_; rotate_right; rintro _ _ ⟨y, hy, rfl, rfl⟩) | fail) | ((with_reducible apply iObox); first | (refine OJ.as AS.box1 ?_; rintro _ _ ⟨_, rfl, rfl⟩) | (refine OJ.as AS.boxA ?_; rintro _ _ ⟨_, rfl, rfl⟩) | fail) | ((with_reducible apply iOalloc); first | (refine OJ.as AS.alloc ?_; rintro _ _ ⟨_, rfl, rfl⟩) | fail) | ((with_reducible apply iObuildSlice); first | (refine OJ.as AS.buildSlice ?_; rintro _ _ ⟨_, rfl, rfl⟩) | fail) | ((with_reducible apply iOmakeSlice); first | (refine OJ.as AS.makeSlice ?_; rintro _ _ rfl) | fail) | ((with_reducible apply iOmakeMap); first | (refine OJ.as AS.makeMap ?_; rintro _ _ ⟨_, rfl, rfl⟩) | fail) | ((with_reducible apply iOmapEntry); first | (refine OJ.as AS.mapEntry ?_; rintro _ _ ⟨_, _, rfl, rfl⟩) | fail) | ((with_reducible apply iOentryStore); first | (refine OJ.as AS.entryStore ?_; rintro _ _ rfl) | fail) | refine OJ.unboxP fun _ => ?_ | fail) | ((with_reducible apply iJ); first | refine J.seq ?_ | refine J.region ?_ | refine J.block ?_ | refine J.skip ?_ | refine J.exit ?_ | refine J.condT ?_ | refine J.condF ?_ | refine J.cond (fun _ => ?_) (fun _ => ?_) | refine J.retI ?_ | fail) | ((with_reducible apply iJK); first | refine JK.code ?_ | refine JK.blk ?_ | refine JK.loop ?_ | refine JK.begin ?_ | refine JK.more ?_ | fail) | ((with_reducible apply iEnt); first | exact Ent.nil | ((with_reducible apply iERow); refine Ent.row ?_ ?_) | ((with_reducible apply iEBox); first | refine Ent.box ?_ ?_ | refine Ent.box2 ?_ ?_) | ((with_reducible apply iEBlk); refine Ent.blk ?_ ?_) | ((with_reducible apply iEPure); refine Ent.pure ?_ ?_) | ((with_reducible apply iERdR); first | refine Ent.rdR ?_ | refine Ent.any ?_ | fail) | refine Ent.any ?_ | with_reducible exact Ent.refl | fail) | ((with_reducible apply iEq); with_reducible rfl) | fail)
  all_goals
    unfold cmpI
    (repeat' split) <;> omega
def vReach (q : Reach) : Value := .agg #[.int .i64 q.low, .int .i64 q.high, .int .i64 q.has]
def cmpR (q : Reach) (r : Int) : Int := if q.low ≤ r ∧ r ≤ q.high then 0 else cmpI q.low r
set_option maxRecDepth 100000 in
theorem findCmp_c (q : Reach) (r : Int) : Spec Tryz.prog 208 ([.agg #[.int .i64 q.low, .int .i64 q.high, .int .i64 q.has], .int .i64 r] ++ []) [] [] (fun _ : Unit => .int .i64 (cmpR q r)) (fun _ => []) (fun _ => True) := by
  refine Spec.mk Tryz.func208 rfl Tryz.ntmps208 rfl ?_
  intro w0 O hR hS0; clear hR hS0
  repeat' (first | ((with_reducible apply iOJ); first | ((with_reducible apply iOp); refine OJ.p ?_) | with_reducible apply OJ.nil | ((with_reducible apply iOg); first | refine OJ.guardY ?_ | refine OJ.guardN ?_ | refine OJ.guardNd ?_ | refine OJ.guardU ?_ | refine OJ.guardS (fun _ => ?_) (fun _ => ?_) | fail) | ((with_reducible apply iOstore); first | (refine OJ.as AS.store ?_; rintro _ _ rfl) | (refine OJ.as AS.storeA ?_; rintro _ _ rfl) | (refine OJ.as AS.storeAV ?_; rintro _ _ rfl) | (refine OJ.as AS.storeE ?_; rintro _ _ rfl) | (refine OJ.as AS.storeEA ?_; rintro _ _ rfl) | fail) | ((with_reducible apply iOcall); first | (refine OJ.as AS.append1 ?_; rintro _ _ rfl) | (refine OJ.as AS.append ?_; rintro _ _ rfl) | (refine OJ.as (AS.call0 (compare_c _ _)) ?_; rotate_right; rintro _ _ ⟨y, hy, rfl, rfl⟩) | fail) | ((with_reducible apply iObox); first | (refine OJ.as AS.box1 ?_; rintro _ _ ⟨_, rfl, rfl⟩) | (refine OJ.as AS.boxA ?_; rintro _ _ ⟨_, rfl, rfl⟩) | fail) | ((with_reducible apply iOalloc); first | (refine OJ.as AS.alloc ?_; rintro _ _ ⟨_, rfl, rfl⟩) | fail) | ((with_reducible apply iObuildSlice); first | (refine OJ.as AS.buildSlice ?_; rintro _ _ ⟨_, rfl, rfl⟩) | fail) | ((with_reducible apply iOmakeSlice); first | (refine OJ.as AS.makeSlice ?_; rintro _ _ rfl) | fail) | ((with_reducible apply iOmakeMap); first | (refine OJ.as AS.makeMap ?_; rintro _ _ ⟨_, rfl, rfl⟩) | fail) | ((with_reducible apply iOmapEntry); first | (refine OJ.as AS.mapEntry ?_; rintro _ _ ⟨_, _, rfl, rfl⟩) | fail) | ((with_reducible apply iOentryStore); first | (refine OJ.as AS.entryStore ?_; rintro _ _ rfl) | fail) | refine OJ.unboxP fun _ => ?_ | fail) | ((with_reducible apply iJ); first | refine J.seq ?_ | refine J.region ?_ | refine J.block ?_ | refine J.skip ?_ | refine J.exit ?_ | refine J.condT ?_ | refine J.condF ?_ | refine J.cond (fun _ => ?_) (fun _ => ?_) | refine J.retI ?_ | fail) | ((with_reducible apply iJK); first | refine JK.code ?_ | refine JK.blk ?_ | refine JK.loop ?_ | refine JK.begin ?_ | refine JK.more ?_ | fail) | ((with_reducible apply iEnt); first | exact Ent.nil | ((with_reducible apply iERow); refine Ent.row ?_ ?_) | ((with_reducible apply iEBox); first | refine Ent.box ?_ ?_ | refine Ent.box2 ?_ ?_) | ((with_reducible apply iEBlk); refine Ent.blk ?_ ?_) | ((with_reducible apply iEPure); refine Ent.pure ?_ ?_) | ((with_reducible apply iERdR); first | refine Ent.rdR ?_ | refine Ent.any ?_ | fail) | refine Ent.any ?_ | with_reducible exact Ent.refl | fail) | ((with_reducible apply iEq); with_reducible rfl) | fail)
  all_goals
    unfold cmpR
    first | (rw [if_pos (by omega)]; done) | (rw [if_neg (by omega)]; done)
theorem int_some {a b : Int} (h : a = b) : some (Value.int .i64 a) = some (Value.int .i64 b) := h ▸ rfl
def fnCmp : Value := .func (.func 208) #[] #[]
set_option maxRecDepth 100000 in
set_option maxHeartbeats 4000000 in
theorem search_c (v : Value) (l : List Reach) (r : Int) (hl : l.length ≤ 1000) : Spec Tryz.prog 207 [v, .int .i64 r, fnCmp] [rd eReach v l] [] (fun q : Nat × Bool => .tuple #[.int .i64 (q.1 : Int), .bool q.2]) (fun _ => []) (fun q => q.2 = true → q.1 < l.length) := by
  refine Spec.mk Tryz.func207 rfl Tryz.ntmps207 rfl ?_
  intro w0 O hR hS0
  have hr := hR _ List.mem_cons_self; clear hR hS0
  repeat' (first | ((with_reducible apply iOJ); first | ((with_reducible apply iOp); refine OJ.p ?_) | with_reducible apply OJ.nil | ((with_reducible apply iOg); first | refine OJ.guardY ?_ | refine OJ.guardN ?_ | refine OJ.guardNd ?_ | refine OJ.guardU ?_ | refine OJ.guardS (fun _ => ?_) (fun _ => ?_) | fail) | ((with_reducible apply iOstore); first | (refine OJ.as AS.store ?_; rintro _ _ rfl) | (refine OJ.as AS.storeA ?_; rintro _ _ rfl) | (refine OJ.as AS.storeAV ?_; rintro _ _ rfl) | (refine OJ.as AS.storeE ?_; rintro _ _ rfl) | (refine OJ.as AS.storeEA ?_; rintro _ _ rfl) | fail) | ((with_reducible apply iOcall); first | (refine OJ.as AS.append1 ?_; rintro _ _ rfl) | (refine OJ.as AS.append ?_; rintro _ _ rfl) | fail) | ((with_reducible apply iObox); first | (refine OJ.as AS.box1 ?_; rintro _ _ ⟨_, rfl, rfl⟩) | (refine OJ.as AS.boxA ?_; rintro _ _ ⟨_, rfl, rfl⟩) | fail) | ((with_reducible apply iOalloc); first | (refine OJ.as AS.alloc ?_; rintro _ _ ⟨_, rfl, rfl⟩) | fail) | ((with_reducible apply iObuildSlice); first | (refine OJ.as AS.buildSlice ?_; rintro _ _ ⟨_, rfl, rfl⟩) | fail) | ((with_reducible apply iOmakeSlice); first | (refine OJ.as AS.makeSlice ?_; rintro _ _ rfl) | fail) | ((with_reducible apply iOmakeMap); first | (refine OJ.as AS.makeMap ?_; rintro _ _ ⟨_, rfl, rfl⟩) | fail) | ((with_reducible apply iOmapEntry); first | (refine OJ.as AS.mapEntry ?_; rintro _ _ ⟨_, _, rfl, rfl⟩) | fail) | ((with_reducible apply iOentryStore); first | (refine OJ.as AS.entryStore ?_; rintro _ _ rfl) | fail) | refine OJ.unboxP fun _ => ?_ | fail) | ((with_reducible apply iJ); first | refine J.seq ?_ | refine J.region ?_ | refine J.block ?_ | refine J.skip ?_ | refine J.exit ?_ | refine J.condT ?_ | refine J.condF ?_ | refine J.cond (fun _ => ?_) (fun _ => ?_) | fail) | ((with_reducible apply iJK); first | refine JK.code ?_ | refine JK.blk ?_ | refine JK.loop ?_ | refine JK.begin ?_ | refine JK.more ?_ | fail) | ((with_reducible apply iEnt); first | exact Ent.nil | ((with_reducible apply iERow); refine Ent.row ?_ ?_) | ((with_reducible apply iEBox); first | refine Ent.box ?_ ?_ | refine Ent.box2 ?_ ?_) | ((with_reducible apply iEBlk); refine Ent.blk ?_ ?_) | ((with_reducible apply iEPure); refine Ent.pure ?_ ?_) | ((with_reducible apply iERdR); first | refine Ent.rdR ?_ | refine Ent.any ?_ | fail) | refine Ent.any ?_ | with_reducible exact Ent.refl | fail) | ((with_reducible apply iEq); with_reducible rfl) | fail)
  refine J.loopI (fun q : Nat × Nat => q.1 ≤ q.2 ∧ q.2 ≤ l.length) (fun q => q.2 - q.1) (fun q => [(9, .int .i64 (q.1 : Int)), (10, .int .i64 (q.2 : Int)), (8, .int .i64 (l.length : Int)), (0, v), (1, .int .i64 r), (2, fnCmp)]) (fun _ => []) (0, l.length) ⟨Nat.zero_le _, Nat.le_refl _⟩ ?_
  rintro ⟨i, j⟩ ⟨hi, hj⟩ ih
  dsimp only at hi hj ⊢
  repeat' (first | ((with_reducible apply iOJ); first | ((with_reducible apply iOp); refine OJ.p ?_) | with_reducible apply OJ.nil | ((with_reducible apply iOg); first | refine OJ.guardY ?_ | refine OJ.guardN ?_ | refine OJ.guardNd ?_ | refine OJ.guardU ?_ | refine OJ.guardS (fun _ => ?_) (fun _ => ?_) | fail) | ((with_reducible apply iOstore); first | (refine OJ.as AS.store ?_; rintro _ _ rfl) | (refine OJ.as AS.storeA ?_; rintro _ _ rfl) | (refine OJ.as AS.storeAV ?_; rintro _ _ rfl) | (refine OJ.as AS.storeE ?_; rintro _ _ rfl) | (refine OJ.as AS.storeEA ?_; rintro _ _ rfl) | fail) | ((with_reducible apply iOcall); first | (refine OJ.as AS.append1 ?_; rintro _ _ rfl) | (refine OJ.as AS.append ?_; rintro _ _ rfl) | (refine OJ.as (AS.callV (findCmp_c (l.getD _ eReach.d) _)) ?_; rotate_right; rintro _ _ ⟨y, hy, rfl, rfl⟩) | fail) | ((with_reducible apply iObox); first | (refine OJ.as AS.box1 ?_; rintro _ _ ⟨_, rfl, rfl⟩) | (refine OJ.as AS.boxA ?_; rintro _ _ ⟨_, rfl, rfl⟩) | fail) | ((with_reducible apply iOalloc); first | (refine OJ.as AS.alloc ?_; rintro _ _ ⟨_, rfl, rfl⟩) | fail) | ((with_reducible apply iObuildSlice); first | (refine OJ.as AS.buildSlice ?_; rintro _ _ ⟨_, rfl, rfl⟩) | fail) | ((with_reducible apply iOmakeSlice); first | (refine OJ.as AS.makeSlice ?_; rintro _ _ rfl) | fail) | ((with_reducible apply iOmakeMap); first | (refine OJ.as AS.makeMap ?_; rintro _ _ ⟨_, rfl, rfl⟩) | fail) | ((with_reducible apply iOmapEntry); first | (refine OJ.as AS.mapEntry ?_; rintro _ _ ⟨_, _, rfl, rfl⟩) | fail) | ((with_reducible apply iOentryStore); first | (refine OJ.as AS.entryStore ?_; rintro _ _ rfl) | fail) | refine OJ.unboxP fun _ => ?_ | fail) | ((with_reducible apply iJ); first | refine J.seq ?_ | refine J.region ?_ | refine J.block ?_ | refine J.skip ?_ | refine J.exit ?_ | refine J.condT ?_ | refine J.condF ?_ | refine J.cond (fun _ => ?_) (fun _ => ?_) | refine J.ret (ends (i, _) ?_ rfl Ent.nil) | fail) | ((with_reducible apply iJK); first | refine JK.code ?_ | refine JK.blk ?_ | refine JK.loop ?_ | refine JK.begin ?_ | refine JK.more ?_ | fail) | ((with_reducible apply iJL); first | refine JL.use (ih ((i + j) / 2 + 1, j) ⟨by omega, by omega⟩ (by dsimp only; omega)) (by refine sub.cons (int_some (by omega)) (sub.cons (int_some (by omega)) ?_); repeat (first | exact sub.nil | refine sub.cons (by rfl) ?_)) | refine JL.use (ih (i, (i + j) / 2) ⟨by omega, by omega⟩ (by dsimp only; omega)) (by refine sub.cons (int_some (by omega)) (sub.cons (int_some (by omega)) ?_); repeat (first | exact sub.nil | refine sub.cons (by rfl) ?_)) | fail) | ((with_reducible apply iEnt); first | exact Ent.nil | ((with_reducible apply iERow); refine Ent.row ?_ ?_) | ((with_reducible apply iEBox); first | refine Ent.box ?_ ?_ | refine Ent.box2 ?_ ?_) | ((with_reducible apply iEBlk); refine Ent.blk ?_ ?_) | ((with_reducible apply iEPure); refine Ent.pure ?_ ?_) | ((with_reducible apply iERdR); first | refine Ent.rdR ?_ | refine Ent.any ?_ | fail) | refine Ent.any ?_ | with_reducible exact Ent.refl | fail) | ((with_reducible apply iEq); with_reducible rfl) | fail)
  all_goals clear ih
  all_goals first | (intro _; omega) | (intro h; cases h; done) | skip
def reaches : List Reach := [⟨9, 9, 11⟩, ⟨32, 32, 12⟩, ⟨35, 37, 6⟩, ⟨43, 43, 5⟩, ⟨44, 44, 8⟩, ⟨45, 45, 5⟩, ⟨46, 47, 8⟩, ⟨48, 57, 4⟩, ⟨58, 58, 8⟩, ⟨65, 90, 1⟩, ⟨97, 122, 1⟩, ⟨173, 173, 10⟩, ⟨768, 879, 9⟩, ⟨1488, 1514, 2⟩, ⟨1569, 1610, 3⟩, ⟨1632, 1641, 7⟩, ⟨8203, 8203, 10⟩, ⟨8205, 8205, 10⟩, ⟨8234, 8234, 14⟩, ⟨8235, 8235, 15⟩, ⟨8236, 8236, 16⟩, ⟨8237, 8237, 17⟩, ⟨8238, 8238, 18⟩, ⟨8294, 8294, 19⟩, ⟨8295, 8295, 20⟩, ⟨8296, 8296, 21⟩, ⟨8297, 8297, 22⟩, ⟨19968, 40959, 1⟩]
set_option maxRecDepth 100000 in
set_option maxHeartbeats 4000000 in
theorem reaches_c : Spec Tryz.prog 147 [] [] [] (fun u : Value => u) (fun u => [row eReach 268 u reaches]) (fun _ => True) := by
  refine Spec.mk Tryz.func147 rfl Tryz.ntmps147 rfl ?_
  intro w0 O hR hS0; clear hR hS0
  repeat' (first | ((with_reducible apply iOJ); first | ((with_reducible apply iOp); refine OJ.p ?_) | with_reducible apply OJ.nil | ((with_reducible apply iOg); first | refine OJ.guardY ?_ | refine OJ.guardN ?_ | refine OJ.guardNd ?_ | refine OJ.guardU ?_ | refine OJ.guardS (fun _ => ?_) (fun _ => ?_) | fail) | ((with_reducible apply iOstore); first | (refine OJ.as AS.store ?_; rintro _ _ rfl) | (refine OJ.as AS.storeA ?_; rintro _ _ rfl) | (refine OJ.as AS.storeAV ?_; rintro _ _ rfl) | (refine OJ.as AS.storeE ?_; rintro _ _ rfl) | (refine OJ.as AS.storeEA ?_; rintro _ _ rfl) | fail) | ((with_reducible apply iOcall); first | (refine OJ.as AS.append1 ?_; rintro _ _ rfl) | (refine OJ.as AS.append ?_; rintro _ _ rfl) | fail) | ((with_reducible apply iObox); first | (refine OJ.as AS.box1 ?_; rintro _ _ ⟨_, rfl, rfl⟩) | (refine OJ.as AS.boxA ?_; rintro _ _ ⟨_, rfl, rfl⟩) | fail) | ((with_reducible apply iOalloc); first | (refine OJ.as AS.alloc ?_; rintro _ _ ⟨_, rfl, rfl⟩) | fail) | ((with_reducible apply iObuildSlice); first | (refine OJ.as AS.buildSlice ?_; rintro _ _ ⟨_, rfl, rfl⟩) | fail) | ((with_reducible apply iOmakeSlice); first | (refine OJ.as AS.makeSlice ?_; rintro _ _ rfl) | fail) | ((with_reducible apply iOmakeMap); first | (refine OJ.as AS.makeMap ?_; rintro _ _ ⟨_, rfl, rfl⟩) | fail) | ((with_reducible apply iOmapEntry); first | (refine OJ.as AS.mapEntry ?_; rintro _ _ ⟨_, _, rfl, rfl⟩) | fail) | ((with_reducible apply iOentryStore); first | (refine OJ.as AS.entryStore ?_; rintro _ _ rfl) | fail) | refine OJ.unboxP fun _ => ?_ | fail) | ((with_reducible apply iJ); first | refine J.seq ?_ | refine J.region ?_ | refine J.block ?_ | refine J.skip ?_ | refine J.exit ?_ | refine J.condT ?_ | refine J.condF ?_ | refine J.cond (fun _ => ?_) (fun _ => ?_) | refine J.ret (ends _ trivial rfl ?_) | fail) | ((with_reducible apply iJK); first | refine JK.code ?_ | refine JK.blk ?_ | refine JK.loop ?_ | refine JK.begin ?_ | refine JK.more ?_ | fail) | ((with_reducible apply iEnt); first | exact Ent.nil | ((with_reducible apply iERow); refine Ent.row ?_ ?_) | ((with_reducible apply iEBox); first | refine Ent.box ?_ ?_ | refine Ent.box2 ?_ ?_) | ((with_reducible apply iEBlk); refine Ent.blk ?_ ?_) | ((with_reducible apply iEPure); refine Ent.pure ?_ ?_) | ((with_reducible apply iERdR); first | refine Ent.rdR ?_ | refine Ent.any ?_ | fail) | refine Ent.any ?_ | with_reducible exact Ent.refl | fail) | ((with_reducible apply iEq); with_reducible rfl) | fail)
  rfl
set_option maxRecDepth 100000 in
set_option maxHeartbeats 4000000 in
theorem find_c (v : Value) (l : List Reach) (r other : Int) (hl : l.length ≤ 1000) : Spec Tryz.prog 146 [v, .int .i64 r, .int .i64 other] [rd eReach v l] [] (fun n : Int => .int .i64 n) (fun _ => []) (fun _ => True) := by
  refine Spec.mk Tryz.func146 rfl Tryz.ntmps146 rfl ?_
  intro w0 O hR hS0
  have hr := hR _ List.mem_cons_self; clear hR hS0
  have hS := search_c v l r hl
  repeat' (first | ((with_reducible apply iOJ); first | ((with_reducible apply iOp); refine OJ.p ?_) | with_reducible apply OJ.nil | ((with_reducible apply iOg); first | refine OJ.guardY ?_ | refine OJ.guardN ?_ | refine OJ.guardNd ?_ | refine OJ.guardU ?_ | refine OJ.guardS (fun _ => ?_) (fun _ => ?_) | fail) | ((with_reducible apply iOstore); first | (refine OJ.as AS.store ?_; rintro _ _ rfl) | (refine OJ.as AS.storeA ?_; rintro _ _ rfl) | (refine OJ.as AS.storeAV ?_; rintro _ _ rfl) | (refine OJ.as AS.storeE ?_; rintro _ _ rfl) | (refine OJ.as AS.storeEA ?_; rintro _ _ rfl) | fail) | ((with_reducible apply iOcall); first | (refine OJ.as AS.append1 ?_; rintro _ _ rfl) | (refine OJ.as AS.append ?_; rintro _ _ rfl) | (refine OJ.as (AS.call0 (hS)) ?_; rotate_right; rintro _ _ ⟨y, hy, rfl, rfl⟩) | fail) | ((with_reducible apply iObox); first | (refine OJ.as AS.box1 ?_; rintro _ _ ⟨_, rfl, rfl⟩) | (refine OJ.as AS.boxA ?_; rintro _ _ ⟨_, rfl, rfl⟩) | fail) | ((with_reducible apply iOalloc); first | (refine OJ.as AS.alloc ?_; rintro _ _ ⟨_, rfl, rfl⟩) | fail) | ((with_reducible apply iObuildSlice); first | (refine OJ.as AS.buildSlice ?_; rintro _ _ ⟨_, rfl, rfl⟩) | fail) | ((with_reducible apply iOmakeSlice); first | (refine OJ.as AS.makeSlice ?_; rintro _ _ rfl) | fail) | ((with_reducible apply iOmakeMap); first | (refine OJ.as AS.makeMap ?_; rintro _ _ ⟨_, rfl, rfl⟩) | fail) | ((with_reducible apply iOmapEntry); first | (refine OJ.as AS.mapEntry ?_; rintro _ _ ⟨_, _, rfl, rfl⟩) | fail) | ((with_reducible apply iOentryStore); first | (refine OJ.as AS.entryStore ?_; rintro _ _ rfl) | fail) | refine OJ.unboxP fun _ => ?_ | fail) | ((with_reducible apply iJ); first | refine J.seq ?_ | refine J.region ?_ | refine J.block ?_ | refine J.skip ?_ | refine J.exit ?_ | refine J.condT ?_ | refine J.condF ?_ | refine J.cond (fun _ => ?_) (fun _ => ?_) | refine J.ret (ends _ trivial rfl Ent.nil) | fail) | ((with_reducible apply iJK); first | refine JK.code ?_ | refine JK.blk ?_ | refine JK.loop ?_ | refine JK.begin ?_ | refine JK.more ?_ | fail) | ((with_reducible apply iEnt); first | exact Ent.nil | ((with_reducible apply iERow); refine Ent.row ?_ ?_) | ((with_reducible apply iEBox); first | refine Ent.box ?_ ?_ | refine Ent.box2 ?_ ?_) | ((with_reducible apply iEBlk); refine Ent.blk ?_ ?_) | ((with_reducible apply iEPure); refine Ent.pure ?_ ?_) | ((with_reducible apply iERdR); first | refine Ent.rdR ?_ | refine Ent.any ?_ | fail) | refine Ent.any ?_ | with_reducible exact Ent.refl | fail) | ((with_reducible apply iEq); with_reducible rfl) | fail)
  rename_i hb
  have hlt := hy hb
  repeat' (first | ((with_reducible apply iOJ); first | ((with_reducible apply iOp); refine OJ.p ?_) | with_reducible apply OJ.nil | ((with_reducible apply iOg); first | refine OJ.guardY ?_ | refine OJ.guardN ?_ | refine OJ.guardNd ?_ | refine OJ.guardU ?_ | refine OJ.guardS (fun _ => ?_) (fun _ => ?_) | fail) | ((with_reducible apply iOstore); first | (refine OJ.as AS.store ?_; rintro _ _ rfl) | (refine OJ.as AS.storeA ?_; rintro _ _ rfl) | (refine OJ.as AS.storeAV ?_; rintro _ _ rfl) | (refine OJ.as AS.storeE ?_; rintro _ _ rfl) | (refine OJ.as AS.storeEA ?_; rintro _ _ rfl) | fail) | ((with_reducible apply iOcall); first | (refine OJ.as AS.append1 ?_; rintro _ _ rfl) | (refine OJ.as AS.append ?_; rintro _ _ rfl) | fail) | ((with_reducible apply iObox); first | (refine OJ.as AS.box1 ?_; rintro _ _ ⟨_, rfl, rfl⟩) | (refine OJ.as AS.boxA ?_; rintro _ _ ⟨_, rfl, rfl⟩) | fail) | ((with_reducible apply iOalloc); first | (refine OJ.as AS.alloc ?_; rintro _ _ ⟨_, rfl, rfl⟩) | fail) | ((with_reducible apply iObuildSlice); first | (refine OJ.as AS.buildSlice ?_; rintro _ _ ⟨_, rfl, rfl⟩) | fail) | ((with_reducible apply iOmakeSlice); first | (refine OJ.as AS.makeSlice ?_; rintro _ _ rfl) | fail) | ((with_reducible apply iOmakeMap); first | (refine OJ.as AS.makeMap ?_; rintro _ _ ⟨_, rfl, rfl⟩) | fail) | ((with_reducible apply iOmapEntry); first | (refine OJ.as AS.mapEntry ?_; rintro _ _ ⟨_, _, rfl, rfl⟩) | fail) | ((with_reducible apply iOentryStore); first | (refine OJ.as AS.entryStore ?_; rintro _ _ rfl) | fail) | refine OJ.unboxP fun _ => ?_ | fail) | ((with_reducible apply iJ); first | refine J.seq ?_ | refine J.region ?_ | refine J.block ?_ | refine J.skip ?_ | refine J.exit ?_ | refine J.condT ?_ | refine J.condF ?_ | refine J.cond (fun _ => ?_) (fun _ => ?_) | refine J.ret (ends _ trivial rfl Ent.nil) | fail) | ((with_reducible apply iJK); first | refine JK.code ?_ | refine JK.blk ?_ | refine JK.loop ?_ | refine JK.begin ?_ | refine JK.more ?_ | fail) | ((with_reducible apply iEnt); first | exact Ent.nil | ((with_reducible apply iERow); refine Ent.row ?_ ?_) | ((with_reducible apply iEBox); first | refine Ent.box ?_ ?_ | refine Ent.box2 ?_ ?_) | ((with_reducible apply iEBlk); refine Ent.blk ?_ ?_) | ((with_reducible apply iEPure); refine Ent.pure ?_ ?_) | ((with_reducible apply iERdR); first | refine Ent.rdR ?_ | refine Ent.any ?_ | fail) | refine Ent.any ?_ | with_reducible exact Ent.refl | fail) | ((with_reducible apply iEq); with_reducible rfl) | fail)
set_option maxRecDepth 100000 in
set_option maxHeartbeats 4000000 in
theorem runeBidi_c (r : Int) : Spec Tryz.prog 91 [.int .i64 r] [] [] (fun n : Int => .int .i64 n) (fun _ => []) (fun _ => True) := by
  refine Spec.mk Tryz.func91 rfl Tryz.ntmps91 rfl ?_
  intro w0 O hR hS0; clear hR hS0
  have hF := fun v => find_c v reaches r 13 (by decide)
  repeat' (first | ((with_reducible apply iOJ); first | ((with_reducible apply iOp); refine OJ.p ?_) | with_reducible apply OJ.nil | ((with_reducible apply iOg); first | refine OJ.guardY ?_ | refine OJ.guardN ?_ | refine OJ.guardNd ?_ | refine OJ.guardU ?_ | refine OJ.guardS (fun _ => ?_) (fun _ => ?_) | fail) | ((with_reducible apply iOstore); first | (refine OJ.as AS.store ?_; rintro _ _ rfl) | (refine OJ.as AS.storeA ?_; rintro _ _ rfl) | (refine OJ.as AS.storeAV ?_; rintro _ _ rfl) | (refine OJ.as AS.storeE ?_; rintro _ _ rfl) | (refine OJ.as AS.storeEA ?_; rintro _ _ rfl) | fail) | ((with_reducible apply iOcall); first | (refine OJ.as AS.append1 ?_; rintro _ _ rfl) | (refine OJ.as AS.append ?_; rintro _ _ rfl) | (refine OJ.as (AS.call1 (reaches_c)) ?_; rotate_right; rintro _ _ ⟨y, hy, rfl, rfl⟩) | (refine OJ.as (AS.call0 (hF _)) ?_; rotate_right; rintro _ _ ⟨y, hy, rfl, rfl⟩) | fail) | ((with_reducible apply iObox); first | (refine OJ.as AS.box1 ?_; rintro _ _ ⟨_, rfl, rfl⟩) | (refine OJ.as AS.boxA ?_; rintro _ _ ⟨_, rfl, rfl⟩) | fail) | ((with_reducible apply iOalloc); first | (refine OJ.as AS.alloc ?_; rintro _ _ ⟨_, rfl, rfl⟩) | fail) | ((with_reducible apply iObuildSlice); first | (refine OJ.as AS.buildSlice ?_; rintro _ _ ⟨_, rfl, rfl⟩) | fail) | ((with_reducible apply iOmakeSlice); first | (refine OJ.as AS.makeSlice ?_; rintro _ _ rfl) | fail) | ((with_reducible apply iOmakeMap); first | (refine OJ.as AS.makeMap ?_; rintro _ _ ⟨_, rfl, rfl⟩) | fail) | ((with_reducible apply iOmapEntry); first | (refine OJ.as AS.mapEntry ?_; rintro _ _ ⟨_, _, rfl, rfl⟩) | fail) | ((with_reducible apply iOentryStore); first | (refine OJ.as AS.entryStore ?_; rintro _ _ rfl) | fail) | refine OJ.unboxP fun _ => ?_ | fail) | ((with_reducible apply iJ); first | refine J.seq ?_ | refine J.region ?_ | refine J.block ?_ | refine J.skip ?_ | refine J.exit ?_ | refine J.condT ?_ | refine J.condF ?_ | refine J.cond (fun _ => ?_) (fun _ => ?_) | refine J.ret (ends _ trivial rfl Ent.nil) | fail) | ((with_reducible apply iJK); first | refine JK.code ?_ | refine JK.blk ?_ | refine JK.loop ?_ | refine JK.begin ?_ | refine JK.more ?_ | fail) | ((with_reducible apply iEnt); first | exact Ent.nil | ((with_reducible apply iERow); refine Ent.row ?_ ?_) | ((with_reducible apply iEBox); first | refine Ent.box ?_ ?_ | refine Ent.box2 ?_ ?_) | ((with_reducible apply iEBlk); refine Ent.blk ?_ ?_) | ((with_reducible apply iEPure); refine Ent.pure ?_ ?_) | ((with_reducible apply iERdR); first | refine Ent.rdR ?_ | refine Ent.any ?_ | fail) | refine Ent.any ?_ | with_reducible exact Ent.refl | fail) | ((with_reducible apply iEq); with_reducible rfl) | fail)
end Go.SL

/- impl.opens, (*paragraph).side, paragraphOf: what matters is that they end. -/
set_option linter.unusedVariables false
set_option linter.unusedSimpArgs false
namespace Go.SL
open Go.RowKit Go.Proofs
set_option maxRecDepth 100000 in
theorem opens_c (r : Int) : Spec Tryz.prog 92 [.int .i64 r] [] [] (fun b : Bool => .bool b) (fun _ => []) (fun _ => True) := by
  refine Spec.mk Tryz.func92 rfl Tryz.ntmps92 rfl ?_
  intro w0 O hR hS0; clear hR hS0
  repeat' (first | ((with_reducible apply iOJ); first | ((with_reducible apply iOp); refine OJ.p ?_) | with_reducible apply OJ.nil | ((with_reducible apply iOg); first | refine OJ.guardY ?_ | refine OJ.guardN ?_ | refine OJ.guardNd ?_ | refine OJ.guardU ?_ | refine OJ.guardS (fun _ => ?_) (fun _ => ?_) | fail) | ((with_reducible apply iOstore); first | (refine OJ.as AS.store ?_; rintro _ _ rfl) | (refine OJ.as AS.storeA ?_; rintro _ _ rfl) | (refine OJ.as AS.storeAV ?_; rintro _ _ rfl) | (refine OJ.as AS.storeE ?_; rintro _ _ rfl) | (refine OJ.as AS.storeEA ?_; rintro _ _ rfl) | fail) | ((with_reducible apply iOcall); first | (refine OJ.as AS.append1 ?_; rintro _ _ rfl) | (refine OJ.as AS.append ?_; rintro _ _ rfl) | fail) | ((with_reducible apply iObox); first | (refine OJ.as AS.box1 ?_; rintro _ _ ⟨_, rfl, rfl⟩) | (refine OJ.as AS.boxA ?_; rintro _ _ ⟨_, rfl, rfl⟩) | fail) | ((with_reducible apply iOalloc); first | (refine OJ.as AS.alloc ?_; rintro _ _ ⟨_, rfl, rfl⟩) | fail) | ((with_reducible apply iObuildSlice); first | (refine OJ.as AS.buildSlice ?_; rintro _ _ ⟨_, rfl, rfl⟩) | fail) | ((with_reducible apply iOmakeSlice); first | (refine OJ.as AS.makeSlice ?_; rintro _ _ rfl) | fail) | ((with_reducible apply iOmakeMap); first | (refine OJ.as AS.makeMap ?_; rintro _ _ ⟨_, rfl, rfl⟩) | fail) | ((with_reducible apply iOmapEntry); first | (refine OJ.as AS.mapEntry ?_; rintro _ _ ⟨_, _, rfl, rfl⟩) | fail) | ((with_reducible apply iOentryStore); first | (refine OJ.as AS.entryStore ?_; rintro _ _ rfl) | fail) | refine OJ.unboxP fun _ => ?_ | fail) | ((with_reducible apply iJ); first | refine J.seq ?_ | refine J.region ?_ | refine J.block ?_ | refine J.skip ?_ | refine J.exit ?_ | refine J.condT ?_ | refine J.condF ?_ | refine J.cond (fun _ => ?_) (fun _ => ?_) | refine J.ret (ends _ trivial rfl Ent.nil) | fail) | ((with_reducible apply iJK); first | refine JK.code ?_ | refine JK.blk ?_ | refine JK.loop ?_ | refine JK.begin ?_ | refine JK.more ?_ | fail) | ((with_reducible apply iEnt); first | exact Ent.nil | ((with_reducible apply iERow); refine Ent.row ?_ ?_) | ((with_reducible apply iEBox); first | refine Ent.box ?_ ?_ | refine Ent.box2 ?_ ?_) | ((with_reducible apply iEBlk); refine Ent.blk ?_ ?_) | ((with_reducible apply iEPure); refine Ent.pure ?_ ?_) | ((with_reducible apply iERdR); first | refine Ent.rdR ?_ | refine Ent.any ?_ | fail) | refine Ent.any ?_ | with_reducible exact Ent.refl | fail) | ((with_reducible apply iEq); with_reducible rfl) | fail)
/-- Entries lead on. -/
def leads (f : Int → Option Int) (n : Nat) : Prop := ∀ k v, f k = some v → k < v ∧ v < n
set_option maxRecDepth 100000 in
set_option maxHeartbeats 4000000 in
theorem side_c (b m1 m2 : Nat) (vr vc : Value) (cs : List Int) (f : Int → Option Int) (hf : leads f cs.length) (hl : cs.length ≤ 1000) : Spec Tryz.prog 51 [.pointer (some ⟨b, 0, none⟩), .int .i64 0, .int .i64 (cs.length : Int)]
    [holds b (.cells #[vr, vc, .map (some m1), .map (some m2)] 135 (0, 0)), rd eInt vc cs, rdM m1 f] [] (fun n : Int => .int .i64 n) (fun _ => []) (fun _ => True) := by
  refine Spec.mk Tryz.func51 rfl Tryz.ntmps51 rfl ?_
  intro w0 O hR hS0
  have hr := hR _ List.mem_cons_self
  have hr2 := hR _ (List.mem_cons_of_mem _ List.mem_cons_self)
  have hr3 := hR _ (List.mem_cons_of_mem _ (List.mem_cons_of_mem _ List.mem_cons_self)); clear hR hS0
  repeat' (first | ((with_reducible apply iOJ); first | ((with_reducible apply iOp); refine OJ.p ?_) | with_reducible apply OJ.nil | ((with_reducible apply iOg); first | refine OJ.guardY ?_ | refine OJ.guardN ?_ | refine OJ.guardNd ?_ | refine OJ.guardU ?_ | refine OJ.guardS (fun _ => ?_) (fun _ => ?_) | fail) | ((with_reducible apply iOstore); first | (refine OJ.as AS.store ?_; rintro _ _ rfl) | (refine OJ.as AS.storeA ?_; rintro _ _ rfl) | (refine OJ.as AS.storeAV ?_; rintro _ _ rfl) | (refine OJ.as AS.storeE ?_; rintro _ _ rfl) | (refine OJ.as AS.storeEA ?_; rintro _ _ rfl) | fail) | ((with_reducible apply iOcall); first | (refine OJ.as AS.append1 ?_; rintro _ _ rfl) | (refine OJ.as AS.append ?_; rintro _ _ rfl) | fail) | ((with_reducible apply iObox); first | (refine OJ.as AS.box1 ?_; rintro _ _ ⟨_, rfl, rfl⟩) | (refine OJ.as AS.boxA ?_; rintro _ _ ⟨_, rfl, rfl⟩) | fail) | ((with_reducible apply iOalloc); first | (refine OJ.as AS.alloc ?_; rintro _ _ ⟨_, rfl, rfl⟩) | fail) | ((with_reducible apply iObuildSlice); first | (refine OJ.as AS.buildSlice ?_; rintro _ _ ⟨_, rfl, rfl⟩) | fail) | ((with_reducible apply iOmakeSlice); first | (refine OJ.as AS.makeSlice ?_; rintro _ _ rfl) | fail) | ((with_reducible apply iOmakeMap); first | (refine OJ.as AS.makeMap ?_; rintro _ _ ⟨_, rfl, rfl⟩) | fail) | ((with_reducible apply iOmapEntry); first | (refine OJ.as AS.mapEntry ?_; rintro _ _ ⟨_, _, rfl, rfl⟩) | fail) | ((with_reducible apply iOentryStore); first | (refine OJ.as AS.entryStore ?_; rintro _ _ rfl) | fail) | refine OJ.unboxP fun _ => ?_ | fail) | ((with_reducible apply iJ); first | refine J.seq ?_ | refine J.region ?_ | refine J.block ?_ | refine J.skip ?_ | refine J.exit ?_ | refine J.condT ?_ | refine J.condF ?_ | refine J.cond (fun _ => ?_) (fun _ => ?_) | fail) | ((with_reducible apply iJK); first | refine JK.code ?_ | refine JK.blk ?_ | refine JK.loop ?_ | refine JK.begin ?_ | refine JK.more ?_ | fail) | ((with_reducible apply iEnt); first | exact Ent.nil | ((with_reducible apply iERow); refine Ent.row ?_ ?_) | ((with_reducible apply iEBox); first | refine Ent.box ?_ ?_ | refine Ent.box2 ?_ ?_) | ((with_reducible apply iEBlk); refine Ent.blk ?_ ?_) | ((with_reducible apply iEPure); refine Ent.pure ?_ ?_) | ((with_reducible apply iERdR); first | refine Ent.rdR ?_ | refine Ent.any ?_ | fail) | refine Ent.any ?_ | with_reducible exact Ent.refl | fail) | ((with_reducible apply iEq); with_reducible rfl) | fail)
  refine J.loopI (fun i : Nat => i ≤ cs.length) (fun i => cs.length - i) (fun i => [(7, .int .i64 (i : Int)), (0, .pointer (some ⟨b, 0, none⟩)), (2, .int .i64 (cs.length : Int))]) (fun _ => []) 0 (Nat.zero_le _) ?_
  intro i hi ih
  cases hm : f (i : Int) with
  | none =>
    repeat' (first | ((with_reducible apply iOJ); first | ((with_reducible apply iOp); refine OJ.p ?_) | with_reducible apply OJ.nil | ((with_reducible apply iOg); first | refine OJ.guardY ?_ | refine OJ.guardN ?_ | refine OJ.guardNd ?_ | refine OJ.guardU ?_ | refine OJ.guardS (fun _ => ?_) (fun _ => ?_) | fail) | ((with_reducible apply iOstore); first | (refine OJ.as AS.store ?_; rintro _ _ rfl) | (refine OJ.as AS.storeA ?_; rintro _ _ rfl) | (refine OJ.as AS.storeAV ?_; rintro _ _ rfl) | (refine OJ.as AS.storeE ?_; rintro _ _ rfl) | (refine OJ.as AS.storeEA ?_; rintro _ _ rfl) | fail) | ((with_reducible apply iOcall); first | (refine OJ.as AS.append1 ?_; rintro _ _ rfl) | (refine OJ.as AS.append ?_; rintro _ _ rfl) | (refine OJ.as (AS.call0 (opens_c _)) ?_; rotate_right; rintro _ _ ⟨y, hy, rfl, rfl⟩) | fail) | ((with_reducible apply iObox); first | (refine OJ.as AS.box1 ?_; rintro _ _ ⟨_, rfl, rfl⟩) | (refine OJ.as AS.boxA ?_; rintro _ _ ⟨_, rfl, rfl⟩) | fail) | ((with_reducible apply iOalloc); first | (refine OJ.as AS.alloc ?_; rintro _ _ ⟨_, rfl, rfl⟩) | fail) | ((with_reducible apply iObuildSlice); first | (refine OJ.as AS.buildSlice ?_; rintro _ _ ⟨_, rfl, rfl⟩) | fail) | ((with_reducible apply iOmakeSlice); first | (refine OJ.as AS.makeSlice ?_; rintro _ _ rfl) | fail) | ((with_reducible apply iOmakeMap); first | (refine OJ.as AS.makeMap ?_; rintro _ _ ⟨_, rfl, rfl⟩) | fail) | ((with_reducible apply iOmapEntry); first | (refine OJ.as AS.mapEntry ?_; rintro _ _ ⟨_, _, rfl, rfl⟩) | fail) | ((with_reducible apply iOentryStore); first | (refine OJ.as AS.entryStore ?_; rintro _ _ rfl) | fail) | refine OJ.unboxP fun _ => ?_ | fail) | ((with_reducible apply iJ); first | refine J.seq ?_ | refine J.region ?_ | refine J.block ?_ | refine J.skip ?_ | refine J.exit ?_ | refine J.condT ?_ | refine J.condF ?_ | refine J.cond (fun _ => ?_) (fun _ => ?_) | refine J.ret (ends _ trivial rfl Ent.nil) | fail) | ((with_reducible apply iJK); first | refine JK.code ?_ | refine JK.blk ?_ | refine JK.loop ?_ | refine JK.begin ?_ | refine JK.more ?_ | fail) | ((with_reducible apply iJL); first | refine JL.use (ih (i + 1) (by omega) (by omega)) (by (repeat (first | exact sub.nil | refine sub.cons (by rfl) ?_)); first | done | fail) | fail) | ((with_reducible apply iEnt); first | exact Ent.nil | ((with_reducible apply iERow); refine Ent.row ?_ ?_) | ((with_reducible apply iEBox); first | refine Ent.box ?_ ?_ | refine Ent.box2 ?_ ?_) | ((with_reducible apply iEBlk); refine Ent.blk ?_ ?_) | ((with_reducible apply iEPure); refine Ent.pure ?_ ?_) | ((with_reducible apply iERdR); first | refine Ent.rdR ?_ | refine Ent.any ?_ | fail) | refine Ent.any ?_ | with_reducible exact Ent.refl | fail) | ((with_reducible apply iEq); with_reducible rfl) | fail)
    all_goals (exfalso; rename_i hx; rw [hm] at hx; cases hx)
  | some n =>
    have hn := hf _ _ hm
    have hgd : (f (i : Int)).getD 0 = n := by rw [hm]; rfl
    repeat' (first | ((with_reducible apply iOJ); first | ((with_reducible apply iOp); refine OJ.p ?_) | with_reducible apply OJ.nil | ((with_reducible apply iOg); first | refine OJ.guardY ?_ | refine OJ.guardN ?_ | refine OJ.guardNd ?_ | refine OJ.guardU ?_ | refine OJ.guardS (fun _ => ?_) (fun _ => ?_) | fail) | ((with_reducible apply iOstore); first | (refine OJ.as AS.store ?_; rintro _ _ rfl) | (refine OJ.as AS.storeA ?_; rintro _ _ rfl) | (refine OJ.as AS.storeAV ?_; rintro _ _ rfl) | (refine OJ.as AS.storeE ?_; rintro _ _ rfl) | (refine OJ.as AS.storeEA ?_; rintro _ _ rfl) | fail) | ((with_reducible apply iOcall); first | (refine OJ.as AS.append1 ?_; rintro _ _ rfl) | (refine OJ.as AS.append ?_; rintro _ _ rfl) | (refine OJ.as (AS.call0 (opens_c _)) ?_; rotate_right; rintro _ _ ⟨y, hy, rfl, rfl⟩) | fail) | ((with_reducible apply iObox); first | (refine OJ.as AS.box1 ?_; rintro _ _ ⟨_, rfl, rfl⟩) | (refine OJ.as AS.boxA ?_; rintro _ _ ⟨_, rfl, rfl⟩) | fail) | ((with_reducible apply iOalloc); first | (refine OJ.as AS.alloc ?_; rintro _ _ ⟨_, rfl, rfl⟩) | fail) | ((with_reducible apply iObuildSlice); first | (refine OJ.as AS.buildSlice ?_; rintro _ _ ⟨_, rfl, rfl⟩) | fail) | ((with_reducible apply iOmakeSlice); first | (refine OJ.as AS.makeSlice ?_; rintro _ _ rfl) | fail) | ((with_reducible apply iOmakeMap); first | (refine OJ.as AS.makeMap ?_; rintro _ _ ⟨_, rfl, rfl⟩) | fail) | ((with_reducible apply iOmapEntry); first | (refine OJ.as AS.mapEntry ?_; rintro _ _ ⟨_, _, rfl, rfl⟩) | fail) | ((with_reducible apply iOentryStore); first | (refine OJ.as AS.entryStore ?_; rintro _ _ rfl) | fail) | refine OJ.unboxP fun _ => ?_ | fail) | ((with_reducible apply iJ); first | refine J.seq ?_ | refine J.region ?_ | refine J.block ?_ | refine J.skip ?_ | refine J.exit ?_ | refine J.condT ?_ | refine J.condF ?_ | refine J.cond (fun _ => ?_) (fun _ => ?_) | refine J.ret (ends _ trivial rfl Ent.nil) | fail) | ((with_reducible apply iJK); first | refine JK.code ?_ | refine JK.blk ?_ | refine JK.loop ?_ | refine JK.begin ?_ | refine JK.more ?_ | fail) | ((with_reducible apply iJL); first | refine JL.use (ih (i + 1) (by omega) (by omega)) (by (repeat (first | exact sub.nil | refine sub.cons (by rfl) ?_)); first | done | fail) | refine JL.use (ih (n + 1).toNat (by omega) (by omega)) (by refine sub.cons (int_some (by omega)) ?_; repeat (first | exact sub.nil | refine sub.cons (by rfl) ?_)) | fail) | ((with_reducible apply iEnt); first | exact Ent.nil | ((with_reducible apply iERow); refine Ent.row ?_ ?_) | ((with_reducible apply iEBox); first | refine Ent.box ?_ ?_ | refine Ent.box2 ?_ ?_) | ((with_reducible apply iEBlk); refine Ent.blk ?_ ?_) | ((with_reducible apply iEPure); refine Ent.pure ?_ ?_) | ((with_reducible apply iERdR); first | refine Ent.rdR ?_ | refine Ent.any ?_ | fail) | refine Ent.any ?_ | with_reducible exact Ent.refl | fail) | ((with_reducible apply iEq); with_reducible rfl) | fail)
    all_goals skip
end Go.SL

/- impl.paragraphOf. -/
set_option linter.unusedVariables false
set_option linter.unusedSimpArgs false
namespace Go.SL
open Go.RowKit Go.Proofs
structure Pg where
  b : Nat
  m1 : Nat
  m2 : Nat
  vc : Value
  cs : List Int
  f : Int → Option Int
  g : Int → Option Int
structure PgL where
  i : Nat
  uc : Value
  cs : List Int
  uo : Value
  os : List Int
  f : Int → Option Int
  g : Int → Option Int
theorem leads_none (n : Nat) : leads (fun _ => none) n := fun k v h => by cases h
theorem leads_more {f : Int → Option Int} {n : Nat} (h : leads f n) : leads f (n + 1) := fun k v e => by
  have := h k v e
  omega
theorem leads_upd {f : Int → Option Int} {n : Nat} {a : Int} (h : leads f n) (ha : a < n) : leads (updF f a n) (n + 1) := fun k v e => by
  unfold updF at e
  split at e
  · injection e with e
    omega
  · have := h k v e
    omega
set_option maxRecDepth 100000 in
set_option maxHeartbeats 8000000 in
theorem paragraphOf_c (vr : Value) (xs : List Int) (hl : xs.length ≤ 1000) : Spec Tryz.prog 50 [vr] [rd eInt vr xs] [] (fun q : Pg => .pointer (some ⟨q.b, 0, none⟩))
    (fun q => [blk q.b (.cells #[vr, q.vc, .map (some q.m1), .map (some q.m2)] 135 (0, 0)), row eInt 3 q.vc q.cs, mapF q.m1 q.f]) (fun q => q.cs.length = xs.length ∧ leads q.f q.cs.length) := by
  refine Spec.mk Tryz.func50 rfl Tryz.ntmps50 rfl ?_
  intro w0 O hR hS0
  have hr := hR _ List.mem_cons_self; clear hR hS0
  refine J.know (R := rd eInt vr xs) fun w hw => ?_
  obtain ⟨A, cp, rfl, _, _, hw⟩ := hw
  clear hw w
  repeat' (first | ((with_reducible apply iOJ); first | ((with_reducible apply iOp); refine OJ.p ?_) | with_reducible apply OJ.nil | ((with_reducible apply iOg); first | refine OJ.guardY ?_ | refine OJ.guardN ?_ | refine OJ.guardNd ?_ | refine OJ.guardU ?_ | refine OJ.guardS (fun _ => ?_) (fun _ => ?_) | fail) | ((with_reducible apply iOstore); first | (refine OJ.as AS.store ?_; rintro _ _ rfl) | (refine OJ.as AS.storeA ?_; rintro _ _ rfl) | (refine OJ.as AS.storeAV ?_; rintro _ _ rfl) | (refine OJ.as AS.storeE ?_; rintro _ _ rfl) | (refine OJ.as AS.storeEA ?_; rintro _ _ rfl) | fail) | ((with_reducible apply iOcall); first | (refine OJ.as AS.append1 ?_; rintro _ _ rfl) | (refine OJ.as AS.append ?_; rintro _ _ rfl) | fail) | ((with_reducible apply iObox); first | (refine OJ.as AS.box1 ?_; rintro _ _ ⟨_, rfl, rfl⟩) | (refine OJ.as AS.boxA ?_; rintro _ _ ⟨_, rfl, rfl⟩) | fail) | ((with_reducible apply iOalloc); first | (refine OJ.as AS.alloc ?_; rintro _ _ ⟨_, rfl, rfl⟩) | fail) | ((with_reducible apply iObuildSlice); first | (refine OJ.as AS.buildSlice ?_; rintro _ _ ⟨_, rfl, rfl⟩) | fail) | ((with_reducible apply iOmakeSlice); first | (refine OJ.as AS.makeSlice ?_; rintro _ _ rfl) | fail) | ((with_reducible apply iOmakeMap); first | (refine OJ.as AS.makeMap ?_; rintro _ _ ⟨_, rfl, rfl⟩) | fail) | ((with_reducible apply iOmapEntry); first | (refine OJ.as AS.mapEntry ?_; rintro _ _ ⟨_, _, rfl, rfl⟩) | fail) | ((with_reducible apply iOentryStore); first | (refine OJ.as AS.entryStore ?_; rintro _ _ rfl) | fail) | refine OJ.unboxP fun _ => ?_ | fail) | ((with_reducible apply iJ); first | refine J.seq ?_ | refine J.region ?_ | refine J.block ?_ | refine J.skip ?_ | refine J.exit ?_ | refine J.condT ?_ | refine J.condF ?_ | refine J.cond (fun _ => ?_) (fun _ => ?_) | fail) | ((with_reducible apply iJK); first | refine JK.code ?_ | refine JK.blk ?_ | refine JK.loop ?_ | refine JK.begin ?_ | refine JK.more ?_ | fail) | ((with_reducible apply iEnt); first | exact Ent.nil | ((with_reducible apply iERow); refine Ent.row ?_ ?_) | ((with_reducible apply iEBox); first | refine Ent.box ?_ ?_ | refine Ent.box2 ?_ ?_) | ((with_reducible apply iEBlk); refine Ent.blk ?_ ?_) | ((with_reducible apply iEPure); refine Ent.pure ?_ ?_) | ((with_reducible apply iERdR); first | refine Ent.rdR ?_ | refine Ent.any ?_ | fail) | refine Ent.any ?_ | with_reducible exact Ent.refl | fail) | ((with_reducible apply iEq); with_reducible rfl) | fail)
  rename_i m1 m2 b
  refine J.loopI (fun q : PgL => q.i ≤ xs.length ∧ q.cs.length = q.i ∧ q.os.length ≤ q.i ∧ (∀ o ∈ q.os, o < q.i) ∧ leads q.f q.i) (fun q => xs.length - q.i) (fun q => [(16, .int .i64 (q.i : Int)), (15, .int .i64 xs.length), (14, .slice A xs.length cp), (3, .pointer (some ⟨b, 0, none⟩)), (4, q.uo)])
    (fun q => [blk b (.cells #[.slice A xs.length cp, q.uc, .map (some m1), .map (some m2)] 135 (0, 0)), row eInt 3 q.uc q.cs, row eInt 3 q.uo q.os, mapF m1 q.f, mapF m2 q.g]) ⟨0, .slice none 0 0, [], .slice none 0 0, [], fun _ => none, fun _ => none⟩ ⟨Nat.zero_le _, rfl, Nat.le_refl _, fun _ h => absurd h List.not_mem_nil, leads_none _⟩ ?_
  rintro ⟨i, uc, cs, uo, os, f, g⟩ ⟨hi, hc, hol, ho, hf⟩ ih
  dsimp only at hi hc hol ho hf ih ⊢
  repeat' (first | ((with_reducible apply iOJ); first | ((with_reducible apply iOp); refine OJ.p ?_) | with_reducible apply OJ.nil | ((with_reducible apply iOg); first | refine OJ.guardY ?_ | refine OJ.guardN ?_ | refine OJ.guardNd ?_ | refine OJ.guardU ?_ | refine OJ.guardS (fun _ => ?_) (fun _ => ?_) | fail) | ((with_reducible apply iOstore); first | (refine OJ.as AS.store ?_; rintro _ _ rfl) | (refine OJ.as AS.storeA ?_; rintro _ _ rfl) | (refine OJ.as AS.storeAV ?_; rintro _ _ rfl) | (refine OJ.as AS.storeE ?_; rintro _ _ rfl) | (refine OJ.as AS.storeEA ?_; rintro _ _ rfl) | fail) | ((with_reducible apply iOcall); first | (refine OJ.as AS.append1 ?_; rintro _ _ rfl) | (refine OJ.as AS.append ?_; rintro _ _ rfl) | (refine OJ.as (AS.call0 (runeBidi_c _)) ?_; rotate_right; rintro _ _ ⟨y, hy, rfl, rfl⟩) | (refine OJ.as (AS.call0 (opens_c _)) ?_; rotate_right; rintro _ _ ⟨y, hy, rfl, rfl⟩) | fail) | ((with_reducible apply iObox); first | (refine OJ.as AS.box1 ?_; rintro _ _ ⟨_, rfl, rfl⟩) | (refine OJ.as AS.boxA ?_; rintro _ _ ⟨_, rfl, rfl⟩) | fail) | ((with_reducible apply iOalloc); first | (refine OJ.as AS.alloc ?_; rintro _ _ ⟨_, rfl, rfl⟩) | fail) | ((with_reducible apply iObuildSlice); first | (refine OJ.as AS.buildSlice ?_; rintro _ _ ⟨_, rfl, rfl⟩) | fail) | ((with_reducible apply iOmakeSlice); first | (refine OJ.as AS.makeSlice ?_; rintro _ _ rfl) | fail) | ((with_reducible apply iOmakeMap); first | (refine OJ.as AS.makeMap ?_; rintro _ _ ⟨_, rfl, rfl⟩) | fail) | ((with_reducible apply iOmapEntry); first | (refine OJ.as AS.mapEntry ?_; rintro _ _ ⟨_, _, rfl, rfl⟩) | fail) | ((with_reducible apply iOentryStore); first | (refine OJ.as AS.entryStore ?_; rintro _ _ rfl) | fail) | refine OJ.unboxP fun _ => ?_ | fail) | ((with_reducible apply iJ); first | refine J.seq ?_ | refine J.region ?_ | refine J.block ?_ | refine J.skip ?_ | refine J.exit ?_ | refine J.condT ?_ | refine J.condF ?_ | refine J.cond (fun _ => ?_) (fun _ => ?_) | refine J.draw ?_ | refine J.ret (ends ⟨b, m1, m2, uc, cs, f, g⟩ ⟨by dsimp only; omega, by dsimp only; rw [hc]; exact hf⟩ rfl ?_) | fail) | ((with_reducible apply iJK); first | refine JK.code ?_ | refine JK.blk ?_ | refine JK.loop ?_ | refine JK.begin ?_ | refine JK.more ?_ | fail) | ((with_reducible apply iAJ); first | refine AJ.rebase ?_ | refine AJ.regain ?_ | refine AJ.take ?_ | refine AJ.takeY ?_ | refine AJ.takeN ?_ | refine AJ.takeNd ?_ | refine AJ.takeNS ?_ | refine AJ.takeU ?_ | refine AJ.sel ?_ | refine AJ.selY ?_ | refine AJ.sel2 ?_ ?_ | refine AJ.split (fun _ => ?_) (fun _ => ?_) | refine AJ.done ?_ | fail) | ((with_reducible apply iAO); first | ((with_reducible apply iAstore); first | (refine AO.as AS.store ?_; rotate_right; rintro _ _ rfl; refine AO.step ?_) | (refine AO.as AS.storeA ?_; rotate_right; rintro _ _ rfl; refine AO.step ?_) | (refine AO.as AS.storeAV ?_; rotate_right; rintro _ _ rfl; refine AO.step ?_) | (refine AO.as AS.storeE ?_; rotate_right; rintro _ _ rfl; refine AO.step ?_) | (refine AO.as AS.storeEA ?_; rotate_right; rintro _ _ rfl; refine AO.step ?_) | fail) | ((with_reducible apply iAcall); first | (refine AO.as AS.append1 ?_; rotate_right; rintro _ _ rfl; refine AO.step ?_) | (refine AO.as AS.append ?_; rotate_right; rintro _ _ rfl; refine AO.step ?_) | fail) | ((with_reducible apply iAbox); first | (refine AO.as AS.box1 ?_; rotate_right; rintro _ _ ⟨_, rfl, rfl⟩; refine AO.step ?_) | (refine AO.as AS.boxA ?_; rotate_right; rintro _ _ ⟨_, rfl, rfl⟩; refine AO.step ?_) | fail) | ((with_reducible apply iAalloc); first | (refine AO.as AS.alloc ?_; rotate_right; rintro _ _ ⟨_, rfl, rfl⟩; refine AO.step ?_) | fail) | ((with_reducible apply iAbuildSlice); first | (refine AO.as AS.buildSlice ?_; rotate_right; rintro _ _ ⟨_, rfl, rfl⟩; refine AO.step ?_) | fail) | ((with_reducible apply iAmakeSlice); first | (refine AO.as AS.makeSlice ?_; rotate_right; rintro _ _ rfl; refine AO.step ?_) | fail) | ((with_reducible apply iAmakeMap); first | (refine AO.as AS.makeMap ?_; rotate_right; rintro _ _ ⟨_, rfl, rfl⟩; refine AO.step ?_) | fail) | ((with_reducible apply iAmapEntry); first | (refine AO.as AS.mapEntry ?_; rotate_right; rintro _ _ ⟨_, _, rfl, rfl⟩; refine AO.step ?_) | fail) | ((with_reducible apply iAentryStore); first | (refine AO.as AS.entryStore ?_; rotate_right; rintro _ _ rfl; refine AO.step ?_) | fail) | fail) | ((with_reducible apply iEnt); first | exact Ent.nil | ((with_reducible apply iERow); refine Ent.row ?_ ?_) | ((with_reducible apply iEBox); first | refine Ent.box ?_ ?_ | refine Ent.box2 ?_ ?_) | ((with_reducible apply iEBlk); refine Ent.blk ?_ ?_) | ((with_reducible apply iEPure); refine Ent.pure ?_ ?_) | ((with_reducible apply iERdR); first | refine Ent.rdR ?_ | refine Ent.any ?_ | fail) | refine Ent.any ?_ | with_reducible exact Ent.refl | fail) | ((with_reducible apply iEq); with_reducible rfl) | fail)
  · rename_i hx c0 _ _ vc _ _ _ vo
    exact JL.useL (ih ⟨i + 1, vc, cs ++ [c0], vo, os ++ [(i : Int)], f, g⟩ ⟨by dsimp only; omega, by dsimp only; rw [List.length_append, hc]; rfl, by dsimp only; rw [List.length_append]; simp only [List.length_cons, List.length_nil]; omega, fun o h => by
      dsimp only at h ⊢
      rcases List.mem_append.1 h with h | h
      · have := ho o h; omega
      · rw [List.mem_singleton.1 h]; omega, leads_more hf⟩ (by dsimp only; omega)) (xENT)
  · rename_i hx c0 _ _ vc _ _ h22 hlast _ _ _ _ _ _
    have hlt : ((os.length : Int) - 1).toNat < os.length := by omega
    have hmem : os.getD ((os.length : Int) - 1).toNat eInt.d < i := by
      rw [List.getD_eq_getElem?_getD, List.getElem?_eq_getElem hlt]
      exact ho _ (List.getElem_mem hlt)
    exact JL.useL (ih ⟨i + 1, vc, cs ++ [c0], sliceV 1 uo 0 ((os.length : Int) - 1).toNat, os.take ((os.length : Int) - 1).toNat, updF f (os.getD ((os.length : Int) - 1).toNat eInt.d) i, updF g i (os.getD ((os.length : Int) - 1).toNat eInt.d)⟩
      ⟨by dsimp only; omega, by dsimp only; rw [List.length_append, hc]; rfl, by dsimp only; rw [List.length_take]; omega, fun o h => by
        dsimp only at h ⊢
        have := ho o (List.mem_of_mem_take h)
        omega, leads_upd hf hmem⟩ (by dsimp only; omega))
      (Ent.pick (xPK) (Ent.pick (xPK) (Ent.pick (Pick.rowCut (xPK) (by omega)) (Ent.pick (xPK) (Ent.pick (xPK) Ent.nil)))))
  · rename_i hx c0 _ _ vc _ _ _ _
    exact JL.useL (ih ⟨i + 1, vc, cs ++ [c0], uo, os, f, g⟩ ⟨by dsimp only; omega, by dsimp only; rw [List.length_append, hc]; rfl, by dsimp only; omega, fun o h => by
      have := ho o h
      dsimp only
      omega, leads_more hf⟩ (by dsimp only; omega)) (xENT)
  · rename_i hx c0 _ _ vc _ _ _
    exact JL.useL (ih ⟨i + 1, vc, cs ++ [c0], uo, os, f, g⟩ ⟨by dsimp only; omega, by dsimp only; rw [List.length_append, hc]; rfl, by dsimp only; omega, fun o h => by
      have := ho o h
      dsimp only
      omega, leads_more hf⟩ (by dsimp only; omega)) (xENT)
end Go.SL

/- trial -/
set_option linter.unusedVariables false
set_option linter.unusedSimpArgs false
namespace Go.SL
open Go.RowKit Go.Proofs
def inR (n lo hi : Int) : Bool := decide (lo ≤ n) && decide (n ≤ hi)
set_option maxRecDepth 100000 in
theorem l1In_c (a b c : Int) : Spec Tryz.prog 27 [.int .i64 a, .int .i64 b, .int .i64 c] [] [] (fun _ : Unit => .bool (inR a b c)) (fun _ => []) (fun _ => True) := by
  refine Spec.mk Tryz.func27 rfl Tryz.ntmps27 rfl ?_
  intro w0 O hR hS0; clear hR hS0
  repeat' (first | ((with_reducible apply iOJ); first | ((with_reducible apply iOp); refine OJ.p ?_) | with_reducible apply OJ.nil | ((with_reducible apply iOg); first | refine OJ.guardY ?_ | refine OJ.guardN ?_ | refine OJ.guardNd ?_ | refine OJ.guardU ?_ | refine OJ.guardS (fun _ => ?_) (fun _ => ?_) | fail) | ((with_reducible apply iOstore); first | (refine OJ.as AS.store ?_; rintro _ _ rfl) | (refine OJ.as AS.storeA ?_; rintro _ _ rfl) | (refine OJ.as AS.storeAV ?_; rintro _ _ rfl) | (refine OJ.as AS.storeE ?_; rintro _ _ rfl) | (refine OJ.as AS.storeEA ?_; rintro _ _ rfl) | fail) | ((with_reducible apply iOcall); first | (refine OJ.as AS.append1 ?_; rintro _ _ rfl) | (refine OJ.as AS.append ?_; rintro _ _ rfl) | fail) | ((with_reducible apply iObox); first | (refine OJ.as AS.box1 ?_; rintro _ _ ⟨_, rfl, rfl⟩) | (refine OJ.as AS.boxA ?_; rintro _ _ ⟨_, rfl, rfl⟩) | fail) | ((with_reducible apply iOalloc); first | (refine OJ.as AS.alloc ?_; rintro _ _ ⟨_, rfl, rfl⟩) | fail) | ((with_reducible apply iObuildSlice); first | (refine OJ.as AS.buildSlice ?_; rintro _ _ ⟨_, rfl, rfl⟩) | fail) | ((with_reducible apply iOmakeSlice); first | (refine OJ.as AS.makeSlice ?_; rintro _ _ rfl) | fail) | ((with_reducible apply iOmakeMap); first | (refine OJ.as AS.makeMap ?_; rintro _ _ ⟨_, rfl, rfl⟩) | fail) | ((with_reducible apply iOmapEntry); first | (refine OJ.as AS.mapEntry ?_; rintro _ _ ⟨_, _, rfl, rfl⟩) | fail) | ((with_reducible apply iOentryStore); first | (refine OJ.as AS.entryStore ?_; rintro _ _ rfl) | fail) | refine OJ.unboxP fun _ => ?_ | fail) | ((with_reducible apply iJ); first | refine J.seq ?_ | refine J.region ?_ | refine J.block ?_ | refine J.skip ?_ | refine J.exit ?_ | refine J.condT ?_ | refine J.condF ?_ | refine J.cond (fun _ => ?_) (fun _ => ?_) | fail) | ((with_reducible apply iJK); first | refine JK.code ?_ | refine JK.blk ?_ | refine JK.loop ?_ | refine JK.begin ?_ | refine JK.more ?_ | fail) | ((with_reducible apply iEnt); first | exact Ent.nil | ((with_reducible apply iERow); refine Ent.row ?_ ?_) | ((with_reducible apply iEBox); first | refine Ent.box ?_ ?_ | refine Ent.box2 ?_ ?_) | ((with_reducible apply iEBlk); refine Ent.blk ?_ ?_) | ((with_reducible apply iEPure); refine Ent.pure ?_ ?_) | ((with_reducible apply iERdR); first | refine Ent.rdR ?_ | refine Ent.any ?_ | fail) | refine Ent.any ?_ | with_reducible exact Ent.refl | fail) | ((with_reducible apply iEq); with_reducible rfl) | fail)
  all_goals refine J.ret (ends () trivial ?_ Ent.nil)
  all_goals exact congrArg Value.bool (by simp [inR, *])
end Go.SL

/- spec: l1Size, l1Lead, l1Next, Utf8Get. -/
set_option linter.unusedVariables false
set_option linter.unusedSimpArgs false
namespace Go.SL
open Go.RowKit Go.Proofs
theorem inR_t {n lo hi : Int} (h : inR n lo hi = true) : lo ≤ n ∧ n ≤ hi := by simpa [inR] using h
theorem inR_f {n lo hi : Int} (h : inR n lo hi = false) : ¬ (lo ≤ n ∧ n ≤ hi) := fun hh => by simp [inR, hh] at h
def rsize (r : Int) : Int := if 0 ≤ r ∧ r ≤ 127 then 1 else if 128 ≤ r ∧ r ≤ 2047 then 2 else if 55296 ≤ r ∧ r ≤ 57343 then 0 else if 2048 ≤ r ∧ r ≤ 65535 then 3 else if 65536 ≤ r ∧ r ≤ 1114111 then 4 else 0
theorem int_eq {k : IntKind} {a b : Int} (h : a = b) : Value.int k a = Value.int k b := h ▸ rfl
set_option maxRecDepth 100000 in
set_option maxHeartbeats 4000000 in
theorem l1Size_c (r : Int) : Spec Tryz.prog 88 [.int .i64 r] [] [] (fun _ : Unit => .int .i64 (rsize r)) (fun _ => []) (fun _ => True) := by
  refine Spec.mk Tryz.func88 rfl Tryz.ntmps88 rfl ?_
  intro w0 O hR hS0; clear hR hS0
  repeat' (first | ((with_reducible apply iOJ); first | ((with_reducible apply iOp); refine OJ.p ?_) | with_reducible apply OJ.nil | ((with_reducible apply iOg); first | refine OJ.guardY ?_ | refine OJ.guardN ?_ | refine OJ.guardNd ?_ | refine OJ.guardU ?_ | refine OJ.guardS (fun _ => ?_) (fun _ => ?_) | fail) | ((with_reducible apply iOstore); first | (refine OJ.as AS.store ?_; rintro _ _ rfl) | (refine OJ.as AS.storeA ?_; rintro _ _ rfl) | (refine OJ.as AS.storeAV ?_; rintro _ _ rfl) | (refine OJ.as AS.storeE ?_; rintro _ _ rfl) | (refine OJ.as AS.storeEA ?_; rintro _ _ rfl) | fail) | ((with_reducible apply iOcall); first | (refine OJ.as AS.append1 ?_; rintro _ _ rfl) | (refine OJ.as AS.append ?_; rintro _ _ rfl) | (refine OJ.as (AS.call0 (l1In_c _ _ _)) ?_; rotate_right; rintro _ _ ⟨y, hy, rfl, rfl⟩) | fail) | ((with_reducible apply iObox); first | (refine OJ.as AS.box1 ?_; rintro _ _ ⟨_, rfl, rfl⟩) | (refine OJ.as AS.boxA ?_; rintro _ _ ⟨_, rfl, rfl⟩) | fail) | ((with_reducible apply iOalloc); first | (refine OJ.as AS.alloc ?_; rintro _ _ ⟨_, rfl, rfl⟩) | fail) | ((with_reducible apply iObuildSlice); first | (refine OJ.as AS.buildSlice ?_; rintro _ _ ⟨_, rfl, rfl⟩) | fail) | ((with_reducible apply iOmakeSlice); first | (refine OJ.as AS.makeSlice ?_; rintro _ _ rfl) | fail) | ((with_reducible apply iOmakeMap); first | (refine OJ.as AS.makeMap ?_; rintro _ _ ⟨_, rfl, rfl⟩) | fail) | ((with_reducible apply iOmapEntry); first | (refine OJ.as AS.mapEntry ?_; rintro _ _ ⟨_, _, rfl, rfl⟩) | fail) | ((with_reducible apply iOentryStore); first | (refine OJ.as AS.entryStore ?_; rintro _ _ rfl) | fail) | refine OJ.unboxP fun _ => ?_ | fail) | ((with_reducible apply iJ); first | refine J.seq ?_ | refine J.region ?_ | refine J.block ?_ | refine J.skip ?_ | refine J.exit ?_ | refine J.condT ?_ | refine J.condF ?_ | refine J.cond (fun _ => ?_) (fun _ => ?_) | refine J.ret (ends () trivial ?_ Ent.nil) | fail) | ((with_reducible apply iJK); first | refine JK.code ?_ | refine JK.blk ?_ | refine JK.loop ?_ | refine JK.begin ?_ | refine JK.more ?_ | fail) | ((with_reducible apply iEnt); first | exact Ent.nil | ((with_reducible apply iERow); refine Ent.row ?_ ?_) | ((with_reducible apply iEBox); first | refine Ent.box ?_ ?_ | refine Ent.box2 ?_ ?_) | ((with_reducible apply iEBlk); refine Ent.blk ?_ ?_) | ((with_reducible apply iEPure); refine Ent.pure ?_ ?_) | ((with_reducible apply iERdR); first | refine Ent.rdR ?_ | refine Ent.any ?_ | fail) | refine Ent.any ?_ | with_reducible exact Ent.refl | fail) | ((with_reducible apply iEq); with_reducible rfl) | fail)
  all_goals
    refine int_eq ?_
    simp only [inR, Bool.and_eq_true, Bool.and_eq_false_iff, decide_eq_true_eq, decide_eq_false_iff_not] at *
    unfold rsize
    (repeat' split) <;> omega
def lead (b : Int) : Int × Int := if b < 128 then (1, b) else if 192 ≤ b ∧ b ≤ 223 then (2, b - 192) else if 224 ≤ b ∧ b ≤ 239 then (3, b - 224) else if 240 ≤ b ∧ b ≤ 247 then (4, b - 240) else (0, 0)
theorem pair_eq {p : Int × Int} {a b : Int} (h : p = (a, b)) : Value.tuple #[.int .i64 a, .int .i64 b] = Value.tuple #[.int .i64 p.1, .int .i64 p.2] := h ▸ rfl
set_option maxRecDepth 100000 in
set_option maxHeartbeats 4000000 in
theorem l1Lead_c (b : Int) (hb : 0 ≤ b ∧ b ≤ 255) : Spec Tryz.prog 87 [.int .i64 b] [] [] (fun _ : Unit => .tuple #[.int .i64 (lead b).1, .int .i64 (lead b).2]) (fun _ => []) (fun _ => True) := by
  refine Spec.mk Tryz.func87 rfl Tryz.ntmps87 rfl ?_
  intro w0 O hR hS0; clear hR hS0
  repeat' (first | ((with_reducible apply iOJ); first | ((with_reducible apply iOp); refine OJ.p ?_) | with_reducible apply OJ.nil | ((with_reducible apply iOg); first | refine OJ.guardY ?_ | refine OJ.guardN ?_ | refine OJ.guardNd ?_ | refine OJ.guardU ?_ | refine OJ.guardS (fun _ => ?_) (fun _ => ?_) | fail) | ((with_reducible apply iOstore); first | (refine OJ.as AS.store ?_; rintro _ _ rfl) | (refine OJ.as AS.storeA ?_; rintro _ _ rfl) | (refine OJ.as AS.storeAV ?_; rintro _ _ rfl) | (refine OJ.as AS.storeE ?_; rintro _ _ rfl) | (refine OJ.as AS.storeEA ?_; rintro _ _ rfl) | fail) | ((with_reducible apply iOcall); first | (refine OJ.as AS.append1 ?_; rintro _ _ rfl) | (refine OJ.as AS.append ?_; rintro _ _ rfl) | (refine OJ.as (AS.call0 (l1In_c _ _ _)) ?_; rotate_right; rintro _ _ ⟨y, hy, rfl, rfl⟩) | fail) | ((with_reducible apply iObox); first | (refine OJ.as AS.box1 ?_; rintro _ _ ⟨_, rfl, rfl⟩) | (refine OJ.as AS.boxA ?_; rintro _ _ ⟨_, rfl, rfl⟩) | fail) | ((with_reducible apply iOalloc); first | (refine OJ.as AS.alloc ?_; rintro _ _ ⟨_, rfl, rfl⟩) | fail) | ((with_reducible apply iObuildSlice); first | (refine OJ.as AS.buildSlice ?_; rintro _ _ ⟨_, rfl, rfl⟩) | fail) | ((with_reducible apply iOmakeSlice); first | (refine OJ.as AS.makeSlice ?_; rintro _ _ rfl) | fail) | ((with_reducible apply iOmakeMap); first | (refine OJ.as AS.makeMap ?_; rintro _ _ ⟨_, rfl, rfl⟩) | fail) | ((with_reducible apply iOmapEntry); first | (refine OJ.as AS.mapEntry ?_; rintro _ _ ⟨_, _, rfl, rfl⟩) | fail) | ((with_reducible apply iOentryStore); first | (refine OJ.as AS.entryStore ?_; rintro _ _ rfl) | fail) | refine OJ.unboxP fun _ => ?_ | fail) | ((with_reducible apply iJ); first | refine J.seq ?_ | refine J.region ?_ | refine J.block ?_ | refine J.skip ?_ | refine J.exit ?_ | refine J.condT ?_ | refine J.condF ?_ | refine J.cond (fun _ => ?_) (fun _ => ?_) | refine J.ret (ends () trivial ?_ Ent.nil) | fail) | ((with_reducible apply iJK); first | refine JK.code ?_ | refine JK.blk ?_ | refine JK.loop ?_ | refine JK.begin ?_ | refine JK.more ?_ | fail) | ((with_reducible apply iEnt); first | exact Ent.nil | ((with_reducible apply iERow); refine Ent.row ?_ ?_) | ((with_reducible apply iEBox); first | refine Ent.box ?_ ?_ | refine Ent.box2 ?_ ?_) | ((with_reducible apply iEBlk); refine Ent.blk ?_ ?_) | ((with_reducible apply iEPure); refine Ent.pure ?_ ?_) | ((with_reducible apply iERdR); first | refine Ent.rdR ?_ | refine Ent.any ?_ | fail) | refine Ent.any ?_ | with_reducible exact Ent.refl | fail) | ((with_reducible apply iEq); with_reducible rfl) | fail)
  all_goals
    refine pair_eq ?_
    try simp only [inR, Bool.and_eq_true, Bool.and_eq_false_iff, decide_eq_true_eq, decide_eq_false_iff_not] at *
    unfold lead
    (repeat' split) <;> first | rfl | (exfalso; omega)
def conts : Nat → List UInt8 → Int → Option Int
  | 0, _, r => some r
  | k + 1, m, r => match inR (b0 m 0) 128 191 with
    | true => conts k (m.drop 1) (r * 64 + b0 m 0 - 128)
    | false => none
def fin (n : Int) : Option Int → Int × Int
  | none => (0, 0)
  | some r => match decide (rsize r = n) with
    | true => (r, n)
    | false => (0, 0)
def nextM (m : List UInt8) : Int × Int :=
  match decide ((lead (b0 m 0)).1 = 0) || decide ((m.length : Int) < (lead (b0 m 0)).1) with
  | true => (0, 0)
  | false => fin (lead (b0 m 0)).1 (conts ((lead (b0 m 0)).1.toNat - 1) (m.drop 1) (lead (b0 m 0)).2)
theorem nextM_no {m : List UInt8} {p : Int × Int} (hp : lead (b0 m 0) = p) (h : p.1 = 0 ∨ (m.length : Int) < p.1) : nextM m = (0, 0) := by
  unfold nextM
  rw [hp]
  have : (decide (p.1 = 0) || decide ((m.length : Int) < p.1)) = true := by
    rw [Bool.or_eq_true, decide_eq_true_eq, decide_eq_true_eq]
    exact h
  rw [this]
theorem nextM_yes {m : List UInt8} {p : Int × Int} (hp : lead (b0 m 0) = p) (h1 : ¬ p.1 = 0) (h2 : ¬ (m.length : Int) < p.1) : nextM m = fin p.1 (conts (p.1.toNat - 1) (m.drop 1) p.2) := by
  unfold nextM
  rw [hp, decide_eq_false h1, decide_eq_false h2]
  rfl
def bnd : Nat → Int
  | 0 => 128
  | 1 => 128
  | 2 => 8192
  | 3 => 524288
  | _ => 33554432
theorem lead_bd {b : Int} (h : 0 ≤ b ∧ b ≤ 255) : (0 ≤ (lead b).1 ∧ (lead b).1 ≤ 4) ∧ 0 ≤ (lead b).2 ∧ (lead b).2 < 128 := by
  unfold lead
  (repeat' split) <;> simp <;> omega
theorem bnd_step {n : Nat} {i r b : Int} (hi : i = n) (h1 : 1 ≤ n) (h3 : n ≤ 3) (hr : 0 ≤ r ∧ r < bnd n) (hb : 128 ≤ b ∧ b ≤ 191) : 0 ≤ r * 64 + b - 128 ∧ r * 64 + b - 128 < bnd (n + 1) := by
  match n, h1, h3 with
  | 1, _, _ => simp only [bnd] at hr ⊢; omega
  | 2, _, _ => simp only [bnd] at hr ⊢; omega
  | 3, _, _ => simp only [bnd] at hr ⊢; omega
theorem bnd_le (n : Nat) : bnd n ≤ 33554432 := by
  unfold bnd
  split <;> omega
set_option maxRecDepth 100000 in
set_option maxHeartbeats 4000000 in
theorem l1Next_c (l : List UInt8) (i : Nat) (hi : i < l.length) (hl : l.length ≤ 100000000) : Spec Tryz.prog 46 [sv l, .int .i64 (i : Nat)] [] [] (fun _ : Unit => .tuple #[.int .i64 (nextM (l.drop i)).1, .int .i64 (nextM (l.drop i)).2]) (fun _ => []) (fun _ => True) := by
  refine Spec.mk Tryz.func46 rfl Tryz.ntmps46 rfl ?_
  intro w0 O hR hS0; clear hR hS0
  have hb := byte_bd (l.getD i 0)
  have hld := lead_bd (b := ((l.getD i 0).toNat : Int)) (by omega)
  have e0 : ((l.getD i 0).toNat : Int) = b0 (l.drop i) 0 := by simp [b0, List.getD_eq_getElem?_getD]
  have hL := l1Lead_c ((l.getD i 0).toNat : Int) ⟨by omega, hb⟩
  obtain ⟨p, hp⟩ : ∃ p, lead ((l.getD i 0).toNat : Int) = p := ⟨_, rfl⟩
  have hp' := hp
  rw [e0] at hp'
  rw [hp] at hL hld
  have hdl : ((l.drop i).length : Int) = l.length - i := by rw [List.length_drop]; omega
  repeat' (first | ((with_reducible apply iOJ); first | ((with_reducible apply iOp); refine OJ.p ?_) | with_reducible apply OJ.nil | ((with_reducible apply iOg); first | refine OJ.guardY ?_ | refine OJ.guardN ?_ | refine OJ.guardNd ?_ | refine OJ.guardU ?_ | refine OJ.guardS (fun _ => ?_) (fun _ => ?_) | fail) | ((with_reducible apply iOstore); first | (refine OJ.as AS.store ?_; rintro _ _ rfl) | (refine OJ.as AS.storeA ?_; rintro _ _ rfl) | (refine OJ.as AS.storeAV ?_; rintro _ _ rfl) | (refine OJ.as AS.storeE ?_; rintro _ _ rfl) | (refine OJ.as AS.storeEA ?_; rintro _ _ rfl) | fail) | ((with_reducible apply iOcall); first | (refine OJ.as AS.append1 ?_; rintro _ _ rfl) | (refine OJ.as AS.append ?_; rintro _ _ rfl) | (refine OJ.as (AS.call0 (hL)) ?_; rotate_right; rintro _ _ ⟨y, hy, rfl, rfl⟩) | fail) | ((with_reducible apply iObox); first | (refine OJ.as AS.box1 ?_; rintro _ _ ⟨_, rfl, rfl⟩) | (refine OJ.as AS.boxA ?_; rintro _ _ ⟨_, rfl, rfl⟩) | fail) | ((with_reducible apply iOalloc); first | (refine OJ.as AS.alloc ?_; rintro _ _ ⟨_, rfl, rfl⟩) | fail) | ((with_reducible apply iObuildSlice); first | (refine OJ.as AS.buildSlice ?_; rintro _ _ ⟨_, rfl, rfl⟩) | fail) | ((with_reducible apply iOmakeSlice); first | (refine OJ.as AS.makeSlice ?_; rintro _ _ rfl) | fail) | ((with_reducible apply iOmakeMap); first | (refine OJ.as AS.makeMap ?_; rintro _ _ ⟨_, rfl, rfl⟩) | fail) | ((with_reducible apply iOmapEntry); first | (refine OJ.as AS.mapEntry ?_; rintro _ _ ⟨_, _, rfl, rfl⟩) | fail) | ((with_reducible apply iOentryStore); first | (refine OJ.as AS.entryStore ?_; rintro _ _ rfl) | fail) | refine OJ.unboxP fun _ => ?_ | fail) | ((with_reducible apply iJ); first | refine J.seq ?_ | refine J.region ?_ | refine J.block ?_ | refine J.skip ?_ | refine J.exit ?_ | refine J.condT ?_ | refine J.condF ?_ | refine J.cond (fun _ => ?_) (fun _ => ?_) | refine J.ret (ends () trivial ?_ Ent.nil) | fail) | ((with_reducible apply iJK); first | refine JK.code ?_ | refine JK.blk ?_ | refine JK.loop ?_ | refine JK.begin ?_ | refine JK.more ?_ | fail) | ((with_reducible apply iEnt); first | exact Ent.nil | ((with_reducible apply iERow); refine Ent.row ?_ ?_) | ((with_reducible apply iEBox); first | refine Ent.box ?_ ?_ | refine Ent.box2 ?_ ?_) | ((with_reducible apply iEBlk); refine Ent.blk ?_ ?_) | ((with_reducible apply iEPure); refine Ent.pure ?_ ?_) | ((with_reducible apply iERdR); first | refine Ent.rdR ?_ | refine Ent.any ?_ | fail) | refine Ent.any ?_ | with_reducible exact Ent.refl | fail) | ((with_reducible apply iEq); with_reducible rfl) | fail)
  · refine pair_eq ?_
    exact nextM_no hp' (.inl (by assumption))
  · refine pair_eq ?_
    exact nextM_no hp' (.inr (by omega))
  rename_i hn1 hn2
  have hm := nextM_yes hp' hn1 (by omega)
  rw [List.drop_drop] at hm
  clear hp hp' hL e0
  obtain ⟨q, hq⟩ : ∃ q, nextM (l.drop i) = q := ⟨_, rfl⟩
  rw [hq] at hm ⊢
  clear hq
  obtain ⟨n, hn⟩ : ∃ n : Nat, p.1 = n := ⟨p.1.toNat, by omega⟩
  refine J.loopW (fun (k : Nat) (r : Int) _ => 1 ≤ k ∧ (k : Int) ≤ p.1 ∧ (0 ≤ r ∧ r < bnd k) ∧ q = fin p.1 (conts (p.1.toNat - k) (l.drop (i + k)) r)) (fun k => p.1.toNat - k) (fun k r _ => [(8, .int .i64 (k : Nat)), (7, .int .i64 r), (6, .int .i64 p.1), (0, sv l), (1, .int .i64 (i : Nat))]) (fun _ _ _ => []) 1 p.2 undef ⟨by omega, by omega, by simpa [bnd] using hld.2, hm⟩ ?_
  rintro k r u ⟨h1, h2, h3, h4⟩ ih
  have hbk := bnd_le k
  have hb2 := byte_bd (l.getD (i + k) 0)
  have eb : ((l.getD (i + k) 0).toNat : Int) = b0 (l.drop (i + k)) 0 := by simp [b0, List.getD_eq_getElem?_getD]
  repeat' (first | ((with_reducible apply iOJ); first | ((with_reducible apply iOp); refine OJ.p ?_) | with_reducible apply OJ.nil | ((with_reducible apply iOg); first | refine OJ.guardY ?_ | refine OJ.guardN ?_ | refine OJ.guardNd ?_ | refine OJ.guardU ?_ | refine OJ.guardS (fun _ => ?_) (fun _ => ?_) | fail) | ((with_reducible apply iOstore); first | (refine OJ.as AS.store ?_; rintro _ _ rfl) | (refine OJ.as AS.storeA ?_; rintro _ _ rfl) | (refine OJ.as AS.storeAV ?_; rintro _ _ rfl) | (refine OJ.as AS.storeE ?_; rintro _ _ rfl) | (refine OJ.as AS.storeEA ?_; rintro _ _ rfl) | fail) | ((with_reducible apply iOcall); first | (refine OJ.as AS.append1 ?_; rintro _ _ rfl) | (refine OJ.as AS.append ?_; rintro _ _ rfl) | (refine OJ.as (AS.call0 (l1In_c _ _ _)) ?_; rotate_right; rintro _ _ ⟨y, hy, rfl, rfl⟩) | (refine OJ.as (AS.call0 (l1Size_c _)) ?_; rotate_right; rintro _ _ ⟨y, hy, rfl, rfl⟩) | fail) | ((with_reducible apply iObox); first | (refine OJ.as AS.box1 ?_; rintro _ _ ⟨_, rfl, rfl⟩) | (refine OJ.as AS.boxA ?_; rintro _ _ ⟨_, rfl, rfl⟩) | fail) | ((with_reducible apply iOalloc); first | (refine OJ.as AS.alloc ?_; rintro _ _ ⟨_, rfl, rfl⟩) | fail) | ((with_reducible apply iObuildSlice); first | (refine OJ.as AS.buildSlice ?_; rintro _ _ ⟨_, rfl, rfl⟩) | fail) | ((with_reducible apply iOmakeSlice); first | (refine OJ.as AS.makeSlice ?_; rintro _ _ rfl) | fail) | ((with_reducible apply iOmakeMap); first | (refine OJ.as AS.makeMap ?_; rintro _ _ ⟨_, rfl, rfl⟩) | fail) | ((with_reducible apply iOmapEntry); first | (refine OJ.as AS.mapEntry ?_; rintro _ _ ⟨_, _, rfl, rfl⟩) | fail) | ((with_reducible apply iOentryStore); first | (refine OJ.as AS.entryStore ?_; rintro _ _ rfl) | fail) | refine OJ.unboxP fun _ => ?_ | fail) | ((with_reducible apply iJ); first | refine J.seq ?_ | refine J.region ?_ | refine J.block ?_ | refine J.skip ?_ | refine J.exit ?_ | refine J.condT ?_ | refine J.condF ?_ | refine J.cond (fun _ => ?_) (fun _ => ?_) | refine J.ret (ends () trivial ?_ Ent.nil) | fail) | ((with_reducible apply iJK); first | refine JK.code ?_ | refine JK.blk ?_ | refine JK.loop ?_ | refine JK.begin ?_ | refine JK.more ?_ | fail) | ((with_reducible apply iJL); first | refine JL.use (ih (k + 1) _ undef ⟨by omega, by omega, ?_, ?_⟩ (by omega)) | fail) | ((with_reducible apply iEnt); first | exact Ent.nil | ((with_reducible apply iERow); refine Ent.row ?_ ?_) | ((with_reducible apply iEBox); first | refine Ent.box ?_ ?_ | refine Ent.box2 ?_ ?_) | ((with_reducible apply iEBlk); refine Ent.blk ?_ ?_) | ((with_reducible apply iEPure); refine Ent.pure ?_ ?_) | ((with_reducible apply iERdR); first | refine Ent.rdR ?_ | refine Ent.any ?_ | fail) | refine Ent.any ?_ | with_reducible exact Ent.refl | fail) | ((with_reducible apply iEq); with_reducible rfl) | fail)
  all_goals clear ih
  · have hf : inR ((l.getD (i + k) 0).toNat : Int) 128 191 = false := by assumption
    refine pair_eq ?_
    rw [h4, show p.1.toNat - k = (p.1.toNat - (k + 1)) + 1 by omega, conts, ← eb, hf]
    rfl
  · exact bnd_step rfl h1 (by omega) h3 (inR_t (by assumption))
  · have hf : inR ((l.getD (i + k) 0).toNat : Int) 128 191 = true := by assumption
    rw [h4, show p.1.toNat - k = (p.1.toNat - (k + 1)) + 1 by omega, conts, ← eb, hf, List.drop_drop]
    rfl
  · refine pair_eq ?_
    rw [h4, show p.1.toNat - k = 0 by omega]
    simp only [conts, fin]
    rw [decide_eq_false (by assumption)]
  · refine pair_eq ?_
    rw [h4, show p.1.toNat - k = 0 by omega]
    simp only [conts, fin]
    rw [decide_eq_true (by assumption)]
end Go.SL

/- What spec.l1Next gives is what the library decodes; spec.Utf8Get. -/
set_option linter.unusedVariables false
set_option linter.unusedSimpArgs false
namespace Go.SL
open Go.RowKit Go.Proofs
theorem b0_drop (m : List UInt8) (i j : Nat) : b0 (m.drop i) j = b0 m (i + j) := by simp [b0, List.getD_eq_getElem?_getD]
def nx (m : List UInt8) : Int × Int := match good m with
  | true => ((dec m).1, (dec m).2)
  | false => (0, 0)
section
variable {m : List UInt8}
theorem nx_ok (h : 0 < m.length) {r n : Nat} (hd : Lib.decodeN m.length (b0 m 0) (b0 m 1) (b0 m 2) (b0 m 3) = (r, n)) (hg : r ≠ 65533 ∨ 1 < n) : nx m = ((r : Int), (n : Int)) := by
  have hd' := dec_eq h
  rw [hd] at hd'
  have : good m = true := by
    simp only [good, hd', Bool.or_eq_true, Bool.not_eq_true', decide_eq_true_eq, decide_eq_false_iff_not]
    omega
  simp only [nx, this, hd']
theorem nx_bad (h : 0 < m.length) (hd : Lib.decodeN m.length (b0 m 0) (b0 m 1) (b0 m 2) (b0 m 3) = (65533, 1)) : nx m = (0, 0) := by
  have hd' := dec_eq h
  rw [hd] at hd'
  have : good m = false := by
    simp only [good, hd']
    rfl
  simp only [nx, this]
theorem conts_no {k : Nat} {r : Int} {a : List UInt8} (h : inR (b0 a 0) 128 191 = false) : conts (k + 1) a r = none := by simp only [conts, h]
theorem conts_yes {k : Nat} {r : Int} {a : List UInt8} (h : inR (b0 a 0) 128 191 = true) : conts (k + 1) a r = conts k (a.drop 1) (r * 64 + b0 a 0 - 128) := by simp only [conts, h]
theorem inR_yes {n lo hi : Int} (h : lo ≤ n ∧ n ≤ hi) : inR n lo hi = true := by simp [inR, h]
theorem inR_no {n lo hi : Int} (h : ¬ (lo ≤ n ∧ n ≤ hi)) : inR n lo hi = false := by
  cases hh : inR n lo hi with
  | false => rfl
  | true => exact absurd (inR_t hh) h
theorem fin_ok {n r : Int} (h : rsize r = n) : fin n (some r) = (r, n) := by simp only [fin, decide_eq_true h]
theorem fin_bad {n r : Int} (h : rsize r ≠ n) : fin n (some r) = (0, 0) := by simp only [fin, decide_eq_false h]
set_option maxHeartbeats 2000000 in
theorem nextM_eq (h : 0 < m.length) : nextM m = nx m := by
  have h0 := b0_lt m 0
  have h1 := b0_lt m 1
  have h2 := b0_lt m 2
  have h3 := b0_lt m 3
  have e1 : b0 (m.drop 1) 0 = b0 m 1 := b0_drop m 1 0
  have e2 : b0 ((m.drop 1).drop 1) 0 = b0 m 2 := by rw [List.drop_drop, b0_drop]
  have e3 : b0 (((m.drop 1).drop 1).drop 1) 0 = b0 m 3 := by rw [List.drop_drop, List.drop_drop, b0_drop]
  by_cases c1 : b0 m 0 < 128
  · have hp : lead (b0 m 0) = (1, (b0 m 0 : Int)) := by unfold lead; rw [if_pos (by omega)]
    have hd : Lib.decodeN m.length (b0 m 0) (b0 m 1) (b0 m 2) (b0 m 3) = (b0 m 0, 1) := by unfold Lib.decodeN; rw [if_pos c1]
    rw [nx_ok h hd (by omega), nextM_yes hp (by simp) (by simp only; omega)]
    exact fin_ok (by unfold rsize; rw [if_pos (by omega)])
  by_cases c2 : b0 m 0 < 192
  · have hp : lead (b0 m 0) = (0, 0) := by unfold lead; (repeat' split) <;> first | rfl | (exfalso; omega)
    have hd : Lib.decodeN m.length (b0 m 0) (b0 m 1) (b0 m 2) (b0 m 3) = (65533, 1) := by unfold Lib.decodeN; (repeat' split) <;> first | rfl | (exfalso; omega)
    rw [nx_bad h hd, nextM_no hp (.inl rfl)]
  by_cases c3 : b0 m 0 < 224
  · have hp : lead (b0 m 0) = (2, (b0 m 0 : Int) - 192) := by unfold lead; (repeat' split) <;> first | rfl | (exfalso; omega)
    by_cases hl : m.length < 2
    · have hd : Lib.decodeN m.length (b0 m 0) (b0 m 1) (b0 m 2) (b0 m 3) = (65533, 1) := by unfold Lib.decodeN; (repeat' split) <;> first | rfl | (exfalso; omega)
      rw [nx_bad h hd, nextM_no hp (.inr (by simp only; omega))]
    rw [nextM_yes hp (by simp) (by simp only; omega)]
    show fin 2 (conts 1 (m.drop 1) ((b0 m 0 : Int) - 192)) = _
    by_cases k1 : 128 ≤ b0 m 1 ∧ b0 m 1 ≤ 191
    · rw [conts_yes (by rw [e1]; exact inR_yes (by omega)), e1]
      show fin 2 (some _) = _
      by_cases k2 : 128 ≤ (b0 m 0 - 192) * 64 + b0 m 1 - 128
      · have hd : Lib.decodeN m.length (b0 m 0) (b0 m 1) (b0 m 2) (b0 m 3) = ((b0 m 0 - 192) * 64 + b0 m 1 - 128, 2) := by unfold Lib.decodeN; (repeat' split) <;> first | (exfalso; omega) | (rw [Prod.mk.injEq]; exact ⟨by omega, rfl⟩)
        rw [nx_ok h hd (by omega), fin_ok (by unfold rsize; (repeat' split) <;> omega)]
        rw [Prod.mk.injEq]
        exact ⟨by omega, rfl⟩
      · have hd : Lib.decodeN m.length (b0 m 0) (b0 m 1) (b0 m 2) (b0 m 3) = (65533, 1) := by unfold Lib.decodeN; (repeat' split) <;> first | rfl | (exfalso; omega)
        rw [nx_bad h hd, fin_bad (by unfold rsize; (repeat' split) <;> omega)]
    · have hd : Lib.decodeN m.length (b0 m 0) (b0 m 1) (b0 m 2) (b0 m 3) = (65533, 1) := by unfold Lib.decodeN; (repeat' split) <;> first | rfl | (exfalso; omega)
      rw [nx_bad h hd, conts_no (by rw [e1]; exact inR_no (by omega))]
      rfl
  by_cases c4 : b0 m 0 < 240
  · have hp : lead (b0 m 0) = (3, (b0 m 0 : Int) - 224) := by unfold lead; (repeat' split) <;> first | rfl | (exfalso; omega)
    by_cases hl : m.length < 3
    · have hd : Lib.decodeN m.length (b0 m 0) (b0 m 1) (b0 m 2) (b0 m 3) = (65533, 1) := by unfold Lib.decodeN; (repeat' split) <;> first | rfl | (exfalso; omega)
      rw [nx_bad h hd, nextM_no hp (.inr (by simp only; omega))]
    rw [nextM_yes hp (by simp) (by simp only; omega)]
    show fin 3 (conts 2 (m.drop 1) ((b0 m 0 : Int) - 224)) = _
    by_cases k1 : (128 ≤ b0 m 1 ∧ b0 m 1 ≤ 191) ∧ (128 ≤ b0 m 2 ∧ b0 m 2 ≤ 191)
    · rw [conts_yes (by rw [e1]; exact inR_yes (by omega)), e1, conts_yes (by rw [e2]; exact inR_yes (by omega)), e2]
      show fin 3 (some _) = _
      by_cases k2 : 2048 ≤ ((b0 m 0 - 224) * 64 + b0 m 1 - 128) * 64 + b0 m 2 - 128 ∧ ¬ (55296 ≤ ((b0 m 0 - 224) * 64 + b0 m 1 - 128) * 64 + b0 m 2 - 128 ∧ ((b0 m 0 - 224) * 64 + b0 m 1 - 128) * 64 + b0 m 2 - 128 ≤ 57343)
      · have hd : Lib.decodeN m.length (b0 m 0) (b0 m 1) (b0 m 2) (b0 m 3) = (((b0 m 0 - 224) * 64 + b0 m 1 - 128) * 64 + b0 m 2 - 128, 3) := by unfold Lib.decodeN; (repeat' split) <;> first | (exfalso; omega) | (rw [Prod.mk.injEq]; exact ⟨by omega, rfl⟩)
        rw [nx_ok h hd (by omega), fin_ok (by unfold rsize; (repeat' split) <;> omega)]
        rw [Prod.mk.injEq]
        exact ⟨by omega, rfl⟩
      · have hd : Lib.decodeN m.length (b0 m 0) (b0 m 1) (b0 m 2) (b0 m 3) = (65533, 1) := by unfold Lib.decodeN; (repeat' split) <;> first | rfl | (exfalso; omega)
        rw [nx_bad h hd, fin_bad (by unfold rsize; (repeat' split) <;> omega)]
    · have hd : Lib.decodeN m.length (b0 m 0) (b0 m 1) (b0 m 2) (b0 m 3) = (65533, 1) := by unfold Lib.decodeN; (repeat' split) <;> first | rfl | (exfalso; omega)
      rw [nx_bad h hd]
      by_cases k2 : 128 ≤ b0 m 1 ∧ b0 m 1 ≤ 191
      · rw [conts_yes (by rw [e1]; exact inR_yes (by omega)), conts_no (by rw [e2]; exact inR_no (by omega))]
        rfl
      · rw [conts_no (by rw [e1]; exact inR_no (by omega))]
        rfl
  by_cases c5 : b0 m 0 < 248
  · have hp : lead (b0 m 0) = (4, (b0 m 0 : Int) - 240) := by unfold lead; (repeat' split) <;> first | rfl | (exfalso; omega)
    by_cases hl : m.length < 4
    · have hd : Lib.decodeN m.length (b0 m 0) (b0 m 1) (b0 m 2) (b0 m 3) = (65533, 1) := by unfold Lib.decodeN; (repeat' split) <;> first | rfl | (exfalso; omega)
      rw [nx_bad h hd, nextM_no hp (.inr (by simp only; omega))]
    rw [nextM_yes hp (by simp) (by simp only; omega)]
    show fin 4 (conts 3 (m.drop 1) ((b0 m 0 : Int) - 240)) = _
    by_cases k1 : (128 ≤ b0 m 1 ∧ b0 m 1 ≤ 191) ∧ (128 ≤ b0 m 2 ∧ b0 m 2 ≤ 191) ∧ (128 ≤ b0 m 3 ∧ b0 m 3 ≤ 191)
    · rw [conts_yes (by rw [e1]; exact inR_yes (by omega)), e1, conts_yes (by rw [e2]; exact inR_yes (by omega)), e2, conts_yes (by rw [e3]; exact inR_yes (by omega)), e3]
      show fin 4 (some _) = _
      by_cases k2 : 65536 ≤ (((b0 m 0 - 240) * 64 + b0 m 1 - 128) * 64 + b0 m 2 - 128) * 64 + b0 m 3 - 128 ∧ (((b0 m 0 - 240) * 64 + b0 m 1 - 128) * 64 + b0 m 2 - 128) * 64 + b0 m 3 - 128 ≤ 1114111
      · have hd : Lib.decodeN m.length (b0 m 0) (b0 m 1) (b0 m 2) (b0 m 3) = ((((b0 m 0 - 240) * 64 + b0 m 1 - 128) * 64 + b0 m 2 - 128) * 64 + b0 m 3 - 128, 4) := by unfold Lib.decodeN; (repeat' split) <;> first | (exfalso; omega) | (rw [Prod.mk.injEq]; exact ⟨by omega, rfl⟩)
        rw [nx_ok h hd (by omega), fin_ok (by unfold rsize; (repeat' split) <;> omega)]
        rw [Prod.mk.injEq]
        exact ⟨by omega, rfl⟩
      · have hd : Lib.decodeN m.length (b0 m 0) (b0 m 1) (b0 m 2) (b0 m 3) = (65533, 1) := by unfold Lib.decodeN; (repeat' split) <;> first | rfl | (exfalso; omega)
        rw [nx_bad h hd, fin_bad (by unfold rsize; (repeat' split) <;> omega)]
    · have hd : Lib.decodeN m.length (b0 m 0) (b0 m 1) (b0 m 2) (b0 m 3) = (65533, 1) := by unfold Lib.decodeN; (repeat' split) <;> first | rfl | (exfalso; omega)
      rw [nx_bad h hd]
      by_cases k2 : 128 ≤ b0 m 1 ∧ b0 m 1 ≤ 191
      · rw [conts_yes (by rw [e1]; exact inR_yes (by omega))]
        by_cases k3 : 128 ≤ b0 m 2 ∧ b0 m 2 ≤ 191
        · rw [conts_yes (by rw [e2]; exact inR_yes (by omega)), conts_no (by rw [e3]; exact inR_no (by omega))]
          rfl
        · rw [conts_no (by rw [e2]; exact inR_no (by omega))]
          rfl
      · rw [conts_no (by rw [e1]; exact inR_no (by omega))]
        rfl
  · have hp : lead (b0 m 0) = (0, 0) := by unfold lead; (repeat' split) <;> first | rfl | (exfalso; omega)
    have hd : Lib.decodeN m.length (b0 m 0) (b0 m 1) (b0 m 2) (b0 m 3) = (65533, 1) := by unfold Lib.decodeN; (repeat' split) <;> first | rfl | (exfalso; omega)
    rw [nx_bad h hd, nextM_no hp (.inl rfl)]
end
set_option maxRecDepth 100000 in
set_option maxHeartbeats 4000000 in
theorem sGet_c (l : List UInt8) (hl : l.length ≤ 10000000) : Spec Tryz.prog 21 [sv l] [] [] (fun u : Value => .tuple #[u, .bool (iGet l).isSome]) (fun u => [row eInt 3 u ((iGet l).getD [])]) (fun _ => True) := by
  refine Spec.mk Tryz.func21 rfl Tryz.ntmps21 rfl ?_
  intro w0 O hR hS0; clear hR hS0
  obtain ⟨g, hg⟩ : ∃ g, iGet l = g := ⟨_, rfl⟩
  rw [hg]
  repeat' (first | ((with_reducible apply iOJ); first | ((with_reducible apply iOp); refine OJ.p ?_) | with_reducible apply OJ.nil | ((with_reducible apply iOg); first | refine OJ.guardY ?_ | refine OJ.guardN ?_ | refine OJ.guardNd ?_ | refine OJ.guardU ?_ | refine OJ.guardS (fun _ => ?_) (fun _ => ?_) | fail) | ((with_reducible apply iOstore); first | (refine OJ.as AS.store ?_; rintro _ _ rfl) | (refine OJ.as AS.storeA ?_; rintro _ _ rfl) | (refine OJ.as AS.storeAV ?_; rintro _ _ rfl) | (refine OJ.as AS.storeE ?_; rintro _ _ rfl) | (refine OJ.as AS.storeEA ?_; rintro _ _ rfl) | fail) | ((with_reducible apply iOcall); first | (refine OJ.as AS.append1 ?_; rintro _ _ rfl) | (refine OJ.as AS.append ?_; rintro _ _ rfl) | fail) | ((with_reducible apply iObox); first | (refine OJ.as AS.box1 ?_; rintro _ _ ⟨_, rfl, rfl⟩) | (refine OJ.as AS.boxA ?_; rintro _ _ ⟨_, rfl, rfl⟩) | fail) | ((with_reducible apply iOalloc); first | (refine OJ.as AS.alloc ?_; rintro _ _ ⟨_, rfl, rfl⟩) | fail) | ((with_reducible apply iObuildSlice); first | (refine OJ.as AS.buildSlice ?_; rintro _ _ ⟨_, rfl, rfl⟩) | fail) | ((with_reducible apply iOmakeSlice); first | (refine OJ.as AS.makeSlice ?_; rintro _ _ rfl) | fail) | ((with_reducible apply iOmakeMap); first | (refine OJ.as AS.makeMap ?_; rintro _ _ ⟨_, rfl, rfl⟩) | fail) | ((with_reducible apply iOmapEntry); first | (refine OJ.as AS.mapEntry ?_; rintro _ _ ⟨_, _, rfl, rfl⟩) | fail) | ((with_reducible apply iOentryStore); first | (refine OJ.as AS.entryStore ?_; rintro _ _ rfl) | fail) | refine OJ.unboxP fun _ => ?_ | fail) | ((with_reducible apply iJ); first | refine J.seq ?_ | refine J.region ?_ | refine J.block ?_ | refine J.skip ?_ | refine J.exit ?_ | refine J.condT ?_ | refine J.condF ?_ | refine J.cond (fun _ => ?_) (fun _ => ?_) | fail) | ((with_reducible apply iJK); first | refine JK.code ?_ | refine JK.blk ?_ | refine JK.loop ?_ | refine JK.begin ?_ | refine JK.more ?_ | fail) | ((with_reducible apply iEnt); first | exact Ent.nil | ((with_reducible apply iERow); refine Ent.row ?_ ?_) | ((with_reducible apply iEBox); first | refine Ent.box ?_ ?_ | refine Ent.box2 ?_ ?_) | ((with_reducible apply iEBlk); refine Ent.blk ?_ ?_) | ((with_reducible apply iEPure); refine Ent.pure ?_ ?_) | ((with_reducible apply iERdR); first | refine Ent.rdR ?_ | refine Ent.any ?_ | fail) | refine Ent.any ?_ | with_reducible exact Ent.refl | fail) | ((with_reducible apply iEq); with_reducible rfl) | fail)
  refine J.loopW (fun (i : Nat) (acc : List Int) _ => i ≤ l.length ∧ acc.length ≤ 80 ∧ g = getI acc (lets (l.drop i))) (fun i => l.length - i) (fun i _ u => [(5, .int .i64 (i : Nat)), (4, u), (0, sv l)]) (fun _ acc u => [row eInt 3 u acc]) 0 [] _ ⟨Nat.zero_le _, by simp, hg.symm⟩ ?_
  rintro i acc u ⟨hi, ha, hm⟩ ih
  by_cases hlt : i < l.length
  · have hN := l1Next_c l i hlt (by omega)
    have hdl : 0 < (l.drop i).length := by rw [List.length_drop]; omega
    have hd := (dec_bd hdl).1
    have hd2 := (dec_bd hdl).2
    rw [nextM_eq hdl] at hN
    have hlen : (l.drop i).length = l.length - i := List.length_drop
    cases hgd : good (l.drop i) with
    | true =>
      have e : nx (l.drop i) = (((dec (l.drop i)).1 : Int), ((dec (l.drop i)).2 : Int)) := by simp only [nx, hgd]
      rw [e] at hN
      dsimp only at hN
      have hlet := lets_ok hdl hgd
      rw [List.drop_drop] at hlet
      rw [hlet] at hm
      by_cases h80 : acc.length = 80
      · obtain rfl : g = none := by rw [hm]; simp [getI, h80]
        repeat' (first | ((with_reducible apply iOJ); first | ((with_reducible apply iOp); refine OJ.p ?_) | with_reducible apply OJ.nil | ((with_reducible apply iOg); first | refine OJ.guardY ?_ | refine OJ.guardN ?_ | refine OJ.guardNd ?_ | refine OJ.guardU ?_ | refine OJ.guardS (fun _ => ?_) (fun _ => ?_) | fail) | ((with_reducible apply iOstore); first | (refine OJ.as AS.store ?_; rintro _ _ rfl) | (refine OJ.as AS.storeA ?_; rintro _ _ rfl) | (refine OJ.as AS.storeAV ?_; rintro _ _ rfl) | (refine OJ.as AS.storeE ?_; rintro _ _ rfl) | (refine OJ.as AS.storeEA ?_; rintro _ _ rfl) | fail) | ((with_reducible apply iOcall); first | (refine OJ.as AS.append1 ?_; rintro _ _ rfl) | (refine OJ.as AS.append ?_; rintro _ _ rfl) | (refine OJ.as (AS.call0 (hN)) ?_; rotate_right; rintro _ _ ⟨y, hy, rfl, rfl⟩) | fail) | ((with_reducible apply iObox); first | (refine OJ.as AS.box1 ?_; rintro _ _ ⟨_, rfl, rfl⟩) | (refine OJ.as AS.boxA ?_; rintro _ _ ⟨_, rfl, rfl⟩) | fail) | ((with_reducible apply iOalloc); first | (refine OJ.as AS.alloc ?_; rintro _ _ ⟨_, rfl, rfl⟩) | fail) | ((with_reducible apply iObuildSlice); first | (refine OJ.as AS.buildSlice ?_; rintro _ _ ⟨_, rfl, rfl⟩) | fail) | ((with_reducible apply iOmakeSlice); first | (refine OJ.as AS.makeSlice ?_; rintro _ _ rfl) | fail) | ((with_reducible apply iOmakeMap); first | (refine OJ.as AS.makeMap ?_; rintro _ _ ⟨_, rfl, rfl⟩) | fail) | ((with_reducible apply iOmapEntry); first | (refine OJ.as AS.mapEntry ?_; rintro _ _ ⟨_, _, rfl, rfl⟩) | fail) | ((with_reducible apply iOentryStore); first | (refine OJ.as AS.entryStore ?_; rintro _ _ rfl) | fail) | refine OJ.unboxP fun _ => ?_ | fail) | ((with_reducible apply iJ); first | refine J.seq ?_ | refine J.region ?_ | refine J.block ?_ | refine J.skip ?_ | refine J.exit ?_ | refine J.condT ?_ | refine J.condF ?_ | refine J.cond (fun _ => ?_) (fun _ => ?_) | refine J.ret (ends _ trivial rfl ?_) | fail) | ((with_reducible apply iJK); first | refine JK.code ?_ | refine JK.blk ?_ | refine JK.loop ?_ | refine JK.begin ?_ | refine JK.more ?_ | fail) | ((with_reducible apply iEnt); first | exact Ent.nil | ((with_reducible apply iERow); refine Ent.row ?_ ?_) | ((with_reducible apply iEBox); first | refine Ent.box ?_ ?_ | refine Ent.box2 ?_ ?_) | ((with_reducible apply iEBlk); refine Ent.blk ?_ ?_) | ((with_reducible apply iEPure); refine Ent.pure ?_ ?_) | ((with_reducible apply iERdR); first | refine Ent.rdR ?_ | refine Ent.any ?_ | fail) | refine Ent.any ?_ | with_reducible exact Ent.refl | fail) | ((with_reducible apply iEq); with_reducible rfl) | fail)
        all_goals first | rfl | (exfalso; omega)
      · have hm' : g = getI (acc ++ [((dec (l.drop i)).1 : Int)]) (lets (l.drop (i + (dec (l.drop i)).2))) := by
          rw [hm]
          simp only [getI]
          rw [decide_eq_false (by omega)]
          rfl
        clear hm hlet e
        have IH := fun u' => ih (i + (dec (l.drop i)).2) (acc ++ [((dec (l.drop i)).1 : Int)]) u' ⟨by omega, by simp only [List.length_append, List.length_cons, List.length_nil]; omega, hm'⟩ (by omega)
        repeat' (first | ((with_reducible apply iOJ); first | ((with_reducible apply iOp); refine OJ.p ?_) | with_reducible apply OJ.nil | ((with_reducible apply iOg); first | refine OJ.guardY ?_ | refine OJ.guardN ?_ | refine OJ.guardNd ?_ | refine OJ.guardU ?_ | refine OJ.guardS (fun _ => ?_) (fun _ => ?_) | fail) | ((with_reducible apply iOstore); first | (refine OJ.as AS.store ?_; rintro _ _ rfl) | (refine OJ.as AS.storeA ?_; rintro _ _ rfl) | (refine OJ.as AS.storeAV ?_; rintro _ _ rfl) | (refine OJ.as AS.storeE ?_; rintro _ _ rfl) | (refine OJ.as AS.storeEA ?_; rintro _ _ rfl) | fail) | ((with_reducible apply iOcall); first | (refine OJ.as AS.append1 ?_; rintro _ _ rfl) | (refine OJ.as AS.append ?_; rintro _ _ rfl) | (refine OJ.as (AS.call0 (hN)) ?_; rotate_right; rintro _ _ ⟨y, hy, rfl, rfl⟩) | fail) | ((with_reducible apply iObox); first | (refine OJ.as AS.box1 ?_; rintro _ _ ⟨_, rfl, rfl⟩) | (refine OJ.as AS.boxA ?_; rintro _ _ ⟨_, rfl, rfl⟩) | fail) | ((with_reducible apply iOalloc); first | (refine OJ.as AS.alloc ?_; rintro _ _ ⟨_, rfl, rfl⟩) | fail) | ((with_reducible apply iObuildSlice); first | (refine OJ.as AS.buildSlice ?_; rintro _ _ ⟨_, rfl, rfl⟩) | fail) | ((with_reducible apply iOmakeSlice); first | (refine OJ.as AS.makeSlice ?_; rintro _ _ rfl) | fail) | ((with_reducible apply iOmakeMap); first | (refine OJ.as AS.makeMap ?_; rintro _ _ ⟨_, rfl, rfl⟩) | fail) | ((with_reducible apply iOmapEntry); first | (refine OJ.as AS.mapEntry ?_; rintro _ _ ⟨_, _, rfl, rfl⟩) | fail) | ((with_reducible apply iOentryStore); first | (refine OJ.as AS.entryStore ?_; rintro _ _ rfl) | fail) | refine OJ.unboxP fun _ => ?_ | fail) | ((with_reducible apply iJ); first | refine J.seq ?_ | refine J.region ?_ | refine J.block ?_ | refine J.skip ?_ | refine J.exit ?_ | refine J.condT ?_ | refine J.condF ?_ | refine J.cond (fun _ => ?_) (fun _ => ?_) | fail) | ((with_reducible apply iJK); first | refine JK.code ?_ | refine JK.blk ?_ | refine JK.loop ?_ | refine JK.begin ?_ | refine JK.more ?_ | fail) | ((with_reducible apply iJL); first | refine JL.useL (IH _) ?_ | fail) | ((with_reducible apply iEnt); first | exact Ent.nil | ((with_reducible apply iERow); refine Ent.row ?_ ?_) | ((with_reducible apply iEBox); first | refine Ent.box ?_ ?_ | refine Ent.box2 ?_ ?_) | ((with_reducible apply iEBlk); refine Ent.blk ?_ ?_) | ((with_reducible apply iEPure); refine Ent.pure ?_ ?_) | ((with_reducible apply iERdR); first | refine Ent.rdR ?_ | refine Ent.any ?_ | fail) | refine Ent.any ?_ | with_reducible exact Ent.refl | fail) | ((with_reducible apply iEq); with_reducible rfl) | fail)
        all_goals (exfalso; omega)
    | false =>
      obtain ⟨⟨a, z⟩, hz, e⟩ : ∃ p : Int × Int, p.2 = 0 ∧ nx (l.drop i) = p := ⟨(0, 0), rfl, by simp only [nx, hgd]⟩
      rw [e] at hN
      dsimp only at hN hz
      have hlet := lets_bad hdl hgd
      obtain rfl : g = none := by rw [hm, hlet]; rfl
      repeat' (first | ((with_reducible apply iOJ); first | ((with_reducible apply iOp); refine OJ.p ?_) | with_reducible apply OJ.nil | ((with_reducible apply iOg); first | refine OJ.guardY ?_ | refine OJ.guardN ?_ | refine OJ.guardNd ?_ | refine OJ.guardU ?_ | refine OJ.guardS (fun _ => ?_) (fun _ => ?_) | fail) | ((with_reducible apply iOstore); first | (refine OJ.as AS.store ?_; rintro _ _ rfl) | (refine OJ.as AS.storeA ?_; rintro _ _ rfl) | (refine OJ.as AS.storeAV ?_; rintro _ _ rfl) | (refine OJ.as AS.storeE ?_; rintro _ _ rfl) | (refine OJ.as AS.storeEA ?_; rintro _ _ rfl) | fail) | ((with_reducible apply iOcall); first | (refine OJ.as AS.append1 ?_; rintro _ _ rfl) | (refine OJ.as AS.append ?_; rintro _ _ rfl) | (refine OJ.as (AS.call0 (hN)) ?_; rotate_right; rintro _ _ ⟨y, hy, rfl, rfl⟩) | fail) | ((with_reducible apply iObox); first | (refine OJ.as AS.box1 ?_; rintro _ _ ⟨_, rfl, rfl⟩) | (refine OJ.as AS.boxA ?_; rintro _ _ ⟨_, rfl, rfl⟩) | fail) | ((with_reducible apply iOalloc); first | (refine OJ.as AS.alloc ?_; rintro _ _ ⟨_, rfl, rfl⟩) | fail) | ((with_reducible apply iObuildSlice); first | (refine OJ.as AS.buildSlice ?_; rintro _ _ ⟨_, rfl, rfl⟩) | fail) | ((with_reducible apply iOmakeSlice); first | (refine OJ.as AS.makeSlice ?_; rintro _ _ rfl) | fail) | ((with_reducible apply iOmakeMap); first | (refine OJ.as AS.makeMap ?_; rintro _ _ ⟨_, rfl, rfl⟩) | fail) | ((with_reducible apply iOmapEntry); first | (refine OJ.as AS.mapEntry ?_; rintro _ _ ⟨_, _, rfl, rfl⟩) | fail) | ((with_reducible apply iOentryStore); first | (refine OJ.as AS.entryStore ?_; rintro _ _ rfl) | fail) | refine OJ.unboxP fun _ => ?_ | fail) | ((with_reducible apply iJ); first | refine J.seq ?_ | refine J.region ?_ | refine J.block ?_ | refine J.skip ?_ | refine J.exit ?_ | refine J.condT ?_ | refine J.condF ?_ | refine J.cond (fun _ => ?_) (fun _ => ?_) | refine J.ret (ends _ trivial rfl ?_) | fail) | ((with_reducible apply iJK); first | refine JK.code ?_ | refine JK.blk ?_ | refine JK.loop ?_ | refine JK.begin ?_ | refine JK.more ?_ | fail) | ((with_reducible apply iEnt); first | exact Ent.nil | ((with_reducible apply iERow); refine Ent.row ?_ ?_) | ((with_reducible apply iEBox); first | refine Ent.box ?_ ?_ | refine Ent.box2 ?_ ?_) | ((with_reducible apply iEBlk); refine Ent.blk ?_ ?_) | ((with_reducible apply iEPure); refine Ent.pure ?_ ?_) | ((with_reducible apply iERdR); first | refine Ent.rdR ?_ | refine Ent.any ?_ | fail) | refine Ent.any ?_ | with_reducible exact Ent.refl | fail) | ((with_reducible apply iEq); with_reducible rfl) | fail)
      all_goals first | rfl | (exfalso; omega)
  · obtain rfl : g = some acc := by rw [hm, List.drop_of_length_le (by omega)]; rfl
    repeat' (first | ((with_reducible apply iOJ); first | ((with_reducible apply iOp); refine OJ.p ?_) | with_reducible apply OJ.nil | ((with_reducible apply iOg); first | refine OJ.guardY ?_ | refine OJ.guardN ?_ | refine OJ.guardNd ?_ | refine OJ.guardU ?_ | refine OJ.guardS (fun _ => ?_) (fun _ => ?_) | fail) | ((with_reducible apply iOstore); first | (refine OJ.as AS.store ?_; rintro _ _ rfl) | (refine OJ.as AS.storeA ?_; rintro _ _ rfl) | (refine OJ.as AS.storeAV ?_; rintro _ _ rfl) | (refine OJ.as AS.storeE ?_; rintro _ _ rfl) | (refine OJ.as AS.storeEA ?_; rintro _ _ rfl) | fail) | ((with_reducible apply iOcall); first | (refine OJ.as AS.append1 ?_; rintro _ _ rfl) | (refine OJ.as AS.append ?_; rintro _ _ rfl) | fail) | ((with_reducible apply iObox); first | (refine OJ.as AS.box1 ?_; rintro _ _ ⟨_, rfl, rfl⟩) | (refine OJ.as AS.boxA ?_; rintro _ _ ⟨_, rfl, rfl⟩) | fail) | ((with_reducible apply iOalloc); first | (refine OJ.as AS.alloc ?_; rintro _ _ ⟨_, rfl, rfl⟩) | fail) | ((with_reducible apply iObuildSlice); first | (refine OJ.as AS.buildSlice ?_; rintro _ _ ⟨_, rfl, rfl⟩) | fail) | ((with_reducible apply iOmakeSlice); first | (refine OJ.as AS.makeSlice ?_; rintro _ _ rfl) | fail) | ((with_reducible apply iOmakeMap); first | (refine OJ.as AS.makeMap ?_; rintro _ _ ⟨_, rfl, rfl⟩) | fail) | ((with_reducible apply iOmapEntry); first | (refine OJ.as AS.mapEntry ?_; rintro _ _ ⟨_, _, rfl, rfl⟩) | fail) | ((with_reducible apply iOentryStore); first | (refine OJ.as AS.entryStore ?_; rintro _ _ rfl) | fail) | refine OJ.unboxP fun _ => ?_ | fail) | ((with_reducible apply iJ); first | refine J.seq ?_ | refine J.region ?_ | refine J.block ?_ | refine J.skip ?_ | refine J.exit ?_ | refine J.condT ?_ | refine J.condF ?_ | refine J.cond (fun _ => ?_) (fun _ => ?_) | refine J.ret (ends _ trivial rfl ?_) | fail) | ((with_reducible apply iJK); first | refine JK.code ?_ | refine JK.blk ?_ | refine JK.loop ?_ | refine JK.begin ?_ | refine JK.more ?_ | fail) | ((with_reducible apply iEnt); first | exact Ent.nil | ((with_reducible apply iERow); refine Ent.row ?_ ?_) | ((with_reducible apply iEBox); first | refine Ent.box ?_ ?_ | refine Ent.box2 ?_ ?_) | ((with_reducible apply iEBlk); refine Ent.blk ?_ ?_) | ((with_reducible apply iEPure); refine Ent.pure ?_ ?_) | ((with_reducible apply iERdR); first | refine Ent.rdR ?_ | refine Ent.any ?_ | fail) | refine Ent.any ?_ | with_reducible exact Ent.refl | fail) | ((with_reducible apply iEq); with_reducible rfl) | fail)
    all_goals first | rfl | (exfalso; omega)
end Go.SL

/- spec.l1Put, Utf8Put. -/
set_option linter.unusedVariables false
set_option linter.unusedSimpArgs false
namespace Go.SL
open Go.RowKit Go.Proofs
/-- The bytes of a letter. -/
def letB (r : Int) : List Int :=
  if rsize r = 1 then [r] else if rsize r = 2 then [192 + r / 64, 128 + r % 64]
  else if rsize r = 3 then [224 + r / 4096, 128 + r / 64 % 64, 128 + r % 64]
  else if rsize r = 4 then [240 + r / 262144, 128 + r / 4096 % 64, 128 + r / 64 % 64, 128 + r % 64] else []
theorem sv_eq {a b : List UInt8} (h : a = b) : sv a = sv b := h ▸ rfl
theorem rsize_bd {r : Int} : (rsize r = 1 → 0 ≤ r ∧ r ≤ 127) ∧ (rsize r = 2 → 128 ≤ r ∧ r ≤ 2047) ∧ (rsize r = 3 → 2048 ≤ r ∧ r ≤ 65535) ∧ (rsize r = 4 → 65536 ≤ r ∧ r ≤ 1114111) := by
  unfold rsize
  (repeat' split) <;> omega
theorem letB_len (r : Int) : (letB r).length ≤ 4 := by
  unfold letB
  (repeat' split) <;> simp
set_option maxRecDepth 100000 in
set_option maxHeartbeats 4000000 in
theorem l1Put_c (r : Int) : Spec Tryz.prog 80 [.int .i64 r] [] [] (fun _ : Unit => sv (txt (letB r))) (fun _ => []) (fun _ => True) := by
  refine Spec.mk Tryz.func80 rfl Tryz.ntmps80 rfl ?_
  intro w0 O hR hS0; clear hR hS0
  have hb := @rsize_bd r
  have hL := l1Size_c r
  obtain ⟨n, hn⟩ : ∃ n, rsize r = n := ⟨_, rfl⟩
  rw [hn] at hL hb
  obtain ⟨hb1, hb2, hb3, hb4⟩ := hb
  repeat' (first | ((with_reducible apply iOJ); first | ((with_reducible apply iOp); refine OJ.p ?_) | with_reducible apply OJ.nil | ((with_reducible apply iOg); first | refine OJ.guardY ?_ | refine OJ.guardN ?_ | refine OJ.guardNd ?_ | refine OJ.guardU ?_ | refine OJ.guardS (fun _ => ?_) (fun _ => ?_) | fail) | ((with_reducible apply iOstore); first | (refine OJ.as AS.store ?_; rintro _ _ rfl) | (refine OJ.as AS.storeA ?_; rintro _ _ rfl) | (refine OJ.as AS.storeAV ?_; rintro _ _ rfl) | (refine OJ.as AS.storeE ?_; rintro _ _ rfl) | (refine OJ.as AS.storeEA ?_; rintro _ _ rfl) | fail) | ((with_reducible apply iOcall); first | (refine OJ.as AS.append1 ?_; rintro _ _ rfl) | (refine OJ.as AS.append ?_; rintro _ _ rfl) | (refine OJ.as (AS.call0 (hL)) ?_; rotate_right; rintro _ _ ⟨y, hy, rfl, rfl⟩) | fail) | ((with_reducible apply iObox); first | (refine OJ.as AS.box1 ?_; rintro _ _ ⟨_, rfl, rfl⟩) | (refine OJ.as AS.boxA ?_; rintro _ _ ⟨_, rfl, rfl⟩) | fail) | ((with_reducible apply iOalloc); first | (refine OJ.as AS.alloc ?_; rintro _ _ ⟨_, rfl, rfl⟩) | fail) | ((with_reducible apply iObuildSlice); first | (refine OJ.as AS.buildSlice ?_; rintro _ _ ⟨_, rfl, rfl⟩) | fail) | ((with_reducible apply iOmakeSlice); first | (refine OJ.as AS.makeSlice ?_; rintro _ _ rfl) | fail) | ((with_reducible apply iOmakeMap); first | (refine OJ.as AS.makeMap ?_; rintro _ _ ⟨_, rfl, rfl⟩) | fail) | ((with_reducible apply iOmapEntry); first | (refine OJ.as AS.mapEntry ?_; rintro _ _ ⟨_, _, rfl, rfl⟩) | fail) | ((with_reducible apply iOentryStore); first | (refine OJ.as AS.entryStore ?_; rintro _ _ rfl) | fail) | refine OJ.unboxP fun _ => ?_ | fail) | ((with_reducible apply iJ); first | refine J.seq ?_ | refine J.region ?_ | refine J.block ?_ | refine J.skip ?_ | refine J.exit ?_ | refine J.condT ?_ | refine J.condF ?_ | refine J.cond (fun _ => ?_) (fun _ => ?_) | refine J.ret (ends () trivial ?_ Ent.nil) | fail) | ((with_reducible apply iJK); first | refine JK.code ?_ | refine JK.blk ?_ | refine JK.loop ?_ | refine JK.begin ?_ | refine JK.more ?_ | fail) | ((with_reducible apply iEnt); first | exact Ent.nil | ((with_reducible apply iERow); refine Ent.row ?_ ?_) | ((with_reducible apply iEBox); first | refine Ent.box ?_ ?_ | refine Ent.box2 ?_ ?_) | ((with_reducible apply iEBlk); refine Ent.blk ?_ ?_) | ((with_reducible apply iEPure); refine Ent.pure ?_ ?_) | ((with_reducible apply iERdR); first | refine Ent.rdR ?_ | refine Ent.any ?_ | fail) | refine Ent.any ?_ | with_reducible exact Ent.refl | fail) | ((with_reducible apply iEq); with_reducible rfl) | fail)
  all_goals
    refine sv_eq ?_
    subst hn
    first
      | (simp only [letB, *, if_true, if_false]; done)
      | (simp only [letB, *, if_true, if_false]
         simp only [txt, List.map]
         done)
      | (simp only [letB, *, if_true, if_false]
         simp only [txt, List.map]
         (repeat' refine List.cons_eq_cons.2 ⟨?_, ?_⟩) <;> first | rfl | (congr 1; omega))
def putS : Nat → List Int → List UInt8 → List UInt8
  | _, [], acc => acc
  | i, x :: r, acc => match decide (rsize x = 0) || decide (80 ≤ (i : Int)) with
    | true => []
    | false => putS (i + 1) r (acc ++ txt (letB x))
def sPut (l : List Int) : List UInt8 := putS 0 l []
theorem putS_no {i : Nat} {x : Int} {r : List Int} {acc : List UInt8} (h : rsize x = 0 ∨ 80 ≤ (i : Int)) : putS i (x :: r) acc = [] := by
  have : (decide (rsize x = 0) || decide (80 ≤ (i : Int))) = true := by rw [Bool.or_eq_true, decide_eq_true_eq, decide_eq_true_eq]; exact h
  simp only [putS, this]
theorem putS_yes {i : Nat} {x : Int} {r : List Int} {acc : List UInt8} (h1 : ¬ rsize x = 0) (h2 : ¬ 80 ≤ (i : Int)) : putS i (x :: r) acc = putS (i + 1) r (acc ++ txt (letB x)) := by
  simp only [putS, decide_eq_false h1, decide_eq_false h2]
  rfl
set_option maxRecDepth 100000 in
set_option maxHeartbeats 4000000 in
theorem sPut_c (v : Value) (l : List Int) : Spec Tryz.prog 58 [v] [rd eInt v l] [] (fun _ : Unit => sv (sPut l)) (fun _ => []) (fun _ => True) := by
  refine Spec.mk Tryz.func58 rfl Tryz.ntmps58 rfl ?_
  intro w0 O hR hS0
  have hr := hR _ List.mem_cons_self; clear hR
  have hb := rd_bd (hr.h w0 hS0)
  obtain ⟨g, hg⟩ : ∃ g, sPut l = g := ⟨_, rfl⟩
  rw [hg]
  repeat' (first | ((with_reducible apply iOJ); first | ((with_reducible apply iOp); refine OJ.p ?_) | with_reducible apply OJ.nil | ((with_reducible apply iOg); first | refine OJ.guardY ?_ | refine OJ.guardN ?_ | refine OJ.guardNd ?_ | refine OJ.guardU ?_ | refine OJ.guardS (fun _ => ?_) (fun _ => ?_) | fail) | ((with_reducible apply iOstore); first | (refine OJ.as AS.store ?_; rintro _ _ rfl) | (refine OJ.as AS.storeA ?_; rintro _ _ rfl) | (refine OJ.as AS.storeAV ?_; rintro _ _ rfl) | (refine OJ.as AS.storeE ?_; rintro _ _ rfl) | (refine OJ.as AS.storeEA ?_; rintro _ _ rfl) | fail) | ((with_reducible apply iOcall); first | (refine OJ.as AS.append1 ?_; rintro _ _ rfl) | (refine OJ.as AS.append ?_; rintro _ _ rfl) | fail) | ((with_reducible apply iObox); first | (refine OJ.as AS.box1 ?_; rintro _ _ ⟨_, rfl, rfl⟩) | (refine OJ.as AS.boxA ?_; rintro _ _ ⟨_, rfl, rfl⟩) | fail) | ((with_reducible apply iOalloc); first | (refine OJ.as AS.alloc ?_; rintro _ _ ⟨_, rfl, rfl⟩) | fail) | ((with_reducible apply iObuildSlice); first | (refine OJ.as AS.buildSlice ?_; rintro _ _ ⟨_, rfl, rfl⟩) | fail) | ((with_reducible apply iOmakeSlice); first | (refine OJ.as AS.makeSlice ?_; rintro _ _ rfl) | fail) | ((with_reducible apply iOmakeMap); first | (refine OJ.as AS.makeMap ?_; rintro _ _ ⟨_, rfl, rfl⟩) | fail) | ((with_reducible apply iOmapEntry); first | (refine OJ.as AS.mapEntry ?_; rintro _ _ ⟨_, _, rfl, rfl⟩) | fail) | ((with_reducible apply iOentryStore); first | (refine OJ.as AS.entryStore ?_; rintro _ _ rfl) | fail) | refine OJ.unboxP fun _ => ?_ | fail) | ((with_reducible apply iJ); first | refine J.seq ?_ | refine J.region ?_ | refine J.block ?_ | refine J.skip ?_ | refine J.exit ?_ | refine J.condT ?_ | refine J.condF ?_ | refine J.cond (fun _ => ?_) (fun _ => ?_) | fail) | ((with_reducible apply iJK); first | refine JK.code ?_ | refine JK.blk ?_ | refine JK.loop ?_ | refine JK.begin ?_ | refine JK.more ?_ | fail) | ((with_reducible apply iEnt); first | exact Ent.nil | ((with_reducible apply iERow); refine Ent.row ?_ ?_) | ((with_reducible apply iEBox); first | refine Ent.box ?_ ?_ | refine Ent.box2 ?_ ?_) | ((with_reducible apply iEBlk); refine Ent.blk ?_ ?_) | ((with_reducible apply iEPure); refine Ent.pure ?_ ?_) | ((with_reducible apply iERdR); first | refine Ent.rdR ?_ | refine Ent.any ?_ | fail) | refine Ent.any ?_ | with_reducible exact Ent.refl | fail) | ((with_reducible apply iEq); with_reducible rfl) | fail)
  refine J.loopW (fun (i : Nat) (acc : List UInt8) _ => i ≤ l.length ∧ acc.length ≤ 4 * i ∧ g = putS i (l.drop i) acc) (fun i => l.length - i) (fun i acc _ => [(4, .int .i64 (i : Nat)), (3, sv acc), (0, v)]) (fun _ _ _ => []) 0 [] undef ⟨Nat.zero_le _, by simp, hg.symm⟩ ?_
  rintro i acc u ⟨hi, ha, hm⟩ ih
  by_cases hlt : i < l.length
  · rw [dropD (d := eInt.d) hlt] at hm
    have hc := letB_len (l.getD i eInt.d)
    have IH := fun h1 h2 => ih (i + 1) (acc ++ txt (letB (l.getD i eInt.d))) undef ⟨by omega, by rw [List.length_append, txt_len]; omega, hm.trans (putS_yes h1 h2)⟩ (by omega)
    have hno := fun h => hm.trans (putS_no h)
    clear hm ih
    have hcl : (txt (letB (l.getD i eInt.d))).length ≤ 4 := by rw [txt_len]; exact hc
    repeat' (first | ((with_reducible apply iOJ); first | ((with_reducible apply iOp); refine OJ.p ?_) | with_reducible apply OJ.nil | ((with_reducible apply iOg); first | refine OJ.guardY ?_ | refine OJ.guardN ?_ | refine OJ.guardNd ?_ | refine OJ.guardU ?_ | refine OJ.guardS (fun _ => ?_) (fun _ => ?_) | fail) | ((with_reducible apply iOstore); first | (refine OJ.as AS.store ?_; rintro _ _ rfl) | (refine OJ.as AS.storeA ?_; rintro _ _ rfl) | (refine OJ.as AS.storeAV ?_; rintro _ _ rfl) | (refine OJ.as AS.storeE ?_; rintro _ _ rfl) | (refine OJ.as AS.storeEA ?_; rintro _ _ rfl) | fail) | ((with_reducible apply iOcall); first | (refine OJ.as AS.append1 ?_; rintro _ _ rfl) | (refine OJ.as AS.append ?_; rintro _ _ rfl) | (refine OJ.as (AS.call0 (l1Size_c _)) ?_; rotate_right; rintro _ _ ⟨y, hy, rfl, rfl⟩) | (refine OJ.as (AS.call0 (l1Put_c _)) ?_; rotate_right; rintro _ _ ⟨y, hy, rfl, rfl⟩) | fail) | ((with_reducible apply iObox); first | (refine OJ.as AS.box1 ?_; rintro _ _ ⟨_, rfl, rfl⟩) | (refine OJ.as AS.boxA ?_; rintro _ _ ⟨_, rfl, rfl⟩) | fail) | ((with_reducible apply iOalloc); first | (refine OJ.as AS.alloc ?_; rintro _ _ ⟨_, rfl, rfl⟩) | fail) | ((with_reducible apply iObuildSlice); first | (refine OJ.as AS.buildSlice ?_; rintro _ _ ⟨_, rfl, rfl⟩) | fail) | ((with_reducible apply iOmakeSlice); first | (refine OJ.as AS.makeSlice ?_; rintro _ _ rfl) | fail) | ((with_reducible apply iOmakeMap); first | (refine OJ.as AS.makeMap ?_; rintro _ _ ⟨_, rfl, rfl⟩) | fail) | ((with_reducible apply iOmapEntry); first | (refine OJ.as AS.mapEntry ?_; rintro _ _ ⟨_, _, rfl, rfl⟩) | fail) | ((with_reducible apply iOentryStore); first | (refine OJ.as AS.entryStore ?_; rintro _ _ rfl) | fail) | refine OJ.unboxP fun _ => ?_ | fail) | ((with_reducible apply iJ); first | refine J.seq ?_ | refine J.region ?_ | refine J.block ?_ | refine J.skip ?_ | refine J.exit ?_ | refine J.condT ?_ | refine J.condF ?_ | refine J.cond (fun _ => ?_) (fun _ => ?_) | refine J.ret (ends () trivial ?_ Ent.nil) | fail) | ((with_reducible apply iJK); first | refine JK.code ?_ | refine JK.blk ?_ | refine JK.loop ?_ | refine JK.begin ?_ | refine JK.more ?_ | fail) | ((with_reducible apply iJL); first | refine JL.use (IH ?_ ?_) | fail) | ((with_reducible apply iEnt); first | exact Ent.nil | ((with_reducible apply iERow); refine Ent.row ?_ ?_) | ((with_reducible apply iEBox); first | refine Ent.box ?_ ?_ | refine Ent.box2 ?_ ?_) | ((with_reducible apply iEBlk); refine Ent.blk ?_ ?_) | ((with_reducible apply iEPure); refine Ent.pure ?_ ?_) | ((with_reducible apply iERdR); first | refine Ent.rdR ?_ | refine Ent.any ?_ | fail) | refine Ent.any ?_ | with_reducible exact Ent.refl | fail) | ((with_reducible apply iEq); with_reducible rfl) | fail)
    all_goals first | assumption | (refine sv_eq ?_; exact (hno (by omega)).symm) | (exfalso; omega) | skip
  · obtain rfl : g = acc := by rw [hm, List.drop_of_length_le (by omega)]; rfl
    clear ih hm
    repeat' (first | ((with_reducible apply iOJ); first | ((with_reducible apply iOp); refine OJ.p ?_) | with_reducible apply OJ.nil | ((with_reducible apply iOg); first | refine OJ.guardY ?_ | refine OJ.guardN ?_ | refine OJ.guardNd ?_ | refine OJ.guardU ?_ | refine OJ.guardS (fun _ => ?_) (fun _ => ?_) | fail) | ((with_reducible apply iOstore); first | (refine OJ.as AS.store ?_; rintro _ _ rfl) | (refine OJ.as AS.storeA ?_; rintro _ _ rfl) | (refine OJ.as AS.storeAV ?_; rintro _ _ rfl) | (refine OJ.as AS.storeE ?_; rintro _ _ rfl) | (refine OJ.as AS.storeEA ?_; rintro _ _ rfl) | fail) | ((with_reducible apply iOcall); first | (refine OJ.as AS.append1 ?_; rintro _ _ rfl) | (refine OJ.as AS.append ?_; rintro _ _ rfl) | fail) | ((with_reducible apply iObox); first | (refine OJ.as AS.box1 ?_; rintro _ _ ⟨_, rfl, rfl⟩) | (refine OJ.as AS.boxA ?_; rintro _ _ ⟨_, rfl, rfl⟩) | fail) | ((with_reducible apply iOalloc); first | (refine OJ.as AS.alloc ?_; rintro _ _ ⟨_, rfl, rfl⟩) | fail) | ((with_reducible apply iObuildSlice); first | (refine OJ.as AS.buildSlice ?_; rintro _ _ ⟨_, rfl, rfl⟩) | fail) | ((with_reducible apply iOmakeSlice); first | (refine OJ.as AS.makeSlice ?_; rintro _ _ rfl) | fail) | ((with_reducible apply iOmakeMap); first | (refine OJ.as AS.makeMap ?_; rintro _ _ ⟨_, rfl, rfl⟩) | fail) | ((with_reducible apply iOmapEntry); first | (refine OJ.as AS.mapEntry ?_; rintro _ _ ⟨_, _, rfl, rfl⟩) | fail) | ((with_reducible apply iOentryStore); first | (refine OJ.as AS.entryStore ?_; rintro _ _ rfl) | fail) | refine OJ.unboxP fun _ => ?_ | fail) | ((with_reducible apply iJ); first | refine J.seq ?_ | refine J.region ?_ | refine J.block ?_ | refine J.skip ?_ | refine J.exit ?_ | refine J.condT ?_ | refine J.condF ?_ | refine J.cond (fun _ => ?_) (fun _ => ?_) | refine J.ret (ends () trivial ?_ Ent.nil) | fail) | ((with_reducible apply iJK); first | refine JK.code ?_ | refine JK.blk ?_ | refine JK.loop ?_ | refine JK.begin ?_ | refine JK.more ?_ | fail) | ((with_reducible apply iEnt); first | exact Ent.nil | ((with_reducible apply iERow); refine Ent.row ?_ ?_) | ((with_reducible apply iEBox); first | refine Ent.box ?_ ?_ | refine Ent.box2 ?_ ?_) | ((with_reducible apply iEBlk); refine Ent.blk ?_ ?_) | ((with_reducible apply iEPure); refine Ent.pure ?_ ?_) | ((with_reducible apply iERdR); first | refine Ent.rdR ?_ | refine Ent.any ?_ | fail) | refine Ent.any ?_ | with_reducible exact Ent.refl | fail) | ((with_reducible apply iEq); with_reducible rfl) | fail)
    all_goals first | rfl | (exfalso; omega)
end Go.SL

/- trial 2 -/
set_option linter.unusedVariables false
set_option linter.unusedSimpArgs false
namespace Go.SL
open Go.RowKit Go.Proofs
structure Span where
  fr : Int
  to : Int
  size : Int
  mark : Int
def eSpan : Enc Span where
  sz := 4
  f s := [.int .i64 s.fr, .int .i64 s.to, .int .i64 s.size, .int .i64 s.mark]
  d := ⟨0, 0, 0, 0⟩
  dec
    | [.int .i64 a, .int .i64 b, .int .i64 c, .int .i64 d] => some ⟨a, b, c, d⟩
    | _ => none
  pos := by decide
  len _ := rfl
  one x u hu := by simp at hu; rcases hu with h | h | h | h <;> (rw [h]; rfl)
  inv cs x h := by
    split at h
    · injection h with h; rw [← h]
    · cases h
instance : EncN 98 eSpan := ⟨trivial⟩
def w64 (n : Int) : Int := IntKind.i64.wrap n
def sl6Ok (s : Span) (n : Int) : Bool := inR s.fr 0 (w64 (n - 1)) && (inR s.to (w64 (s.fr + 1)) n && (inR s.size 1 40 && inR s.mark 0 9))
set_option maxRecDepth 100000 in
theorem l6Ok_c (s : Span) (n : Int) : Spec Tryz.prog 100 [.agg #[.int .i64 s.fr, .int .i64 s.to, .int .i64 s.size, .int .i64 s.mark], .int .i64 n] [] [] (fun _ : Unit => .bool (sl6Ok s n)) (fun _ => []) (fun _ => True) := by
  refine Spec.mk Tryz.func100 rfl Tryz.ntmps100 rfl ?_
  intro w0 O hR hS0; clear hR hS0
  repeat' (first | ((with_reducible apply iOJ); first | ((with_reducible apply iOp); refine OJ.p ?_) | with_reducible apply OJ.nil | ((with_reducible apply iOg); first | refine OJ.guardY ?_ | refine OJ.guardN ?_ | refine OJ.guardNd ?_ | refine OJ.guardU ?_ | refine OJ.guardS (fun _ => ?_) (fun _ => ?_) | fail) | ((with_reducible apply iOstore); first | (refine OJ.as AS.store ?_; rintro _ _ rfl) | (refine OJ.as AS.storeA ?_; rintro _ _ rfl) | (refine OJ.as AS.storeAV ?_; rintro _ _ rfl) | (refine OJ.as AS.storeE ?_; rintro _ _ rfl) | (refine OJ.as AS.storeEA ?_; rintro _ _ rfl) | fail) | ((with_reducible apply iOcall); first | (refine OJ.as AS.append1 ?_; rintro _ _ rfl) | (refine OJ.as AS.append ?_; rintro _ _ rfl) | (refine OJ.as (AS.call0 (l1In_c _ _ _)) ?_; rotate_right; rintro _ _ ⟨y, hy, rfl, rfl⟩) | fail) | ((with_reducible apply iObox); first | (refine OJ.as AS.box1 ?_; rintro _ _ ⟨_, rfl, rfl⟩) | (refine OJ.as AS.boxA ?_; rintro _ _ ⟨_, rfl, rfl⟩) | fail) | ((with_reducible apply iOalloc); first | (refine OJ.as AS.alloc ?_; rintro _ _ ⟨_, rfl, rfl⟩) | fail) | ((with_reducible apply iObuildSlice); first | (refine OJ.as AS.buildSlice ?_; rintro _ _ ⟨_, rfl, rfl⟩) | fail) | ((with_reducible apply iOmakeSlice); first | (refine OJ.as AS.makeSlice ?_; rintro _ _ rfl) | fail) | ((with_reducible apply iOmakeMap); first | (refine OJ.as AS.makeMap ?_; rintro _ _ ⟨_, rfl, rfl⟩) | fail) | ((with_reducible apply iOmapEntry); first | (refine OJ.as AS.mapEntry ?_; rintro _ _ ⟨_, _, rfl, rfl⟩) | fail) | ((with_reducible apply iOentryStore); first | (refine OJ.as AS.entryStore ?_; rintro _ _ rfl) | fail) | refine OJ.unboxP fun _ => ?_ | fail) | ((with_reducible apply iJ); first | refine J.seq ?_ | refine J.region ?_ | refine J.block ?_ | refine J.skip ?_ | refine J.exit ?_ | refine J.condT ?_ | refine J.condF ?_ | refine J.cond (fun _ => ?_) (fun _ => ?_) | fail) | ((with_reducible apply iJK); first | refine JK.code ?_ | refine JK.blk ?_ | refine JK.loop ?_ | refine JK.begin ?_ | refine JK.more ?_ | fail) | ((with_reducible apply iEnt); first | exact Ent.nil | ((with_reducible apply iERow); refine Ent.row ?_ ?_) | ((with_reducible apply iEBox); first | refine Ent.box ?_ ?_ | refine Ent.box2 ?_ ?_) | ((with_reducible apply iEBlk); refine Ent.blk ?_ ?_) | ((with_reducible apply iEPure); refine Ent.pure ?_ ?_) | ((with_reducible apply iERdR); first | refine Ent.rdR ?_ | refine Ent.any ?_ | fail) | refine Ent.any ?_ | with_reducible exact Ent.refl | fail) | ((with_reducible apply iEq); with_reducible rfl) | fail)
  all_goals refine J.ret (ends () trivial ?_ Ent.nil)
  all_goals exact congrArg Value.bool (by simp [sl6Ok, w64, *])
end Go.SL

/- trial 4: a loop, a region that draws -/
set_option linter.unusedVariables false
set_option linter.unusedSimpArgs false
namespace Go.SL
open Go.RowKit Go.Proofs
def sAt (l : List Span) (n : Int) (i : Nat) : Bool := sl6Ok (l.getD i eSpan.d) n && (decide (i = 0) || decide ((l.getD (i - 1) eSpan.d).to ≤ (l.getD i eSpan.d).fr))
def sSpansOk (l : List Span) (n : Int) : Bool := allI (sAt l n) (l.length - 0) 0 && (decide (l.length ≤ 12) && inR n 0 80)
set_option maxRecDepth 100000 in
set_option maxHeartbeats 4000000 in
theorem SpansOk_c (v : Value) (l : List Span) (n : Int) : Spec Tryz.prog 57 [v, .int .i64 n] [rd eSpan v l] [] (fun _ : Unit => .bool (sSpansOk l n)) (fun _ => []) (fun _ => True) := by
  refine Spec.mk Tryz.func57 rfl Tryz.ntmps57 rfl ?_
  intro w0 O hR hS0
  have hr := hR _ List.mem_cons_self; clear hR
  repeat' (first | ((with_reducible apply iOJ); first | ((with_reducible apply iOp); refine OJ.p ?_) | with_reducible apply OJ.nil | ((with_reducible apply iOg); first | refine OJ.guardY ?_ | refine OJ.guardN ?_ | refine OJ.guardNd ?_ | refine OJ.guardU ?_ | refine OJ.guardS (fun _ => ?_) (fun _ => ?_) | fail) | ((with_reducible apply iOstore); first | (refine OJ.as AS.store ?_; rintro _ _ rfl) | (refine OJ.as AS.storeA ?_; rintro _ _ rfl) | (refine OJ.as AS.storeAV ?_; rintro _ _ rfl) | (refine OJ.as AS.storeE ?_; rintro _ _ rfl) | (refine OJ.as AS.storeEA ?_; rintro _ _ rfl) | fail) | ((with_reducible apply iOcall); first | (refine OJ.as AS.append1 ?_; rintro _ _ rfl) | (refine OJ.as AS.append ?_; rintro _ _ rfl) | fail) | ((with_reducible apply iObox); first | (refine OJ.as AS.box1 ?_; rintro _ _ ⟨_, rfl, rfl⟩) | (refine OJ.as AS.boxA ?_; rintro _ _ ⟨_, rfl, rfl⟩) | fail) | ((with_reducible apply iOalloc); first | (refine OJ.as AS.alloc ?_; rintro _ _ ⟨_, rfl, rfl⟩) | fail) | ((with_reducible apply iObuildSlice); first | (refine OJ.as AS.buildSlice ?_; rintro _ _ ⟨_, rfl, rfl⟩) | fail) | ((with_reducible apply iOmakeSlice); first | (refine OJ.as AS.makeSlice ?_; rintro _ _ rfl) | fail) | ((with_reducible apply iOmakeMap); first | (refine OJ.as AS.makeMap ?_; rintro _ _ ⟨_, rfl, rfl⟩) | fail) | ((with_reducible apply iOmapEntry); first | (refine OJ.as AS.mapEntry ?_; rintro _ _ ⟨_, _, rfl, rfl⟩) | fail) | ((with_reducible apply iOentryStore); first | (refine OJ.as AS.entryStore ?_; rintro _ _ rfl) | fail) | refine OJ.unboxP fun _ => ?_ | fail) | ((with_reducible apply iJ); first | refine J.seq ?_ | refine J.region ?_ | refine J.block ?_ | refine J.skip ?_ | refine J.exit ?_ | refine J.condT ?_ | refine J.condF ?_ | refine J.cond (fun _ => ?_) (fun _ => ?_) | fail) | ((with_reducible apply iJK); first | refine JK.code ?_ | refine JK.blk ?_ | refine JK.loop ?_ | refine JK.begin ?_ | refine JK.more ?_ | fail) | ((with_reducible apply iEnt); first | exact Ent.nil | ((with_reducible apply iERow); refine Ent.row ?_ ?_) | ((with_reducible apply iEBox); first | refine Ent.box ?_ ?_ | refine Ent.box2 ?_ ?_) | ((with_reducible apply iEBlk); refine Ent.blk ?_ ?_) | ((with_reducible apply iEPure); refine Ent.pure ?_ ?_) | ((with_reducible apply iERdR); first | refine Ent.rdR ?_ | refine Ent.any ?_ | fail) | refine Ent.any ?_ | with_reducible exact Ent.refl | fail) | ((with_reducible apply iEq); with_reducible rfl) | fail)
  refine J.loopI (fun i : Nat => i ≤ l.length ∧ sSpansOk l n = (allI (sAt l n) (l.length - i) i && (decide (l.length ≤ 12) && inR n 0 80))) (fun i => l.length - i) (fun i => [(5, .int .i64 i), (0, v), (1, .int .i64 n)]) (fun _ => []) 0 ⟨Nat.zero_le _, rfl⟩ ?_
  rintro i ⟨hi, hm⟩ ih
  have hb := rd_bd (hr.h w0 hS0)
  repeat' (first | ((with_reducible apply iOJ); first | ((with_reducible apply iOp); refine OJ.p ?_) | with_reducible apply OJ.nil | ((with_reducible apply iOg); first | refine OJ.guardY ?_ | refine OJ.guardN ?_ | refine OJ.guardNd ?_ | refine OJ.guardU ?_ | refine OJ.guardS (fun _ => ?_) (fun _ => ?_) | fail) | ((with_reducible apply iOstore); first | (refine OJ.as AS.store ?_; rintro _ _ rfl) | (refine OJ.as AS.storeA ?_; rintro _ _ rfl) | (refine OJ.as AS.storeAV ?_; rintro _ _ rfl) | (refine OJ.as AS.storeE ?_; rintro _ _ rfl) | (refine OJ.as AS.storeEA ?_; rintro _ _ rfl) | fail) | ((with_reducible apply iOcall); first | (refine OJ.as AS.append1 ?_; rintro _ _ rfl) | (refine OJ.as AS.append ?_; rintro _ _ rfl) | (refine OJ.as (AS.call0 (l1In_c _ _ _)) ?_; rotate_right; rintro _ _ ⟨y, hy, rfl, rfl⟩) | fail) | ((with_reducible apply iObox); first | (refine OJ.as AS.box1 ?_; rintro _ _ ⟨_, rfl, rfl⟩) | (refine OJ.as AS.boxA ?_; rintro _ _ ⟨_, rfl, rfl⟩) | fail) | ((with_reducible apply iOalloc); first | (refine OJ.as AS.alloc ?_; rintro _ _ ⟨_, rfl, rfl⟩) | fail) | ((with_reducible apply iObuildSlice); first | (refine OJ.as AS.buildSlice ?_; rintro _ _ ⟨_, rfl, rfl⟩) | fail) | ((with_reducible apply iOmakeSlice); first | (refine OJ.as AS.makeSlice ?_; rintro _ _ rfl) | fail) | ((with_reducible apply iOmakeMap); first | (refine OJ.as AS.makeMap ?_; rintro _ _ ⟨_, rfl, rfl⟩) | fail) | ((with_reducible apply iOmapEntry); first | (refine OJ.as AS.mapEntry ?_; rintro _ _ ⟨_, _, rfl, rfl⟩) | fail) | ((with_reducible apply iOentryStore); first | (refine OJ.as AS.entryStore ?_; rintro _ _ rfl) | fail) | refine OJ.unboxP fun _ => ?_ | fail) | ((with_reducible apply iJ); first | refine J.seq ?_ | refine J.region ?_ | refine J.block ?_ | refine J.skip ?_ | refine J.exit ?_ | refine J.condT ?_ | refine J.condF ?_ | refine J.cond (fun _ => ?_) (fun _ => ?_) | refine J.draw ?_ | refine J.retB (allI_off hm (by omega) ?_) | refine J.retB (allI_fin hm (by omega) ?_) | fail) | ((with_reducible apply iJK); first | refine JK.code ?_ | refine JK.blk ?_ | refine JK.loop ?_ | refine JK.begin ?_ | refine JK.more ?_ | fail) | ((with_reducible apply iAJ); first | refine AJ.rebase ?_ | refine AJ.regain ?_ | refine AJ.take ?_ | refine AJ.takeY ?_ | refine AJ.takeN ?_ | refine AJ.takeNd ?_ | refine AJ.takeNS ?_ | refine AJ.takeU ?_ | refine AJ.sel ?_ | refine AJ.selY ?_ | refine AJ.sel2 ?_ ?_ | refine AJ.split (fun _ => ?_) (fun _ => ?_) | refine AJ.done ?_ | fail) | ((with_reducible apply iAO); first | ((with_reducible apply iAstore); first | (refine AO.as AS.store ?_; rotate_right; rintro _ _ rfl; refine AO.step ?_) | (refine AO.as AS.storeA ?_; rotate_right; rintro _ _ rfl; refine AO.step ?_) | (refine AO.as AS.storeAV ?_; rotate_right; rintro _ _ rfl; refine AO.step ?_) | (refine AO.as AS.storeE ?_; rotate_right; rintro _ _ rfl; refine AO.step ?_) | (refine AO.as AS.storeEA ?_; rotate_right; rintro _ _ rfl; refine AO.step ?_) | fail) | ((with_reducible apply iAcall); first | (refine AO.as AS.append1 ?_; rotate_right; rintro _ _ rfl; refine AO.step ?_) | (refine AO.as AS.append ?_; rotate_right; rintro _ _ rfl; refine AO.step ?_) | (refine AO.as (AS.call0 (l6Ok_c _ _)) ?_; rotate_right; rintro _ _ ⟨y, hy, rfl, rfl⟩; refine AO.step ?_) | fail) | ((with_reducible apply iAbox); first | (refine AO.as AS.box1 ?_; rotate_right; rintro _ _ ⟨_, rfl, rfl⟩; refine AO.step ?_) | (refine AO.as AS.boxA ?_; rotate_right; rintro _ _ ⟨_, rfl, rfl⟩; refine AO.step ?_) | fail) | ((with_reducible apply iAalloc); first | (refine AO.as AS.alloc ?_; rotate_right; rintro _ _ ⟨_, rfl, rfl⟩; refine AO.step ?_) | fail) | ((with_reducible apply iAbuildSlice); first | (refine AO.as AS.buildSlice ?_; rotate_right; rintro _ _ ⟨_, rfl, rfl⟩; refine AO.step ?_) | fail) | ((with_reducible apply iAmakeSlice); first | (refine AO.as AS.makeSlice ?_; rotate_right; rintro _ _ rfl; refine AO.step ?_) | fail) | ((with_reducible apply iAmakeMap); first | (refine AO.as AS.makeMap ?_; rotate_right; rintro _ _ ⟨_, rfl, rfl⟩; refine AO.step ?_) | fail) | ((with_reducible apply iAmapEntry); first | (refine AO.as AS.mapEntry ?_; rotate_right; rintro _ _ ⟨_, _, rfl, rfl⟩; refine AO.step ?_) | fail) | ((with_reducible apply iAentryStore); first | (refine AO.as AS.entryStore ?_; rotate_right; rintro _ _ rfl; refine AO.step ?_) | fail) | fail) | ((with_reducible apply iJL); first | refine JL.use (ih (i + 1) ⟨by omega, allI_on hm (by omega) ?_⟩ (by omega)) | fail) | ((with_reducible apply iEnt); first | exact Ent.nil | ((with_reducible apply iERow); refine Ent.row ?_ ?_) | ((with_reducible apply iEBox); first | refine Ent.box ?_ ?_ | refine Ent.box2 ?_ ?_) | ((with_reducible apply iEBlk); refine Ent.blk ?_ ?_) | ((with_reducible apply iEPure); refine Ent.pure ?_ ?_) | ((with_reducible apply iERdR); first | refine Ent.rdR ?_ | refine Ent.any ?_ | fail) | refine Ent.any ?_ | with_reducible exact Ent.refl | fail) | ((with_reducible apply iEq); with_reducible rfl) | fail)
  all_goals clear ih hr hS0; try simp only [toNat1] at *
  all_goals simp [-List.getD_eq_getElem?_getD, toNat1, sAt, *] <;> omega
end Go.SL

/- A paragraph; spec.ParaCheck, l9Make. -/
set_option linter.unusedVariables false
set_option linter.unusedSimpArgs false
namespace Go.SL
open Go.RowKit Go.Proofs
structure Para where
  text : List UInt8
  base : Int
  wide : Int
  mode : Int
  align : Int
  spans : List Span
/-- A paragraph as it lies; v: its spans. -/
def pv (p : Para) (v : Value) : Value := .agg #[sv p.text, .int .i64 p.base, .int .i64 p.wide, .int .i64 p.mode, .int .i64 p.align, v]
def sCheck (p : Para) : Int := match iGet p.text with
  | none => 1
  | some xs => match sSpansOk p.spans xs.length with
    | false => 2
    | true => match inR p.wide 0 20000 with
      | false => 3
      | true => match inR p.base 0 2 && inR p.mode 0 1 && inR p.align 0 3 with
        | false => 4
        | true => 0
set_option maxRecDepth 100000 in
set_option maxHeartbeats 4000000 in
theorem sCheck_c (p : Para) (v : Value) (ht : p.text.length ≤ 10000000) : Spec Tryz.prog 26 [pv p v] [rd eSpan v p.spans] [] (fun _ : Unit => .int .i64 (sCheck p)) (fun _ => []) (fun _ => True) := by
  refine Spec.mk Tryz.func26 rfl Tryz.ntmps26 rfl ?_
  intro w0 O hR hS0
  have hr := hR _ List.mem_cons_self; clear hR hS0
  have hG := sGet_c p.text ht
  obtain ⟨g, hg⟩ : ∃ g, sCheck p = g := ⟨_, rfl⟩
  rw [hg]
  cases h : iGet p.text with
  | none =>
    rw [h] at hG
    dsimp only [Option.isSome, Option.getD] at hG
    obtain rfl : g = 1 := by rw [← hg]; simp only [sCheck, h]
    repeat' (first | ((with_reducible apply iOJ); first | ((with_reducible apply iOp); refine OJ.p ?_) | with_reducible apply OJ.nil | ((with_reducible apply iOg); first | refine OJ.guardY ?_ | refine OJ.guardN ?_ | refine OJ.guardNd ?_ | refine OJ.guardU ?_ | refine OJ.guardS (fun _ => ?_) (fun _ => ?_) | fail) | ((with_reducible apply iOstore); first | (refine OJ.as AS.store ?_; rintro _ _ rfl) | (refine OJ.as AS.storeA ?_; rintro _ _ rfl) | (refine OJ.as AS.storeAV ?_; rintro _ _ rfl) | (refine OJ.as AS.storeE ?_; rintro _ _ rfl) | (refine OJ.as AS.storeEA ?_; rintro _ _ rfl) | fail) | ((with_reducible apply iOcall); first | (refine OJ.as AS.append1 ?_; rintro _ _ rfl) | (refine OJ.as AS.append ?_; rintro _ _ rfl) | (refine OJ.as (AS.call1 (hG)) ?_; rotate_right; rintro _ _ ⟨y, hy, rfl, rfl⟩) | fail) | ((with_reducible apply iObox); first | (refine OJ.as AS.box1 ?_; rintro _ _ ⟨_, rfl, rfl⟩) | (refine OJ.as AS.boxA ?_; rintro _ _ ⟨_, rfl, rfl⟩) | fail) | ((with_reducible apply iOalloc); first | (refine OJ.as AS.alloc ?_; rintro _ _ ⟨_, rfl, rfl⟩) | fail) | ((with_reducible apply iObuildSlice); first | (refine OJ.as AS.buildSlice ?_; rintro _ _ ⟨_, rfl, rfl⟩) | fail) | ((with_reducible apply iOmakeSlice); first | (refine OJ.as AS.makeSlice ?_; rintro _ _ rfl) | fail) | ((with_reducible apply iOmakeMap); first | (refine OJ.as AS.makeMap ?_; rintro _ _ ⟨_, rfl, rfl⟩) | fail) | ((with_reducible apply iOmapEntry); first | (refine OJ.as AS.mapEntry ?_; rintro _ _ ⟨_, _, rfl, rfl⟩) | fail) | ((with_reducible apply iOentryStore); first | (refine OJ.as AS.entryStore ?_; rintro _ _ rfl) | fail) | refine OJ.unboxP fun _ => ?_ | fail) | ((with_reducible apply iJ); first | refine J.seq ?_ | refine J.region ?_ | refine J.block ?_ | refine J.skip ?_ | refine J.exit ?_ | refine J.condT ?_ | refine J.condF ?_ | refine J.cond (fun _ => ?_) (fun _ => ?_) | refine J.ret (ends () trivial ?_ Ent.nil) | fail) | ((with_reducible apply iJK); first | refine JK.code ?_ | refine JK.blk ?_ | refine JK.loop ?_ | refine JK.begin ?_ | refine JK.more ?_ | fail) | ((with_reducible apply iEnt); first | exact Ent.nil | ((with_reducible apply iERow); refine Ent.row ?_ ?_) | ((with_reducible apply iEBox); first | refine Ent.box ?_ ?_ | refine Ent.box2 ?_ ?_) | ((with_reducible apply iEBlk); refine Ent.blk ?_ ?_) | ((with_reducible apply iEPure); refine Ent.pure ?_ ?_) | ((with_reducible apply iERdR); first | refine Ent.rdR ?_ | refine Ent.any ?_ | fail) | refine Ent.any ?_ | with_reducible exact Ent.refl | fail) | ((with_reducible apply iEq); with_reducible rfl) | fail)
    rfl
  | some xs =>
    rw [h] at hG
    dsimp only [Option.isSome, Option.getD] at hG
    repeat' (first | ((with_reducible apply iOJ); first | ((with_reducible apply iOp); refine OJ.p ?_) | with_reducible apply OJ.nil | ((with_reducible apply iOg); first | refine OJ.guardY ?_ | refine OJ.guardN ?_ | refine OJ.guardNd ?_ | refine OJ.guardU ?_ | refine OJ.guardS (fun _ => ?_) (fun _ => ?_) | fail) | ((with_reducible apply iOstore); first | (refine OJ.as AS.store ?_; rintro _ _ rfl) | (refine OJ.as AS.storeA ?_; rintro _ _ rfl) | (refine OJ.as AS.storeAV ?_; rintro _ _ rfl) | (refine OJ.as AS.storeE ?_; rintro _ _ rfl) | (refine OJ.as AS.storeEA ?_; rintro _ _ rfl) | fail) | ((with_reducible apply iOcall); first | (refine OJ.as AS.append1 ?_; rintro _ _ rfl) | (refine OJ.as AS.append ?_; rintro _ _ rfl) | (refine OJ.as (AS.call1 (hG)) ?_; rotate_right; rintro _ _ ⟨y, hy, rfl, rfl⟩) | (refine OJ.as (AS.call0 (SpansOk_c _ _ _)) ?_; rotate_right; rintro _ _ ⟨y, hy, rfl, rfl⟩) | (refine OJ.as (AS.call0 (l1In_c _ _ _)) ?_; rotate_right; rintro _ _ ⟨y, hy, rfl, rfl⟩) | fail) | ((with_reducible apply iObox); first | (refine OJ.as AS.box1 ?_; rintro _ _ ⟨_, rfl, rfl⟩) | (refine OJ.as AS.boxA ?_; rintro _ _ ⟨_, rfl, rfl⟩) | fail) | ((with_reducible apply iOalloc); first | (refine OJ.as AS.alloc ?_; rintro _ _ ⟨_, rfl, rfl⟩) | fail) | ((with_reducible apply iObuildSlice); first | (refine OJ.as AS.buildSlice ?_; rintro _ _ ⟨_, rfl, rfl⟩) | fail) | ((with_reducible apply iOmakeSlice); first | (refine OJ.as AS.makeSlice ?_; rintro _ _ rfl) | fail) | ((with_reducible apply iOmakeMap); first | (refine OJ.as AS.makeMap ?_; rintro _ _ ⟨_, rfl, rfl⟩) | fail) | ((with_reducible apply iOmapEntry); first | (refine OJ.as AS.mapEntry ?_; rintro _ _ ⟨_, _, rfl, rfl⟩) | fail) | ((with_reducible apply iOentryStore); first | (refine OJ.as AS.entryStore ?_; rintro _ _ rfl) | fail) | refine OJ.unboxP fun _ => ?_ | fail) | ((with_reducible apply iJ); first | refine J.seq ?_ | refine J.region ?_ | refine J.block ?_ | refine J.skip ?_ | refine J.exit ?_ | refine J.condT ?_ | refine J.condF ?_ | refine J.cond (fun _ => ?_) (fun _ => ?_) | refine J.ret (ends () trivial ?_ Ent.nil) | fail) | ((with_reducible apply iJK); first | refine JK.code ?_ | refine JK.blk ?_ | refine JK.loop ?_ | refine JK.begin ?_ | refine JK.more ?_ | fail) | ((with_reducible apply iEnt); first | exact Ent.nil | ((with_reducible apply iERow); refine Ent.row ?_ ?_) | ((with_reducible apply iEBox); first | refine Ent.box ?_ ?_ | refine Ent.box2 ?_ ?_) | ((with_reducible apply iEBlk); refine Ent.blk ?_ ?_) | ((with_reducible apply iEPure); refine Ent.pure ?_ ?_) | ((with_reducible apply iERdR); first | refine Ent.rdR ?_ | refine Ent.any ?_ | fail) | refine Ent.any ?_ | with_reducible exact Ent.refl | fail) | ((with_reducible apply iEq); with_reducible rfl) | fail)
    all_goals
      refine int_eq ?_
      rw [← hg]
      simp only [sCheck, h, *, Bool.and_true, Bool.and_false, Bool.true_and, Bool.false_and]
/-- What comes of other letters and spans. -/
def sMake (p : Para) (xs : List Int) (sp : List Span) : Para := { p with text := sPut xs, spans := sp }
set_option maxRecDepth 100000 in
set_option maxHeartbeats 4000000 in
theorem sMake_c (p : Para) (v vx vs : Value) (xs : List Int) (sp : List Span) (hsp : sp.length ≤ 1000000) : Spec Tryz.prog 28 [pv p v, vx, vs] [rd eSpan v p.spans, rd eInt vx xs, rd eSpan vs sp] [] (fun u : Value => pv (sMake p xs sp) u) (fun u => [row eSpan 98 u sp]) (fun _ => True) := by
  refine Spec.mk Tryz.func28 rfl Tryz.ntmps28 rfl ?_
  intro w0 O hR hS0
  have hr := hR _ List.mem_cons_self
  have hr2 := hR _ (List.mem_cons_of_mem _ List.mem_cons_self)
  have hr3 := hR _ (List.mem_cons_of_mem _ (List.mem_cons_of_mem _ List.mem_cons_self)); clear hR hS0
  repeat' (first | ((with_reducible apply iOJ); first | ((with_reducible apply iOp); refine OJ.p ?_) | with_reducible apply OJ.nil | ((with_reducible apply iOg); first | refine OJ.guardY ?_ | refine OJ.guardN ?_ | refine OJ.guardNd ?_ | refine OJ.guardU ?_ | refine OJ.guardS (fun _ => ?_) (fun _ => ?_) | fail) | ((with_reducible apply iOstore); first | (refine OJ.as AS.store ?_; rintro _ _ rfl) | (refine OJ.as AS.storeA ?_; rintro _ _ rfl) | (refine OJ.as AS.storeAV ?_; rintro _ _ rfl) | (refine OJ.as AS.storeE ?_; rintro _ _ rfl) | (refine OJ.as AS.storeEA ?_; rintro _ _ rfl) | fail) | ((with_reducible apply iOcall); first | (refine OJ.as AS.append1 ?_; rintro _ _ rfl) | (refine OJ.as AS.append ?_; rintro _ _ rfl) | (refine OJ.as (AS.call0 (sPut_c _ _)) ?_; rotate_right; rintro _ _ ⟨y, hy, rfl, rfl⟩) | fail) | ((with_reducible apply iObox); first | (refine OJ.as AS.box1 ?_; rintro _ _ ⟨_, rfl, rfl⟩) | (refine OJ.as AS.boxA ?_; rintro _ _ ⟨_, rfl, rfl⟩) | fail) | ((with_reducible apply iOalloc); first | (refine OJ.as AS.alloc ?_; rintro _ _ ⟨_, rfl, rfl⟩) | fail) | ((with_reducible apply iObuildSlice); first | (refine OJ.as AS.buildSlice ?_; rintro _ _ ⟨_, rfl, rfl⟩) | fail) | ((with_reducible apply iOmakeSlice); first | (refine OJ.as AS.makeSlice ?_; rintro _ _ rfl) | fail) | ((with_reducible apply iOmakeMap); first | (refine OJ.as AS.makeMap ?_; rintro _ _ ⟨_, rfl, rfl⟩) | fail) | ((with_reducible apply iOmapEntry); first | (refine OJ.as AS.mapEntry ?_; rintro _ _ ⟨_, _, rfl, rfl⟩) | fail) | ((with_reducible apply iOentryStore); first | (refine OJ.as AS.entryStore ?_; rintro _ _ rfl) | fail) | refine OJ.unboxP fun _ => ?_ | fail) | ((with_reducible apply iJ); first | refine J.seq ?_ | refine J.region ?_ | refine J.block ?_ | refine J.skip ?_ | refine J.exit ?_ | refine J.condT ?_ | refine J.condF ?_ | refine J.cond (fun _ => ?_) (fun _ => ?_) | refine J.retC (ends _ trivial rfl ?_) | fail) | ((with_reducible apply iJK); first | refine JK.code ?_ | refine JK.blk ?_ | refine JK.loop ?_ | refine JK.begin ?_ | refine JK.more ?_ | fail) | ((with_reducible apply iEnt); first | exact Ent.nil | ((with_reducible apply iERow); refine Ent.row ?_ ?_) | ((with_reducible apply iEBox); first | refine Ent.box ?_ ?_ | refine Ent.box2 ?_ ?_) | ((with_reducible apply iEBlk); refine Ent.blk ?_ ?_) | ((with_reducible apply iEPure); refine Ent.pure ?_ ?_) | ((with_reducible apply iERdR); first | refine Ent.rdR ?_ | refine Ent.any ?_ | fail) | refine Ent.any ?_ | with_reducible exact Ent.refl | fail) | ((with_reducible apply iEq); with_reducible rfl) | fail)
  rfl
end Go.SL

/- spec.l6At -/
set_option linter.unusedVariables false
set_option linter.unusedSimpArgs false
namespace Go.SL
open Go.RowKit Go.Proofs
def sAtL (n : Int) : List Span → Int × Int
  | [] => (10, 0)
  | s :: l => match inR n s.fr (w64 (s.to - 1)) with
    | true => (s.size, s.mark)
    | false => sAtL n l
set_option maxRecDepth 100000 in
set_option maxHeartbeats 4000000 in
theorem l6At_c (v : Value) (l : List Span) (n : Int) : Spec Tryz.prog 101 [v, .int .i64 n] [rd eSpan v l] [] (fun _ : Unit => .tuple #[.int .i64 (sAtL n l).1, .int .i64 (sAtL n l).2]) (fun _ => []) (fun _ => True) := by
  refine Spec.mk Tryz.func101 rfl Tryz.ntmps101 rfl ?_
  intro w0 O hR hS0
  have hr := hR _ List.mem_cons_self; clear hR
  repeat' (first | ((with_reducible apply iOJ); first | ((with_reducible apply iOp); refine OJ.p ?_) | with_reducible apply OJ.nil | ((with_reducible apply iOg); first | refine OJ.guardY ?_ | refine OJ.guardN ?_ | refine OJ.guardNd ?_ | refine OJ.guardU ?_ | refine OJ.guardS (fun _ => ?_) (fun _ => ?_) | fail) | ((with_reducible apply iOstore); first | (refine OJ.as AS.store ?_; rintro _ _ rfl) | (refine OJ.as AS.storeA ?_; rintro _ _ rfl) | (refine OJ.as AS.storeAV ?_; rintro _ _ rfl) | (refine OJ.as AS.storeE ?_; rintro _ _ rfl) | (refine OJ.as AS.storeEA ?_; rintro _ _ rfl) | fail) | ((with_reducible apply iOcall); first | (refine OJ.as AS.append1 ?_; rintro _ _ rfl) | (refine OJ.as AS.append ?_; rintro _ _ rfl) | fail) | ((with_reducible apply iObox); first | (refine OJ.as AS.box1 ?_; rintro _ _ ⟨_, rfl, rfl⟩) | (refine OJ.as AS.boxA ?_; rintro _ _ ⟨_, rfl, rfl⟩) | fail) | ((with_reducible apply iOalloc); first | (refine OJ.as AS.alloc ?_; rintro _ _ ⟨_, rfl, rfl⟩) | fail) | ((with_reducible apply iObuildSlice); first | (refine OJ.as AS.buildSlice ?_; rintro _ _ ⟨_, rfl, rfl⟩) | fail) | ((with_reducible apply iOmakeSlice); first | (refine OJ.as AS.makeSlice ?_; rintro _ _ rfl) | fail) | ((with_reducible apply iOmakeMap); first | (refine OJ.as AS.makeMap ?_; rintro _ _ ⟨_, rfl, rfl⟩) | fail) | ((with_reducible apply iOmapEntry); first | (refine OJ.as AS.mapEntry ?_; rintro _ _ ⟨_, _, rfl, rfl⟩) | fail) | ((with_reducible apply iOentryStore); first | (refine OJ.as AS.entryStore ?_; rintro _ _ rfl) | fail) | refine OJ.unboxP fun _ => ?_ | fail) | ((with_reducible apply iJ); first | refine J.seq ?_ | refine J.region ?_ | refine J.block ?_ | refine J.skip ?_ | refine J.exit ?_ | refine J.condT ?_ | refine J.condF ?_ | refine J.cond (fun _ => ?_) (fun _ => ?_) | fail) | ((with_reducible apply iJK); first | refine JK.code ?_ | refine JK.blk ?_ | refine JK.loop ?_ | refine JK.begin ?_ | refine JK.more ?_ | fail) | ((with_reducible apply iEnt); first | exact Ent.nil | ((with_reducible apply iERow); refine Ent.row ?_ ?_) | ((with_reducible apply iEBox); first | refine Ent.box ?_ ?_ | refine Ent.box2 ?_ ?_) | ((with_reducible apply iEBlk); refine Ent.blk ?_ ?_) | ((with_reducible apply iEPure); refine Ent.pure ?_ ?_) | ((with_reducible apply iERdR); first | refine Ent.rdR ?_ | refine Ent.any ?_ | fail) | refine Ent.any ?_ | with_reducible exact Ent.refl | fail) | ((with_reducible apply iEq); with_reducible rfl) | fail)
  refine J.loopI (fun i : Nat => i ≤ l.length ∧ sAtL n l = sAtL n (l.drop i)) (fun i => l.length - i) (fun i => [(6, .int .i64 i), (0, v), (1, .int .i64 n)]) (fun _ => []) 0 ⟨Nat.zero_le _, rfl⟩ ?_
  rintro i ⟨hi, hm⟩ ih
  have hb := rd_bd (hr.h w0 hS0)
  repeat' (first | ((with_reducible apply iOJ); first | ((with_reducible apply iOp); refine OJ.p ?_) | with_reducible apply OJ.nil | ((with_reducible apply iOg); first | refine OJ.guardY ?_ | refine OJ.guardN ?_ | refine OJ.guardNd ?_ | refine OJ.guardU ?_ | refine OJ.guardS (fun _ => ?_) (fun _ => ?_) | fail) | ((with_reducible apply iOstore); first | (refine OJ.as AS.store ?_; rintro _ _ rfl) | (refine OJ.as AS.storeA ?_; rintro _ _ rfl) | (refine OJ.as AS.storeAV ?_; rintro _ _ rfl) | (refine OJ.as AS.storeE ?_; rintro _ _ rfl) | (refine OJ.as AS.storeEA ?_; rintro _ _ rfl) | fail) | ((with_reducible apply iOcall); first | (refine OJ.as AS.append1 ?_; rintro _ _ rfl) | (refine OJ.as AS.append ?_; rintro _ _ rfl) | fail) | ((with_reducible apply iObox); first | (refine OJ.as AS.box1 ?_; rintro _ _ ⟨_, rfl, rfl⟩) | (refine OJ.as AS.boxA ?_; rintro _ _ ⟨_, rfl, rfl⟩) | fail) | ((with_reducible apply iOalloc); first | (refine OJ.as AS.alloc ?_; rintro _ _ ⟨_, rfl, rfl⟩) | fail) | ((with_reducible apply iObuildSlice); first | (refine OJ.as AS.buildSlice ?_; rintro _ _ ⟨_, rfl, rfl⟩) | fail) | ((with_reducible apply iOmakeSlice); first | (refine OJ.as AS.makeSlice ?_; rintro _ _ rfl) | fail) | ((with_reducible apply iOmakeMap); first | (refine OJ.as AS.makeMap ?_; rintro _ _ ⟨_, rfl, rfl⟩) | fail) | ((with_reducible apply iOmapEntry); first | (refine OJ.as AS.mapEntry ?_; rintro _ _ ⟨_, _, rfl, rfl⟩) | fail) | ((with_reducible apply iOentryStore); first | (refine OJ.as AS.entryStore ?_; rintro _ _ rfl) | fail) | refine OJ.unboxP fun _ => ?_ | fail) | ((with_reducible apply iJ); first | refine J.seq ?_ | refine J.region ?_ | refine J.block ?_ | refine J.skip ?_ | refine J.exit ?_ | refine J.condT ?_ | refine J.condF ?_ | refine J.cond (fun _ => ?_) (fun _ => ?_) | refine J.draw ?_ | refine J.ret (ends () trivial ?_ Ent.nil) | fail) | ((with_reducible apply iJK); first | refine JK.code ?_ | refine JK.blk ?_ | refine JK.loop ?_ | refine JK.begin ?_ | refine JK.more ?_ | fail) | ((with_reducible apply iAJ); first | refine AJ.rebase ?_ | refine AJ.regain ?_ | refine AJ.take ?_ | refine AJ.takeY ?_ | refine AJ.takeN ?_ | refine AJ.takeNd ?_ | refine AJ.takeNS ?_ | refine AJ.takeU ?_ | refine AJ.sel ?_ | refine AJ.selY ?_ | refine AJ.sel2 ?_ ?_ | refine AJ.split (fun _ => ?_) (fun _ => ?_) | refine AJ.done ?_ | fail) | ((with_reducible apply iAO); first | ((with_reducible apply iAstore); first | (refine AO.as AS.store ?_; rotate_right; rintro _ _ rfl; refine AO.step ?_) | (refine AO.as AS.storeA ?_; rotate_right; rintro _ _ rfl; refine AO.step ?_) | (refine AO.as AS.storeAV ?_; rotate_right; rintro _ _ rfl; refine AO.step ?_) | (refine AO.as AS.storeE ?_; rotate_right; rintro _ _ rfl; refine AO.step ?_) | (refine AO.as AS.storeEA ?_; rotate_right; rintro _ _ rfl; refine AO.step ?_) | fail) | ((with_reducible apply iAcall); first | (refine AO.as AS.append1 ?_; rotate_right; rintro _ _ rfl; refine AO.step ?_) | (refine AO.as AS.append ?_; rotate_right; rintro _ _ rfl; refine AO.step ?_) | (refine AO.as (AS.call0 (l1In_c _ _ _)) ?_; rotate_right; rintro _ _ ⟨y, hy, rfl, rfl⟩; refine AO.step ?_) | fail) | ((with_reducible apply iAbox); first | (refine AO.as AS.box1 ?_; rotate_right; rintro _ _ ⟨_, rfl, rfl⟩; refine AO.step ?_) | (refine AO.as AS.boxA ?_; rotate_right; rintro _ _ ⟨_, rfl, rfl⟩; refine AO.step ?_) | fail) | ((with_reducible apply iAalloc); first | (refine AO.as AS.alloc ?_; rotate_right; rintro _ _ ⟨_, rfl, rfl⟩; refine AO.step ?_) | fail) | ((with_reducible apply iAbuildSlice); first | (refine AO.as AS.buildSlice ?_; rotate_right; rintro _ _ ⟨_, rfl, rfl⟩; refine AO.step ?_) | fail) | ((with_reducible apply iAmakeSlice); first | (refine AO.as AS.makeSlice ?_; rotate_right; rintro _ _ rfl; refine AO.step ?_) | fail) | ((with_reducible apply iAmakeMap); first | (refine AO.as AS.makeMap ?_; rotate_right; rintro _ _ ⟨_, rfl, rfl⟩; refine AO.step ?_) | fail) | ((with_reducible apply iAmapEntry); first | (refine AO.as AS.mapEntry ?_; rotate_right; rintro _ _ ⟨_, _, rfl, rfl⟩; refine AO.step ?_) | fail) | ((with_reducible apply iAentryStore); first | (refine AO.as AS.entryStore ?_; rotate_right; rintro _ _ rfl; refine AO.step ?_) | fail) | fail) | ((with_reducible apply iJL); first | refine JL.use (ih (i + 1) ⟨by omega, ?_⟩ (by omega)) | fail) | ((with_reducible apply iEnt); first | exact Ent.nil | ((with_reducible apply iERow); refine Ent.row ?_ ?_) | ((with_reducible apply iEBox); first | refine Ent.box ?_ ?_ | refine Ent.box2 ?_ ?_) | ((with_reducible apply iEBlk); refine Ent.blk ?_ ?_) | ((with_reducible apply iEPure); refine Ent.pure ?_ ?_) | ((with_reducible apply iERdR); first | refine Ent.rdR ?_ | refine Ent.any ?_ | fail) | refine Ent.any ?_ | with_reducible exact Ent.refl | fail) | ((with_reducible apply iEq); with_reducible rfl) | fail)
  all_goals clear ih hr hS0
  · rw [tup2, hm, dropD (d := eSpan.d) (by omega)]
    simp [-List.getD_eq_getElem?_getD, toNat1, sAtL, w64, *]
  · rw [hm, dropD (d := eSpan.d) (by omega)]
    simp [-List.getD_eq_getElem?_getD, toNat1, sAtL, w64, *]
  · rw [tup2, hm, List.drop_of_length_le (by omega)]
    rfl
end Go.SL

/- spec.l6Looks -/
set_option linter.unusedVariables false
set_option linter.unusedSimpArgs false
namespace Go.SL
open Go.RowKit Go.Proofs
structure Look where
  size : Int
  mark : Int
def eLook : Enc Look where
  sz := 2
  f s := [.int .i64 s.size, .int .i64 s.mark]
  d := ⟨0, 0⟩
  dec
    | [.int .i64 a, .int .i64 b] => some ⟨a, b⟩
    | _ => none
  pos := by decide
  len _ := rfl
  one x u hu := by simp at hu; rcases hu with h | h <;> (rw [h]; rfl)
  inv cs x h := by
    split at h
    · injection h with h; rw [← h]
    · cases h
instance : EncN 149 eLook := ⟨trivial⟩
def lookOf (l : List Span) (i : Nat) : Look := ⟨(sAtL i l).1, (sAtL i l).2⟩
def sLooks (l : List Span) (n : Nat) : List Look := (List.range n).map (lookOf l)
theorem sLooks_len (l : List Span) (n : Nat) : (sLooks l n).length = n := by simp [sLooks]
theorem sLooks_succ (l : List Span) (n : Nat) : sLooks l (n + 1) = sLooks l n ++ [lookOf l n] := by simp [sLooks, List.range_succ]
set_option maxRecDepth 100000 in
set_option maxHeartbeats 4000000 in
theorem l6Looks_c (v : Value) (l : List Span) (n : Nat) (hn : n ≤ 1000000) : Spec Tryz.prog 61 [v, .int .i64 n] [rd eSpan v l] [] (fun u : Value => u) (fun u => [row eLook 149 u (sLooks l n)]) (fun _ => True) := by
  refine Spec.mk Tryz.func61 rfl Tryz.ntmps61 rfl ?_
  intro w0 O hR hS0
  have hr := hR _ List.mem_cons_self; clear hR hS0
  repeat' (first | ((with_reducible apply iOJ); first | ((with_reducible apply iOp); refine OJ.p ?_) | with_reducible apply OJ.nil | ((with_reducible apply iOg); first | refine OJ.guardY ?_ | refine OJ.guardN ?_ | refine OJ.guardNd ?_ | refine OJ.guardU ?_ | refine OJ.guardS (fun _ => ?_) (fun _ => ?_) | fail) | ((with_reducible apply iOstore); first | (refine OJ.as AS.store ?_; rintro _ _ rfl) | (refine OJ.as AS.storeA ?_; rintro _ _ rfl) | (refine OJ.as AS.storeAV ?_; rintro _ _ rfl) | (refine OJ.as AS.storeE ?_; rintro _ _ rfl) | (refine OJ.as AS.storeEA ?_; rintro _ _ rfl) | fail) | ((with_reducible apply iOcall); first | (refine OJ.as AS.append1 ?_; rintro _ _ rfl) | (refine OJ.as AS.append ?_; rintro _ _ rfl) | fail) | ((with_reducible apply iObox); first | (refine OJ.as AS.box1 ?_; rintro _ _ ⟨_, rfl, rfl⟩) | (refine OJ.as AS.boxA ?_; rintro _ _ ⟨_, rfl, rfl⟩) | fail) | ((with_reducible apply iOalloc); first | (refine OJ.as AS.alloc ?_; rintro _ _ ⟨_, rfl, rfl⟩) | fail) | ((with_reducible apply iObuildSlice); first | (refine OJ.as AS.buildSlice ?_; rintro _ _ ⟨_, rfl, rfl⟩) | fail) | ((with_reducible apply iOmakeSlice); first | (refine OJ.as AS.makeSlice ?_; rintro _ _ rfl) | fail) | ((with_reducible apply iOmakeMap); first | (refine OJ.as AS.makeMap ?_; rintro _ _ ⟨_, rfl, rfl⟩) | fail) | ((with_reducible apply iOmapEntry); first | (refine OJ.as AS.mapEntry ?_; rintro _ _ ⟨_, _, rfl, rfl⟩) | fail) | ((with_reducible apply iOentryStore); first | (refine OJ.as AS.entryStore ?_; rintro _ _ rfl) | fail) | refine OJ.unboxP fun _ => ?_ | fail) | ((with_reducible apply iJ); first | refine J.seq ?_ | refine J.region ?_ | refine J.block ?_ | refine J.skip ?_ | refine J.exit ?_ | refine J.condT ?_ | refine J.condF ?_ | refine J.cond (fun _ => ?_) (fun _ => ?_) | fail) | ((with_reducible apply iJK); first | refine JK.code ?_ | refine JK.blk ?_ | refine JK.loop ?_ | refine JK.begin ?_ | refine JK.more ?_ | fail) | ((with_reducible apply iEnt); first | exact Ent.nil | ((with_reducible apply iERow); refine Ent.row ?_ ?_) | ((with_reducible apply iEBox); first | refine Ent.box ?_ ?_ | refine Ent.box2 ?_ ?_) | ((with_reducible apply iEBlk); refine Ent.blk ?_ ?_) | ((with_reducible apply iEPure); refine Ent.pure ?_ ?_) | ((with_reducible apply iERdR); first | refine Ent.rdR ?_ | refine Ent.any ?_ | fail) | refine Ent.any ?_ | with_reducible exact Ent.refl | fail) | ((with_reducible apply iEq); with_reducible rfl) | fail)
  refine J.loopV (fun i _ => i ≤ n) (fun i => n - i) (fun i u => [(6, .int .i64 (i : Nat)), (5, u), (0, v), (1, .int .i64 n)]) (fun i u => [row eLook 149 u (sLooks l i)]) 0 _ (Nat.zero_le _) ?_
  intro i u hi ih
  have hl := sLooks_len l i
  repeat' (first | ((with_reducible apply iOJ); first | ((with_reducible apply iOp); refine OJ.p ?_) | with_reducible apply OJ.nil | ((with_reducible apply iOg); first | refine OJ.guardY ?_ | refine OJ.guardN ?_ | refine OJ.guardNd ?_ | refine OJ.guardU ?_ | refine OJ.guardS (fun _ => ?_) (fun _ => ?_) | fail) | ((with_reducible apply iOstore); first | (refine OJ.as AS.store ?_; rintro _ _ rfl) | (refine OJ.as AS.storeA ?_; rintro _ _ rfl) | (refine OJ.as AS.storeAV ?_; rintro _ _ rfl) | (refine OJ.as AS.storeE ?_; rintro _ _ rfl) | (refine OJ.as AS.storeEA ?_; rintro _ _ rfl) | fail) | ((with_reducible apply iOcall); first | (refine OJ.as AS.append1 ?_; rintro _ _ rfl) | (refine OJ.as AS.append ?_; rintro _ _ rfl) | (refine OJ.as (AS.call0 (l6At_c _ l _)) ?_; rotate_right; rintro _ _ ⟨y, hy, rfl, rfl⟩) | fail) | ((with_reducible apply iObox); first | (refine OJ.as AS.box1 ?_; rintro _ _ ⟨_, rfl, rfl⟩) | (refine OJ.as AS.boxA ?_; rintro _ _ ⟨_, rfl, rfl⟩) | fail) | ((with_reducible apply iOalloc); first | (refine OJ.as AS.alloc ?_; rintro _ _ ⟨_, rfl, rfl⟩) | fail) | ((with_reducible apply iObuildSlice); first | (refine OJ.as AS.buildSlice ?_; rintro _ _ ⟨_, rfl, rfl⟩) | fail) | ((with_reducible apply iOmakeSlice); first | (refine OJ.as AS.makeSlice ?_; rintro _ _ rfl) | fail) | ((with_reducible apply iOmakeMap); first | (refine OJ.as AS.makeMap ?_; rintro _ _ ⟨_, rfl, rfl⟩) | fail) | ((with_reducible apply iOmapEntry); first | (refine OJ.as AS.mapEntry ?_; rintro _ _ ⟨_, _, rfl, rfl⟩) | fail) | ((with_reducible apply iOentryStore); first | (refine OJ.as AS.entryStore ?_; rintro _ _ rfl) | fail) | refine OJ.unboxP fun _ => ?_ | fail) | ((with_reducible apply iJ); first | refine J.seq ?_ | refine J.region ?_ | refine J.block ?_ | refine J.skip ?_ | refine J.exit ?_ | refine J.condT ?_ | refine J.condF ?_ | refine J.cond (fun _ => ?_) (fun _ => ?_) | refine J.draw ?_ | refine J.ret (ends u trivial rfl ?_) | fail) | ((with_reducible apply iJK); first | refine JK.code ?_ | refine JK.blk ?_ | refine JK.loop ?_ | refine JK.begin ?_ | refine JK.more ?_ | fail) | ((with_reducible apply iAJ); first | refine AJ.rebase ?_ | refine AJ.regain ?_ | refine AJ.take ?_ | refine AJ.takeY ?_ | refine AJ.takeN ?_ | refine AJ.takeNd ?_ | refine AJ.takeNS ?_ | refine AJ.takeU ?_ | refine AJ.sel ?_ | refine AJ.selY ?_ | refine AJ.sel2 ?_ ?_ | refine AJ.split (fun _ => ?_) (fun _ => ?_) | refine AJ.done ?_ | fail) | ((with_reducible apply iAO); first | ((with_reducible apply iAstore); first | (refine AO.as AS.store ?_; rotate_right; rintro _ _ rfl; refine AO.step ?_) | (refine AO.as AS.storeA ?_; rotate_right; rintro _ _ rfl; refine AO.step ?_) | (refine AO.as AS.storeAV ?_; rotate_right; rintro _ _ rfl; refine AO.step ?_) | (refine AO.as AS.storeE ?_; rotate_right; rintro _ _ rfl; refine AO.step ?_) | (refine AO.as AS.storeEA ?_; rotate_right; rintro _ _ rfl; refine AO.step ?_) | fail) | ((with_reducible apply iAcall); first | (refine AO.as AS.append1 ?_; rotate_right; rintro _ _ rfl; refine AO.step ?_) | (refine AO.as AS.append ?_; rotate_right; rintro _ _ rfl; refine AO.step ?_) | fail) | ((with_reducible apply iAbox); first | (refine AO.as AS.box1 ?_; rotate_right; rintro _ _ ⟨_, rfl, rfl⟩; refine AO.step ?_) | (refine AO.as AS.boxA ?_; rotate_right; rintro _ _ ⟨_, rfl, rfl⟩; refine AO.step ?_) | fail) | ((with_reducible apply iAalloc); first | (refine AO.as AS.alloc ?_; rotate_right; rintro _ _ ⟨_, rfl, rfl⟩; refine AO.step ?_) | fail) | ((with_reducible apply iAbuildSlice); first | (refine AO.as AS.buildSlice ?_; rotate_right; rintro _ _ ⟨_, rfl, rfl⟩; refine AO.step ?_) | fail) | ((with_reducible apply iAmakeSlice); first | (refine AO.as AS.makeSlice ?_; rotate_right; rintro _ _ rfl; refine AO.step ?_) | fail) | ((with_reducible apply iAmakeMap); first | (refine AO.as AS.makeMap ?_; rotate_right; rintro _ _ ⟨_, rfl, rfl⟩; refine AO.step ?_) | fail) | ((with_reducible apply iAmapEntry); first | (refine AO.as AS.mapEntry ?_; rotate_right; rintro _ _ ⟨_, _, rfl, rfl⟩; refine AO.step ?_) | fail) | ((with_reducible apply iAentryStore); first | (refine AO.as AS.entryStore ?_; rotate_right; rintro _ _ rfl; refine AO.step ?_) | fail) | fail) | ((with_reducible apply iJL); first | refine JL.useL (ih (i + 1) _ (by omega) (by omega)) ?_ | fail) | ((with_reducible apply iEnt); first | exact Ent.nil | ((with_reducible apply iERow); refine Ent.row ?_ ?_) | ((with_reducible apply iEBox); first | refine Ent.box ?_ ?_ | refine Ent.box2 ?_ ?_) | ((with_reducible apply iEBlk); refine Ent.blk ?_ ?_) | ((with_reducible apply iEPure); refine Ent.pure ?_ ?_) | ((with_reducible apply iERdR); first | refine Ent.rdR ?_ | refine Ent.any ?_ | fail) | refine Ent.any ?_ | with_reducible exact Ent.refl | fail) | ((with_reducible apply iEq); with_reducible rfl) | fail)
  · exact (sLooks_succ l i).symm
  · rw [show i = n by omega]
end Go.SL

/- spec.l6Spans -/
set_option linter.unusedVariables false
set_option linter.unusedSimpArgs false
namespace Go.SL
open Go.RowKit Go.Proofs
def eqLk (a b : Look) : Bool := a.size == b.size && a.mark == b.mark
def push (x : Look) : List (Look × Nat) → List (Look × Nat)
  | [] => [(x, 1)]
  | (y, n) :: r => match eqLk y x with
    | true => (x, n + 1) :: r
    | false => (x, 1) :: (y, n) :: r
def groups : List Look → List (Look × Nat)
  | [] => []
  | x :: l => push x (groups l)
def pushN (x : Look) : Nat → List (Look × Nat) → List (Look × Nat)
  | 0, g => g
  | n + 1, g => pushN x n (push x g)
def spansOf : Nat → List (Look × Nat) → List Span
  | _, [] => []
  | i, (x, n) :: r => (match decide (x.size = 10) && decide (x.mark = 0) with
    | true => []
    | false => [⟨(i : Nat), ((i + n : Nat) : Int), x.size, x.mark⟩]) ++ spansOf (i + n) r
def sSpans (l : List Look) : List Span := spansOf 0 (groups l)
theorem push_head (x : Look) (g : List (Look × Nat)) : ∃ n r, push x g = (x, n + 1) :: r := by
  rcases g with _ | ⟨⟨y, m⟩, r⟩
  · exact ⟨0, [], rfl⟩
  · simp only [push]
    split
    · exact ⟨m, r, rfl⟩
    · exact ⟨0, _, rfl⟩
theorem eqLk_refl (x : Look) : eqLk x x = true := by simp [eqLk]
theorem eqLk_eq {x y : Look} (h : eqLk x y = true) : x = y := by
  cases x; cases y
  simp [eqLk] at h
  simp [h]
theorem pushN_same (x : Look) : ∀ (n m : Nat) (r : List (Look × Nat)), pushN x n ((x, m) :: r) = (x, m + n) :: r
  | 0, _, _ => rfl
  | n + 1, m, r => by
    simp only [pushN, push, eqLk_refl]
    rw [pushN_same x n]
    congr 2
    omega
theorem pushN_end {x : Look} {n : Nat} (h : 0 < n) : pushN x n [] = [(x, n)] := by
  obtain ⟨m, rfl⟩ : ∃ m, n = m + 1 := ⟨n - 1, by omega⟩
  simp only [pushN, push, pushN_same]
  congr 2
  omega
theorem pushN_other {x y : Look} {n m : Nat} {r : List (Look × Nat)} (h : 0 < n) (hy : eqLk y x = false) : pushN x n ((y, m) :: r) = (x, n) :: (y, m) :: r := by
  obtain ⟨k, rfl⟩ : ∃ m, n = m + 1 := ⟨n - 1, by omega⟩
  simp only [pushN, push, hy, pushN_same]
  congr 2
  omega
theorem groups_at {l : List Look} {i : Nat} {d : Look} (h : i < l.length) : groups (l.drop i) = push (l.getD i d) (groups (l.drop (i + 1))) := by
  rw [dropD h]
  rfl
theorem groups_run {l : List Look} {i k : Nat} {d : Look} (hk : k < l.length) (hik : i < k) (hg : groups (l.drop i) = pushN (l.getD i d) (k - i) (groups (l.drop k))) (hn : eqLk (l.getD k d) (l.getD i d) = false) : groups (l.drop i) = (l.getD i d, k - i) :: groups (l.drop k) := by
  rw [hg, groups_at (d := d) hk]
  obtain ⟨n, r, h⟩ := push_head (l.getD k d) (groups (l.drop (k + 1)))
  rw [h, pushN_other (by omega) hn]
theorem groups_more {l : List Look} {i k : Nat} {d : Look} (hk : k < l.length) (hik : i < k) (hg : groups (l.drop i) = pushN (l.getD i d) (k - i) (groups (l.drop k))) (hn : eqLk (l.getD k d) (l.getD i d) = true) : groups (l.drop i) = pushN (l.getD i d) (k + 1 - i) (groups (l.drop (k + 1))) := by
  rw [show k + 1 - i = (k - i) + 1 by omega]
  simp only [pushN]
  rw [hg, groups_at (d := d) hk, eqLk_eq hn]
theorem groups_last {l : List Look} {i k : Nat} {d : Look} (hk : l.length ≤ k) (hik : i < k) (hg : groups (l.drop i) = pushN (l.getD i d) (k - i) (groups (l.drop k))) : groups (l.drop i) = (l.getD i d, k - i) :: groups (l.drop k) := by
  rw [hg, List.drop_of_length_le hk]
  exact pushN_end (by omega)
set_option maxRecDepth 100000 in
set_option maxHeartbeats 8000000 in
theorem l6Spans_c (v : Value) (l : List Look) (hn : l.length ≤ 1000000) : Spec Tryz.prog 59 [v] [rd eLook v l] [] (fun u : Value => u) (fun u => [row eSpan 98 u (sSpans l)]) (fun _ => True) := by
  refine Spec.mk Tryz.func59 rfl Tryz.ntmps59 rfl ?_
  intro w0 O hR hS0
  have hr := hR _ List.mem_cons_self; clear hR hS0
  repeat' (first | ((with_reducible apply iOJ); first | ((with_reducible apply iOp); refine OJ.p ?_) | with_reducible apply OJ.nil | ((with_reducible apply iOg); first | refine OJ.guardY ?_ | refine OJ.guardN ?_ | refine OJ.guardNd ?_ | refine OJ.guardU ?_ | refine OJ.guardS (fun _ => ?_) (fun _ => ?_) | fail) | ((with_reducible apply iOstore); first | (refine OJ.as AS.store ?_; rintro _ _ rfl) | (refine OJ.as AS.storeA ?_; rintro _ _ rfl) | (refine OJ.as AS.storeAV ?_; rintro _ _ rfl) | (refine OJ.as AS.storeE ?_; rintro _ _ rfl) | (refine OJ.as AS.storeEA ?_; rintro _ _ rfl) | fail) | ((with_reducible apply iOcall); first | (refine OJ.as AS.append1 ?_; rintro _ _ rfl) | (refine OJ.as AS.append ?_; rintro _ _ rfl) | fail) | ((with_reducible apply iObox); first | (refine OJ.as AS.box1 ?_; rintro _ _ ⟨_, rfl, rfl⟩) | (refine OJ.as AS.boxA ?_; rintro _ _ ⟨_, rfl, rfl⟩) | fail) | ((with_reducible apply iOalloc); first | (refine OJ.as AS.alloc ?_; rintro _ _ ⟨_, rfl, rfl⟩) | fail) | ((with_reducible apply iObuildSlice); first | (refine OJ.as AS.buildSlice ?_; rintro _ _ ⟨_, rfl, rfl⟩) | fail) | ((with_reducible apply iOmakeSlice); first | (refine OJ.as AS.makeSlice ?_; rintro _ _ rfl) | fail) | ((with_reducible apply iOmakeMap); first | (refine OJ.as AS.makeMap ?_; rintro _ _ ⟨_, rfl, rfl⟩) | fail) | ((with_reducible apply iOmapEntry); first | (refine OJ.as AS.mapEntry ?_; rintro _ _ ⟨_, _, rfl, rfl⟩) | fail) | ((with_reducible apply iOentryStore); first | (refine OJ.as AS.entryStore ?_; rintro _ _ rfl) | fail) | refine OJ.unboxP fun _ => ?_ | fail) | ((with_reducible apply iJ); first | refine J.seq ?_ | refine J.region ?_ | refine J.block ?_ | refine J.skip ?_ | refine J.exit ?_ | refine J.condT ?_ | refine J.condF ?_ | refine J.cond (fun _ => ?_) (fun _ => ?_) | fail) | ((with_reducible apply iJK); first | refine JK.code ?_ | refine JK.blk ?_ | refine JK.loop ?_ | refine JK.begin ?_ | refine JK.more ?_ | fail) | ((with_reducible apply iEnt); first | exact Ent.nil | ((with_reducible apply iERow); refine Ent.row ?_ ?_) | ((with_reducible apply iEBox); first | refine Ent.box ?_ ?_ | refine Ent.box2 ?_ ?_) | ((with_reducible apply iEBlk); refine Ent.blk ?_ ?_) | ((with_reducible apply iEPure); refine Ent.pure ?_ ?_) | ((with_reducible apply iERdR); first | refine Ent.rdR ?_ | refine Ent.any ?_ | fail) | refine Ent.any ?_ | with_reducible exact Ent.refl | fail) | ((with_reducible apply iEq); with_reducible rfl) | fail)
  refine J.loopW (fun i (acc : List Span) _ => i ≤ l.length ∧ acc.length ≤ i ∧ sSpans l = acc ++ spansOf i (groups (l.drop i))) (fun i => l.length - i) (fun i _ u => [(4, .int .i64 (i : Nat)), (3, u), (0, v)]) (fun _ acc u => [row eSpan 98 u acc]) 0 [] _ ⟨Nat.zero_le _, Nat.zero_le _, rfl⟩ ?_
  rintro i acc u ⟨hi, ha, hm⟩ ih
  repeat' (first | ((with_reducible apply iOJ); first | ((with_reducible apply iOp); refine OJ.p ?_) | with_reducible apply OJ.nil | ((with_reducible apply iOg); first | refine OJ.guardY ?_ | refine OJ.guardN ?_ | refine OJ.guardNd ?_ | refine OJ.guardU ?_ | refine OJ.guardS (fun _ => ?_) (fun _ => ?_) | fail) | ((with_reducible apply iOstore); first | (refine OJ.as AS.store ?_; rintro _ _ rfl) | (refine OJ.as AS.storeA ?_; rintro _ _ rfl) | (refine OJ.as AS.storeAV ?_; rintro _ _ rfl) | (refine OJ.as AS.storeE ?_; rintro _ _ rfl) | (refine OJ.as AS.storeEA ?_; rintro _ _ rfl) | fail) | ((with_reducible apply iOcall); first | (refine OJ.as AS.append1 ?_; rintro _ _ rfl) | (refine OJ.as AS.append ?_; rintro _ _ rfl) | fail) | ((with_reducible apply iObox); first | (refine OJ.as AS.box1 ?_; rintro _ _ ⟨_, rfl, rfl⟩) | (refine OJ.as AS.boxA ?_; rintro _ _ ⟨_, rfl, rfl⟩) | fail) | ((with_reducible apply iOalloc); first | (refine OJ.as AS.alloc ?_; rintro _ _ ⟨_, rfl, rfl⟩) | fail) | ((with_reducible apply iObuildSlice); first | (refine OJ.as AS.buildSlice ?_; rintro _ _ ⟨_, rfl, rfl⟩) | fail) | ((with_reducible apply iOmakeSlice); first | (refine OJ.as AS.makeSlice ?_; rintro _ _ rfl) | fail) | ((with_reducible apply iOmakeMap); first | (refine OJ.as AS.makeMap ?_; rintro _ _ ⟨_, rfl, rfl⟩) | fail) | ((with_reducible apply iOmapEntry); first | (refine OJ.as AS.mapEntry ?_; rintro _ _ ⟨_, _, rfl, rfl⟩) | fail) | ((with_reducible apply iOentryStore); first | (refine OJ.as AS.entryStore ?_; rintro _ _ rfl) | fail) | refine OJ.unboxP fun _ => ?_ | fail) | ((with_reducible apply iJ); first | refine J.seq ?_ | refine J.region ?_ | refine J.block ?_ | refine J.skip ?_ | refine J.exit ?_ | refine J.condT ?_ | refine J.condF ?_ | refine J.cond (fun _ => ?_) (fun _ => ?_) | refine J.ret (ends u trivial rfl ?_) | fail) | ((with_reducible apply iJK); first | refine JK.code ?_ | refine JK.blk ?_ | refine JK.loop ?_ | refine JK.begin ?_ | refine JK.more ?_ | fail) | ((with_reducible apply iEnt); first | exact Ent.nil | ((with_reducible apply iERow); refine Ent.row ?_ ?_) | ((with_reducible apply iEBox); first | refine Ent.box ?_ ?_ | refine Ent.box2 ?_ ?_) | ((with_reducible apply iEBlk); refine Ent.blk ?_ ?_) | ((with_reducible apply iEPure); refine Ent.pure ?_ ?_) | ((with_reducible apply iERdR); first | refine Ent.rdR ?_ | refine Ent.any ?_ | fail) | refine Ent.any ?_ | with_reducible exact Ent.refl | fail) | ((with_reducible apply iEq); with_reducible rfl) | fail)
  · refine J.loopI (fun k : Nat => i < k ∧ k ≤ l.length ∧ groups (l.drop i) = pushN (l.getD i eLook.d) (k - i) (groups (l.drop k))) (fun k => l.length - k) (fun k => [(5, .int .i64 (k : Nat)), (4, .int .i64 (i : Nat)), (3, u), (0, v)]) (fun _ => [row eSpan 98 u acc]) (i + 1) ⟨by omega, by omega, ?_⟩ ?_
    · rw [show i + 1 - i = 1 by omega]
      exact groups_at (by omega)
    rintro k ⟨hik, hk, hg⟩ ih2
    repeat' (first | ((with_reducible apply iOJ); first | ((with_reducible apply iOp); refine OJ.p ?_) | with_reducible apply OJ.nil | ((with_reducible apply iOg); first | refine OJ.guardY ?_ | refine OJ.guardN ?_ | refine OJ.guardNd ?_ | refine OJ.guardU ?_ | refine OJ.guardS (fun _ => ?_) (fun _ => ?_) | fail) | ((with_reducible apply iOstore); first | (refine OJ.as AS.store ?_; rintro _ _ rfl) | (refine OJ.as AS.storeA ?_; rintro _ _ rfl) | (refine OJ.as AS.storeAV ?_; rintro _ _ rfl) | (refine OJ.as AS.storeE ?_; rintro _ _ rfl) | (refine OJ.as AS.storeEA ?_; rintro _ _ rfl) | fail) | ((with_reducible apply iOcall); first | (refine OJ.as AS.append1 ?_; rintro _ _ rfl) | (refine OJ.as AS.append ?_; rintro _ _ rfl) | fail) | ((with_reducible apply iObox); first | (refine OJ.as AS.box1 ?_; rintro _ _ ⟨_, rfl, rfl⟩) | (refine OJ.as AS.boxA ?_; rintro _ _ ⟨_, rfl, rfl⟩) | fail) | ((with_reducible apply iOalloc); first | (refine OJ.as AS.alloc ?_; rintro _ _ ⟨_, rfl, rfl⟩) | fail) | ((with_reducible apply iObuildSlice); first | (refine OJ.as AS.buildSlice ?_; rintro _ _ ⟨_, rfl, rfl⟩) | fail) | ((with_reducible apply iOmakeSlice); first | (refine OJ.as AS.makeSlice ?_; rintro _ _ rfl) | fail) | ((with_reducible apply iOmakeMap); first | (refine OJ.as AS.makeMap ?_; rintro _ _ ⟨_, rfl, rfl⟩) | fail) | ((with_reducible apply iOmapEntry); first | (refine OJ.as AS.mapEntry ?_; rintro _ _ ⟨_, _, rfl, rfl⟩) | fail) | ((with_reducible apply iOentryStore); first | (refine OJ.as AS.entryStore ?_; rintro _ _ rfl) | fail) | refine OJ.unboxP fun _ => ?_ | fail) | ((with_reducible apply iJ); first | refine J.seq ?_ | refine J.region ?_ | refine J.block ?_ | refine J.skip ?_ | refine J.exit ?_ | refine J.condT ?_ | refine J.condF ?_ | refine J.cond (fun _ => ?_) (fun _ => ?_) | refine J.draw ?_ | fail) | ((with_reducible apply iJK); first | refine JK.code ?_ | refine JK.blk ?_ | refine JK.loop ?_ | refine JK.begin ?_ | refine JK.more ?_ | fail) | ((with_reducible apply iAJ); first | refine AJ.rebase ?_ | refine AJ.regain ?_ | refine AJ.take ?_ | refine AJ.takeY ?_ | refine AJ.takeN ?_ | refine AJ.takeNd ?_ | refine AJ.takeNS ?_ | refine AJ.takeU ?_ | refine AJ.sel ?_ | refine AJ.selY ?_ | refine AJ.sel2 ?_ ?_ | refine AJ.split (fun _ => ?_) (fun _ => ?_) | refine AJ.done ?_ | fail) | ((with_reducible apply iAO); first | ((with_reducible apply iAstore); first | (refine AO.as AS.store ?_; rotate_right; rintro _ _ rfl; refine AO.step ?_) | (refine AO.as AS.storeA ?_; rotate_right; rintro _ _ rfl; refine AO.step ?_) | (refine AO.as AS.storeAV ?_; rotate_right; rintro _ _ rfl; refine AO.step ?_) | (refine AO.as AS.storeE ?_; rotate_right; rintro _ _ rfl; refine AO.step ?_) | (refine AO.as AS.storeEA ?_; rotate_right; rintro _ _ rfl; refine AO.step ?_) | fail) | ((with_reducible apply iAcall); first | (refine AO.as AS.append1 ?_; rotate_right; rintro _ _ rfl; refine AO.step ?_) | (refine AO.as AS.append ?_; rotate_right; rintro _ _ rfl; refine AO.step ?_) | fail) | ((with_reducible apply iAbox); first | (refine AO.as AS.box1 ?_; rotate_right; rintro _ _ ⟨_, rfl, rfl⟩; refine AO.step ?_) | (refine AO.as AS.boxA ?_; rotate_right; rintro _ _ ⟨_, rfl, rfl⟩; refine AO.step ?_) | fail) | ((with_reducible apply iAalloc); first | (refine AO.as AS.alloc ?_; rotate_right; rintro _ _ ⟨_, rfl, rfl⟩; refine AO.step ?_) | fail) | ((with_reducible apply iAbuildSlice); first | (refine AO.as AS.buildSlice ?_; rotate_right; rintro _ _ ⟨_, rfl, rfl⟩; refine AO.step ?_) | fail) | ((with_reducible apply iAmakeSlice); first | (refine AO.as AS.makeSlice ?_; rotate_right; rintro _ _ rfl; refine AO.step ?_) | fail) | ((with_reducible apply iAmakeMap); first | (refine AO.as AS.makeMap ?_; rotate_right; rintro _ _ ⟨_, rfl, rfl⟩; refine AO.step ?_) | fail) | ((with_reducible apply iAmapEntry); first | (refine AO.as AS.mapEntry ?_; rotate_right; rintro _ _ ⟨_, _, rfl, rfl⟩; refine AO.step ?_) | fail) | ((with_reducible apply iAentryStore); first | (refine AO.as AS.entryStore ?_; rotate_right; rintro _ _ rfl; refine AO.step ?_) | fail) | fail) | ((with_reducible apply iJL); first | refine JL.use (ih2 (k + 1) ⟨by omega, by omega, ?_⟩ (by omega)) | refine JL.useL (ih k (acc ++ [⟨i, k, (l.getD i eLook.d).size, (l.getD i eLook.d).mark⟩]) _ ⟨by omega, ?_, ?_⟩ (by omega)) (Ent.any Ent.nil) | refine JL.useL (ih k acc _ ⟨by omega, ?_, ?_⟩ (by omega)) (Ent.any Ent.nil) | fail) | ((with_reducible apply iEnt); first | exact Ent.nil | ((with_reducible apply iERow); refine Ent.row ?_ ?_) | ((with_reducible apply iEBox); first | refine Ent.box ?_ ?_ | refine Ent.box2 ?_ ?_) | ((with_reducible apply iEBlk); refine Ent.blk ?_ ?_) | ((with_reducible apply iEPure); refine Ent.pure ?_ ?_) | ((with_reducible apply iERdR); first | refine Ent.rdR ?_ | refine Ent.any ?_ | fail) | refine Ent.any ?_ | with_reducible exact Ent.refl | fail) | ((with_reducible apply iEq); with_reducible rfl) | fail)
    all_goals clear ih ih2 hr
    all_goals first
      | (rw [List.length_append]; show _ + 1 ≤ _; omega)
      | omega
      | exact groups_more (by omega) hik hg (by simp only [eqLk]; assumption)
      | (rw [hm, groups_run (by omega) hik hg (by simp only [eqLk]; assumption), spansOf, show i + (k - i) = k by omega]; simp [-List.getD_eq_getElem?_getD, toNat1, *])
      | (rw [hm, groups_last (by omega) hik hg, spansOf, show i + (k - i) = k by omega]; simp [-List.getD_eq_getElem?_getD, toNat1, *])
  · rw [hm, List.drop_of_length_le (by omega)]
    simp [groups, spansOf]
end Go.SL

/- spec.l6Move -/
set_option linter.unusedVariables false
set_option linter.unusedSimpArgs false
namespace Go.SL
open Go.RowKit Go.Proofs
def sMoveLook (l : List Look) (a : Nat) : Look := match decide (0 < a) with
  | true => l.getD (a - 1) eLook.d
  | false => ⟨10, 0⟩
def sMove (l : List Look) (a : Nat) (n : Int) : List Look := match decide (n < 0) with
  | true => l.take a ++ l.drop ((a : Int) - n).toNat
  | false => l.take a ++ List.replicate n.toNat (sMoveLook l a) ++ l.drop a
set_option maxRecDepth 100000 in
set_option maxHeartbeats 8000000 in
theorem l6Move_c (v : Value) (l : List Look) (a : Nat) (n : Int) (hl : l.length ≤ 1000000) (ha : a ≤ l.length) (hn : -((l.length : Int) - a) ≤ n) (hn2 : n ≤ 1000000) : Spec Tryz.prog 60 [v, .int .i64 a, .int .i64 n] [rd eLook v l] [] (fun u : Value => u) (fun u => [row eLook 149 u (sMove l a n)]) (fun _ => True) := by
  refine Spec.mk Tryz.func60 rfl Tryz.ntmps60 rfl ?_
  intro w0 O hR hS0
  have hr := hR _ List.mem_cons_self; clear hR hS0
  repeat' (first | ((with_reducible apply iOJ); first | ((with_reducible apply iOp); refine OJ.p ?_) | with_reducible apply OJ.nil | ((with_reducible apply iOg); first | refine OJ.guardY ?_ | refine OJ.guardN ?_ | refine OJ.guardNd ?_ | refine OJ.guardU ?_ | refine OJ.guardS (fun _ => ?_) (fun _ => ?_) | fail) | ((with_reducible apply iOstore); first | (refine OJ.as AS.store ?_; rintro _ _ rfl) | (refine OJ.as AS.storeA ?_; rintro _ _ rfl) | (refine OJ.as AS.storeAV ?_; rintro _ _ rfl) | (refine OJ.as AS.storeE ?_; rintro _ _ rfl) | (refine OJ.as AS.storeEA ?_; rintro _ _ rfl) | fail) | ((with_reducible apply iOcall); first | (refine OJ.as AS.append1 ?_; rintro _ _ rfl) | (refine OJ.as AS.append ?_; rintro _ _ rfl) | fail) | ((with_reducible apply iObox); first | (refine OJ.as AS.box1 ?_; rintro _ _ ⟨_, rfl, rfl⟩) | (refine OJ.as AS.boxA ?_; rintro _ _ ⟨_, rfl, rfl⟩) | fail) | ((with_reducible apply iOalloc); first | (refine OJ.as AS.alloc ?_; rintro _ _ ⟨_, rfl, rfl⟩) | fail) | ((with_reducible apply iObuildSlice); first | (refine OJ.as AS.buildSlice ?_; rintro _ _ ⟨_, rfl, rfl⟩) | fail) | ((with_reducible apply iOmakeSlice); first | (refine OJ.as AS.makeSlice ?_; rintro _ _ rfl) | fail) | ((with_reducible apply iOmakeMap); first | (refine OJ.as AS.makeMap ?_; rintro _ _ ⟨_, rfl, rfl⟩) | fail) | ((with_reducible apply iOmapEntry); first | (refine OJ.as AS.mapEntry ?_; rintro _ _ ⟨_, _, rfl, rfl⟩) | fail) | ((with_reducible apply iOentryStore); first | (refine OJ.as AS.entryStore ?_; rintro _ _ rfl) | fail) | refine OJ.unboxP fun _ => ?_ | fail) | ((with_reducible apply iJ); first | refine J.seq ?_ | refine J.region ?_ | refine J.block ?_ | refine J.skip ?_ | refine J.exit ?_ | refine J.condT ?_ | refine J.condF ?_ | refine J.cond (fun _ => ?_) (fun _ => ?_) | refine J.draw ?_ | refine J.ret (ends _ trivial rfl ?_) | fail) | ((with_reducible apply iJK); first | refine JK.code ?_ | refine JK.blk ?_ | refine JK.loop ?_ | refine JK.begin ?_ | refine JK.more ?_ | fail) | ((with_reducible apply iAJ); first | refine AJ.rebase ?_ | refine AJ.regain ?_ | refine AJ.take ?_ | refine AJ.takeY ?_ | refine AJ.takeN ?_ | refine AJ.takeNd ?_ | refine AJ.takeNS ?_ | refine AJ.takeU ?_ | refine AJ.sel ?_ | refine AJ.selY ?_ | refine AJ.sel2 ?_ ?_ | refine AJ.split (fun _ => ?_) (fun _ => ?_) | refine AJ.done ?_ | fail) | ((with_reducible apply iAO); first | ((with_reducible apply iAstore); first | (refine AO.as AS.store ?_; rotate_right; rintro _ _ rfl; refine AO.step ?_) | (refine AO.as AS.storeA ?_; rotate_right; rintro _ _ rfl; refine AO.step ?_) | (refine AO.as AS.storeAV ?_; rotate_right; rintro _ _ rfl; refine AO.step ?_) | (refine AO.as AS.storeE ?_; rotate_right; rintro _ _ rfl; refine AO.step ?_) | (refine AO.as AS.storeEA ?_; rotate_right; rintro _ _ rfl; refine AO.step ?_) | fail) | ((with_reducible apply iAcall); first | (refine AO.as AS.append1 ?_; rotate_right; rintro _ _ rfl; refine AO.step ?_) | (refine AO.as AS.append ?_; rotate_right; rintro _ _ rfl; refine AO.step ?_) | fail) | ((with_reducible apply iAbox); first | (refine AO.as AS.box1 ?_; rotate_right; rintro _ _ ⟨_, rfl, rfl⟩; refine AO.step ?_) | (refine AO.as AS.boxA ?_; rotate_right; rintro _ _ ⟨_, rfl, rfl⟩; refine AO.step ?_) | fail) | ((with_reducible apply iAalloc); first | (refine AO.as AS.alloc ?_; rotate_right; rintro _ _ ⟨_, rfl, rfl⟩; refine AO.step ?_) | fail) | ((with_reducible apply iAbuildSlice); first | (refine AO.as AS.buildSlice ?_; rotate_right; rintro _ _ ⟨_, rfl, rfl⟩; refine AO.step ?_) | fail) | ((with_reducible apply iAmakeSlice); first | (refine AO.as AS.makeSlice ?_; rotate_right; rintro _ _ rfl; refine AO.step ?_) | fail) | ((with_reducible apply iAmakeMap); first | (refine AO.as AS.makeMap ?_; rotate_right; rintro _ _ ⟨_, rfl, rfl⟩; refine AO.step ?_) | fail) | ((with_reducible apply iAmapEntry); first | (refine AO.as AS.mapEntry ?_; rotate_right; rintro _ _ ⟨_, _, rfl, rfl⟩; refine AO.step ?_) | fail) | ((with_reducible apply iAentryStore); first | (refine AO.as AS.entryStore ?_; rotate_right; rintro _ _ rfl; refine AO.step ?_) | fail) | fail) | ((with_reducible apply iEnt); first | exact Ent.nil | ((with_reducible apply iERow); refine Ent.row ?_ ?_) | ((with_reducible apply iEBox); first | refine Ent.box ?_ ?_ | refine Ent.box2 ?_ ?_) | ((with_reducible apply iEBlk); refine Ent.blk ?_ ?_) | ((with_reducible apply iEPure); refine Ent.pure ?_ ?_) | ((with_reducible apply iERdR); first | refine Ent.rdR ?_ | refine Ent.any ?_ | fail) | refine Ent.any ?_ | with_reducible exact Ent.refl | fail) | ((with_reducible apply iEq); with_reducible rfl) | fail)
  · simp [sMove, takeAll, *]
  · rename_i hn0 b0 u0 b u1 ha0 u2
    have ha1 : 0 < a := by omega
    refine J.loopV (fun j _ => j ≤ n.toNat) (fun j => n.toNat - j) (fun j u => [(9, .int .i64 (j : Nat)), (7, u), (8, .pointer (some ⟨b, 0, none⟩)), (0, v), (1, .int .i64 a), (2, .int .i64 n)]) (fun j u => [row eLook 149 u (l.take a ++ List.replicate j (l.getD ((a : Int) - 1).toNat eLook.d)), blk b (.cells #[.int .i64 (l.getD ((a : Int) - 1).toNat eLook.d).size, .int .i64 (l.getD ((a : Int) - 1).toNat eLook.d).mark] 149 (0, 0))]) 0 _ (Nat.zero_le _) ?_ (hL := by refine Ent.row ?_ ?_; (exact Ent.blkS Ent.nil); simp)
    intro j u hj ih
    repeat' (first | ((with_reducible apply iOJ); first | ((with_reducible apply iOp); refine OJ.p ?_) | with_reducible apply OJ.nil | ((with_reducible apply iOg); first | refine OJ.guardY ?_ | refine OJ.guardN ?_ | refine OJ.guardNd ?_ | refine OJ.guardU ?_ | refine OJ.guardS (fun _ => ?_) (fun _ => ?_) | fail) | ((with_reducible apply iOstore); first | (refine OJ.as AS.store ?_; rintro _ _ rfl) | (refine OJ.as AS.storeA ?_; rintro _ _ rfl) | (refine OJ.as AS.storeAV ?_; rintro _ _ rfl) | (refine OJ.as AS.storeE ?_; rintro _ _ rfl) | (refine OJ.as AS.storeEA ?_; rintro _ _ rfl) | fail) | ((with_reducible apply iOcall); first | (refine OJ.as AS.append1 ?_; rintro _ _ rfl) | (refine OJ.as AS.append ?_; rintro _ _ rfl) | fail) | ((with_reducible apply iObox); first | (refine OJ.as AS.box1 ?_; rintro _ _ ⟨_, rfl, rfl⟩) | (refine OJ.as AS.boxA ?_; rintro _ _ ⟨_, rfl, rfl⟩) | fail) | ((with_reducible apply iOalloc); first | (refine OJ.as AS.alloc ?_; rintro _ _ ⟨_, rfl, rfl⟩) | fail) | ((with_reducible apply iObuildSlice); first | (refine OJ.as AS.buildSlice ?_; rintro _ _ ⟨_, rfl, rfl⟩) | fail) | ((with_reducible apply iOmakeSlice); first | (refine OJ.as AS.makeSlice ?_; rintro _ _ rfl) | fail) | ((with_reducible apply iOmakeMap); first | (refine OJ.as AS.makeMap ?_; rintro _ _ ⟨_, rfl, rfl⟩) | fail) | ((with_reducible apply iOmapEntry); first | (refine OJ.as AS.mapEntry ?_; rintro _ _ ⟨_, _, rfl, rfl⟩) | fail) | ((with_reducible apply iOentryStore); first | (refine OJ.as AS.entryStore ?_; rintro _ _ rfl) | fail) | refine OJ.unboxP fun _ => ?_ | fail) | ((with_reducible apply iJ); first | refine J.seq ?_ | refine J.region ?_ | refine J.block ?_ | refine J.skip ?_ | refine J.exit ?_ | refine J.condT ?_ | refine J.condF ?_ | refine J.cond (fun _ => ?_) (fun _ => ?_) | refine J.draw ?_ | refine J.ret (ends _ trivial rfl ?_) | fail) | ((with_reducible apply iJK); first | refine JK.code ?_ | refine JK.blk ?_ | refine JK.loop ?_ | refine JK.begin ?_ | refine JK.more ?_ | fail) | ((with_reducible apply iAJ); first | refine AJ.rebase ?_ | refine AJ.regain ?_ | refine AJ.take ?_ | refine AJ.takeY ?_ | refine AJ.takeN ?_ | refine AJ.takeNd ?_ | refine AJ.takeNS ?_ | refine AJ.takeU ?_ | refine AJ.sel ?_ | refine AJ.selY ?_ | refine AJ.sel2 ?_ ?_ | refine AJ.split (fun _ => ?_) (fun _ => ?_) | refine AJ.done ?_ | fail) | ((with_reducible apply iAO); first | ((with_reducible apply iAstore); first | (refine AO.as AS.store ?_; rotate_right; rintro _ _ rfl; refine AO.step ?_) | (refine AO.as AS.storeA ?_; rotate_right; rintro _ _ rfl; refine AO.step ?_) | (refine AO.as AS.storeAV ?_; rotate_right; rintro _ _ rfl; refine AO.step ?_) | (refine AO.as AS.storeE ?_; rotate_right; rintro _ _ rfl; refine AO.step ?_) | (refine AO.as AS.storeEA ?_; rotate_right; rintro _ _ rfl; refine AO.step ?_) | fail) | ((with_reducible apply iAcall); first | (refine AO.as AS.append1 ?_; rotate_right; rintro _ _ rfl; refine AO.step ?_) | (refine AO.as AS.append ?_; rotate_right; rintro _ _ rfl; refine AO.step ?_) | fail) | ((with_reducible apply iAbox); first | (refine AO.as AS.box1 ?_; rotate_right; rintro _ _ ⟨_, rfl, rfl⟩; refine AO.step ?_) | (refine AO.as AS.boxA ?_; rotate_right; rintro _ _ ⟨_, rfl, rfl⟩; refine AO.step ?_) | fail) | ((with_reducible apply iAalloc); first | (refine AO.as AS.alloc ?_; rotate_right; rintro _ _ ⟨_, rfl, rfl⟩; refine AO.step ?_) | fail) | ((with_reducible apply iAbuildSlice); first | (refine AO.as AS.buildSlice ?_; rotate_right; rintro _ _ ⟨_, rfl, rfl⟩; refine AO.step ?_) | fail) | ((with_reducible apply iAmakeSlice); first | (refine AO.as AS.makeSlice ?_; rotate_right; rintro _ _ rfl; refine AO.step ?_) | fail) | ((with_reducible apply iAmakeMap); first | (refine AO.as AS.makeMap ?_; rotate_right; rintro _ _ ⟨_, rfl, rfl⟩; refine AO.step ?_) | fail) | ((with_reducible apply iAmapEntry); first | (refine AO.as AS.mapEntry ?_; rotate_right; rintro _ _ ⟨_, _, rfl, rfl⟩; refine AO.step ?_) | fail) | ((with_reducible apply iAentryStore); first | (refine AO.as AS.entryStore ?_; rotate_right; rintro _ _ rfl; refine AO.step ?_) | fail) | fail) | ((with_reducible apply iJL); first | refine JL.useL (ih (j + 1) _ (by omega) (by omega)) ?_ | fail) | ((with_reducible apply iEnt); first | exact Ent.nil | ((with_reducible apply iERow); refine Ent.row ?_ ?_) | ((with_reducible apply iEBox); first | refine Ent.box ?_ ?_ | refine Ent.box2 ?_ ?_) | ((with_reducible apply iEBlk); refine Ent.blk ?_ ?_) | ((with_reducible apply iEPure); refine Ent.pure ?_ ?_) | ((with_reducible apply iERdR); first | refine Ent.rdR ?_ | refine Ent.any ?_ | fail) | refine Ent.any ?_ | with_reducible exact Ent.refl | fail) | ((with_reducible apply iEq); with_reducible rfl) | fail)
    · simp [List.replicate_succ']
    · simp [sMove, sMoveLook, takeAll, -List.getD_eq_getElem?_getD, toNat1, *, show j = n.toNat by omega]
  · rename_i hn0 b0 u1 b u2 ha0
    have ha1 : a = 0 := by omega
    refine J.loopV (fun j _ => j ≤ n.toNat) (fun j => n.toNat - j) (fun j u => [(9, .int .i64 (j : Nat)), (7, u), (8, .pointer (some ⟨b, 0, none⟩)), (0, v), (1, .int .i64 a), (2, .int .i64 n)]) (fun j u => [row eLook 149 u (l.take a ++ List.replicate j ((⟨10, 0⟩ : Look))), blk b (.cells #[.int .i64 ((⟨10, 0⟩ : Look)).size, .int .i64 ((⟨10, 0⟩ : Look)).mark] 149 (0, 0))]) 0 _ (Nat.zero_le _) ?_ (hL := by refine Ent.row ?_ ?_; (exact Ent.blkS Ent.nil); simp)
    intro j u hj ih
    repeat' (first | ((with_reducible apply iOJ); first | ((with_reducible apply iOp); refine OJ.p ?_) | with_reducible apply OJ.nil | ((with_reducible apply iOg); first | refine OJ.guardY ?_ | refine OJ.guardN ?_ | refine OJ.guardNd ?_ | refine OJ.guardU ?_ | refine OJ.guardS (fun _ => ?_) (fun _ => ?_) | fail) | ((with_reducible apply iOstore); first | (refine OJ.as AS.store ?_; rintro _ _ rfl) | (refine OJ.as AS.storeA ?_; rintro _ _ rfl) | (refine OJ.as AS.storeAV ?_; rintro _ _ rfl) | (refine OJ.as AS.storeE ?_; rintro _ _ rfl) | (refine OJ.as AS.storeEA ?_; rintro _ _ rfl) | fail) | ((with_reducible apply iOcall); first | (refine OJ.as AS.append1 ?_; rintro _ _ rfl) | (refine OJ.as AS.append ?_; rintro _ _ rfl) | fail) | ((with_reducible apply iObox); first | (refine OJ.as AS.box1 ?_; rintro _ _ ⟨_, rfl, rfl⟩) | (refine OJ.as AS.boxA ?_; rintro _ _ ⟨_, rfl, rfl⟩) | fail) | ((with_reducible apply iOalloc); first | (refine OJ.as AS.alloc ?_; rintro _ _ ⟨_, rfl, rfl⟩) | fail) | ((with_reducible apply iObuildSlice); first | (refine OJ.as AS.buildSlice ?_; rintro _ _ ⟨_, rfl, rfl⟩) | fail) | ((with_reducible apply iOmakeSlice); first | (refine OJ.as AS.makeSlice ?_; rintro _ _ rfl) | fail) | ((with_reducible apply iOmakeMap); first | (refine OJ.as AS.makeMap ?_; rintro _ _ ⟨_, rfl, rfl⟩) | fail) | ((with_reducible apply iOmapEntry); first | (refine OJ.as AS.mapEntry ?_; rintro _ _ ⟨_, _, rfl, rfl⟩) | fail) | ((with_reducible apply iOentryStore); first | (refine OJ.as AS.entryStore ?_; rintro _ _ rfl) | fail) | refine OJ.unboxP fun _ => ?_ | fail) | ((with_reducible apply iJ); first | refine J.seq ?_ | refine J.region ?_ | refine J.block ?_ | refine J.skip ?_ | refine J.exit ?_ | refine J.condT ?_ | refine J.condF ?_ | refine J.cond (fun _ => ?_) (fun _ => ?_) | refine J.draw ?_ | refine J.ret (ends _ trivial rfl ?_) | fail) | ((with_reducible apply iJK); first | refine JK.code ?_ | refine JK.blk ?_ | refine JK.loop ?_ | refine JK.begin ?_ | refine JK.more ?_ | fail) | ((with_reducible apply iAJ); first | refine AJ.rebase ?_ | refine AJ.regain ?_ | refine AJ.take ?_ | refine AJ.takeY ?_ | refine AJ.takeN ?_ | refine AJ.takeNd ?_ | refine AJ.takeNS ?_ | refine AJ.takeU ?_ | refine AJ.sel ?_ | refine AJ.selY ?_ | refine AJ.sel2 ?_ ?_ | refine AJ.split (fun _ => ?_) (fun _ => ?_) | refine AJ.done ?_ | fail) | ((with_reducible apply iAO); first | ((with_reducible apply iAstore); first | (refine AO.as AS.store ?_; rotate_right; rintro _ _ rfl; refine AO.step ?_) | (refine AO.as AS.storeA ?_; rotate_right; rintro _ _ rfl; refine AO.step ?_) | (refine AO.as AS.storeAV ?_; rotate_right; rintro _ _ rfl; refine AO.step ?_) | (refine AO.as AS.storeE ?_; rotate_right; rintro _ _ rfl; refine AO.step ?_) | (refine AO.as AS.storeEA ?_; rotate_right; rintro _ _ rfl; refine AO.step ?_) | fail) | ((with_reducible apply iAcall); first | (refine AO.as AS.append1 ?_; rotate_right; rintro _ _ rfl; refine AO.step ?_) | (refine AO.as AS.append ?_; rotate_right; rintro _ _ rfl; refine AO.step ?_) | fail) | ((with_reducible apply iAbox); first | (refine AO.as AS.box1 ?_; rotate_right; rintro _ _ ⟨_, rfl, rfl⟩; refine AO.step ?_) | (refine AO.as AS.boxA ?_; rotate_right; rintro _ _ ⟨_, rfl, rfl⟩; refine AO.step ?_) | fail) | ((with_reducible apply iAalloc); first | (refine AO.as AS.alloc ?_; rotate_right; rintro _ _ ⟨_, rfl, rfl⟩; refine AO.step ?_) | fail) | ((with_reducible apply iAbuildSlice); first | (refine AO.as AS.buildSlice ?_; rotate_right; rintro _ _ ⟨_, rfl, rfl⟩; refine AO.step ?_) | fail) | ((with_reducible apply iAmakeSlice); first | (refine AO.as AS.makeSlice ?_; rotate_right; rintro _ _ rfl; refine AO.step ?_) | fail) | ((with_reducible apply iAmakeMap); first | (refine AO.as AS.makeMap ?_; rotate_right; rintro _ _ ⟨_, rfl, rfl⟩; refine AO.step ?_) | fail) | ((with_reducible apply iAmapEntry); first | (refine AO.as AS.mapEntry ?_; rotate_right; rintro _ _ ⟨_, _, rfl, rfl⟩; refine AO.step ?_) | fail) | ((with_reducible apply iAentryStore); first | (refine AO.as AS.entryStore ?_; rotate_right; rintro _ _ rfl; refine AO.step ?_) | fail) | fail) | ((with_reducible apply iJL); first | refine JL.useL (ih (j + 1) _ (by omega) (by omega)) ?_ | fail) | ((with_reducible apply iEnt); first | exact Ent.nil | ((with_reducible apply iERow); refine Ent.row ?_ ?_) | ((with_reducible apply iEBox); first | refine Ent.box ?_ ?_ | refine Ent.box2 ?_ ?_) | ((with_reducible apply iEBlk); refine Ent.blk ?_ ?_) | ((with_reducible apply iEPure); refine Ent.pure ?_ ?_) | ((with_reducible apply iERdR); first | refine Ent.rdR ?_ | refine Ent.any ?_ | fail) | refine Ent.any ?_ | with_reducible exact Ent.refl | fail) | ((with_reducible apply iEq); with_reducible rfl) | fail)
    · simp [List.replicate_succ']
    · simp [sMove, sMoveLook, takeAll, -List.getD_eq_getElem?_getD, toNat1, *, show j = n.toNat by omega]
end Go.SL
