/- Parts of the proof (joined by program). -/
import Derived.Test.YtccmdhihlkmjjaaGreatDoorMC5
import Derived.Sort.Row
import Derived.Laws.IdiomCopy
import Derived.Laws.CopyRow
import Derived.Laws.AppendOwn
import Derived.Shelf.Spec.SlicesInsert
import Derived.Shelf.Spec.SlicesInsertGrow
/- impl.isLetter, lettersOk; utf8.AppendRune; impl.Utf8Put. -/
set_option linter.unusedVariables false
set_option linter.unusedSimpArgs false
namespace Go.SL
open Go.RowKit Go.Proofs
def isLet (r : Int) : Bool := decide (0 ≤ r) && (decide (r ≤ 1114111) && (decide (r < 55296) || decide (57343 < r)))
theorem isLet_size (r : Int) : isLet r = !decide (rsize r = 0) := by
  unfold isLet rsize
  rw [Bool.eq_iff_iff]
  simp only [Bool.and_eq_true, Bool.or_eq_true, decide_eq_true_eq, Bool.not_eq_true', decide_eq_false_iff_not]
  (repeat' split) <;> omega
set_option maxRecDepth 100000 in
theorem isLetter_c (r : Int) : Spec Tryz.prog 83 [.int .i64 r] [] [] (fun _ : Unit => .bool (isLet r)) (fun _ => []) (fun _ => True) := by
  refine Spec.mk Tryz.func83 rfl Tryz.ntmps83 rfl ?_
  intro w0 O hR hS0; clear hR hS0
  repeat' (first | ((with_reducible apply iOJ); first | ((with_reducible apply iOp); refine OJ.p ?_) | with_reducible apply OJ.nil | ((with_reducible apply iOg); first | refine OJ.guardY ?_ | refine OJ.guardN ?_ | refine OJ.guardNd ?_ | refine OJ.guardU ?_ | refine OJ.guardS (fun _ => ?_) (fun _ => ?_) | fail) | ((with_reducible apply iOstore); first | (refine OJ.as AS.store ?_; rintro _ _ rfl) | (refine OJ.as AS.storeA ?_; rintro _ _ rfl) | (refine OJ.as AS.storeAV ?_; rintro _ _ rfl) | (refine OJ.as AS.storeE ?_; rintro _ _ rfl) | (refine OJ.as AS.storeEA ?_; rintro _ _ rfl) | fail) | ((with_reducible apply iOcall); first | (refine OJ.as AS.append1 ?_; rintro _ _ rfl) | (refine OJ.as AS.append ?_; rintro _ _ rfl) | fail) | ((with_reducible apply iObox); first | (refine OJ.as AS.box1 ?_; rintro _ _ ⟨_, rfl, rfl⟩) | (refine OJ.as AS.boxA ?_; rintro _ _ ⟨_, rfl, rfl⟩) | fail) | ((with_reducible apply iOalloc); first | (refine OJ.as AS.alloc ?_; rintro _ _ ⟨_, rfl, rfl⟩) | fail) | ((with_reducible apply iObuildSlice); first | (refine OJ.as AS.buildSlice ?_; rintro _ _ ⟨_, rfl, rfl⟩) | fail) | ((with_reducible apply iOmakeSlice); first | (refine OJ.as AS.makeSlice ?_; rintro _ _ rfl) | fail) | ((with_reducible apply iOmakeMap); first | (refine OJ.as AS.makeMap ?_; rintro _ _ ⟨_, rfl, rfl⟩) | fail) | ((with_reducible apply iOmapEntry); first | (refine OJ.as AS.mapEntry ?_; rintro _ _ ⟨_, _, rfl, rfl⟩) | fail) | ((with_reducible apply iOentryStore); first | (refine OJ.as AS.entryStore ?_; rintro _ _ rfl) | fail) | refine OJ.unboxP fun _ => ?_ | fail) | ((with_reducible apply iJ); first | refine J.seq ?_ | refine J.region ?_ | refine J.block ?_ | refine J.skip ?_ | refine J.exit ?_ | refine J.condT ?_ | refine J.condF ?_ | refine J.cond (fun _ => ?_) (fun _ => ?_) | refine J.retB ?_ | fail) | ((with_reducible apply iJK); first | refine JK.code ?_ | refine JK.blk ?_ | refine JK.loop ?_ | refine JK.begin ?_ | refine JK.more ?_ | fail) | ((with_reducible apply iEnt); first | exact Ent.nil | ((with_reducible apply iERow); refine Ent.row ?_ ?_) | ((with_reducible apply iEBox); first | refine Ent.box ?_ ?_ | refine Ent.box2 ?_ ?_) | ((with_reducible apply iEBlk); refine Ent.blk ?_ ?_) | ((with_reducible apply iEPure); refine Ent.pure ?_ ?_) | ((with_reducible apply iERdR); first | refine Ent.rdR ?_ | refine Ent.any ?_ | fail) | refine Ent.any ?_ | with_reducible exact Ent.refl | fail) | ((with_reducible apply iEq); with_reducible rfl) | fail)
  all_goals
    unfold isLet
    rw [Bool.eq_iff_iff]
    simp only [Bool.and_eq_true, Bool.or_eq_true, decide_eq_true_eq, Bool.false_eq_true]
    first | omega | simp [*]
set_option maxRecDepth 100000 in
theorem notLetter_c (r : Int) : Spec Tryz.prog 82 ([.int .i64 r] ++ []) [] [] (fun _ : Unit => .bool (!isLet r)) (fun _ => []) (fun _ => True) := by
  refine Spec.mk Tryz.func82 rfl Tryz.ntmps82 rfl ?_
  intro w0 O hR hS0; clear hR hS0
  repeat' (first | ((with_reducible apply iOJ); first | ((with_reducible apply iOp); refine OJ.p ?_) | with_reducible apply OJ.nil | ((with_reducible apply iOg); first | refine OJ.guardY ?_ | refine OJ.guardN ?_ | refine OJ.guardNd ?_ | refine OJ.guardU ?_ | refine OJ.guardS (fun _ => ?_) (fun _ => ?_) | fail) | ((with_reducible apply iOstore); first | (refine OJ.as AS.store ?_; rintro _ _ rfl) | (refine OJ.as AS.storeA ?_; rintro _ _ rfl) | (refine OJ.as AS.storeAV ?_; rintro _ _ rfl) | (refine OJ.as AS.storeE ?_; rintro _ _ rfl) | (refine OJ.as AS.storeEA ?_; rintro _ _ rfl) | fail) | ((with_reducible apply iOcall); first | (refine OJ.as AS.append1 ?_; rintro _ _ rfl) | (refine OJ.as AS.append ?_; rintro _ _ rfl) | (refine OJ.as (AS.call0 (isLetter_c _)) ?_; rotate_right; rintro _ _ ⟨y, hy, rfl, rfl⟩) | fail) | ((with_reducible apply iObox); first | (refine OJ.as AS.box1 ?_; rintro _ _ ⟨_, rfl, rfl⟩) | (refine OJ.as AS.boxA ?_; rintro _ _ ⟨_, rfl, rfl⟩) | fail) | ((with_reducible apply iOalloc); first | (refine OJ.as AS.alloc ?_; rintro _ _ ⟨_, rfl, rfl⟩) | fail) | ((with_reducible apply iObuildSlice); first | (refine OJ.as AS.buildSlice ?_; rintro _ _ ⟨_, rfl, rfl⟩) | fail) | ((with_reducible apply iOmakeSlice); first | (refine OJ.as AS.makeSlice ?_; rintro _ _ rfl) | fail) | ((with_reducible apply iOmakeMap); first | (refine OJ.as AS.makeMap ?_; rintro _ _ ⟨_, rfl, rfl⟩) | fail) | ((with_reducible apply iOmapEntry); first | (refine OJ.as AS.mapEntry ?_; rintro _ _ ⟨_, _, rfl, rfl⟩) | fail) | ((with_reducible apply iOentryStore); first | (refine OJ.as AS.entryStore ?_; rintro _ _ rfl) | fail) | refine OJ.unboxP fun _ => ?_ | fail) | ((with_reducible apply iJ); first | refine J.seq ?_ | refine J.region ?_ | refine J.block ?_ | refine J.skip ?_ | refine J.exit ?_ | refine J.condT ?_ | refine J.condF ?_ | refine J.cond (fun _ => ?_) (fun _ => ?_) | refine J.retB rfl | fail) | ((with_reducible apply iJK); first | refine JK.code ?_ | refine JK.blk ?_ | refine JK.loop ?_ | refine JK.begin ?_ | refine JK.more ?_ | fail) | ((with_reducible apply iEnt); first | exact Ent.nil | ((with_reducible apply iERow); refine Ent.row ?_ ?_) | ((with_reducible apply iEBox); first | refine Ent.box ?_ ?_ | refine Ent.box2 ?_ ?_) | ((with_reducible apply iEBlk); refine Ent.blk ?_ ?_) | ((with_reducible apply iEPure); refine Ent.pure ?_ ?_) | ((with_reducible apply iERdR); first | refine Ent.rdR ?_ | refine Ent.any ?_ | fail) | refine Ent.any ?_ | with_reducible exact Ent.refl | fail) | ((with_reducible apply iEq); with_reducible rfl) | fail)
def fnLet : Value := .func (.func 82) #[] #[]
set_option maxRecDepth 100000 in
set_option maxHeartbeats 4000000 in
theorem indexLet_c (v : Value) (l : List Int) : Spec Tryz.prog 142 [v, fnLet] [rd eInt v l] [] (fun n : Int => .int .i64 n) (fun _ => []) (fun n => decide (0 ≤ n) = !l.all isLet) := by
  refine Spec.mk Tryz.func142 rfl Tryz.ntmps142 rfl ?_
  intro w0 O hR hS0
  have hr := hR _ List.mem_cons_self; clear hR
  have hb := rd_bd (hr.h w0 hS0); clear hS0
  repeat' (first | ((with_reducible apply iOJ); first | ((with_reducible apply iOp); refine OJ.p ?_) | with_reducible apply OJ.nil | ((with_reducible apply iOg); first | refine OJ.guardY ?_ | refine OJ.guardN ?_ | refine OJ.guardNd ?_ | refine OJ.guardU ?_ | refine OJ.guardS (fun _ => ?_) (fun _ => ?_) | fail) | ((with_reducible apply iOstore); first | (refine OJ.as AS.store ?_; rintro _ _ rfl) | (refine OJ.as AS.storeA ?_; rintro _ _ rfl) | (refine OJ.as AS.storeAV ?_; rintro _ _ rfl) | (refine OJ.as AS.storeE ?_; rintro _ _ rfl) | (refine OJ.as AS.storeEA ?_; rintro _ _ rfl) | fail) | ((with_reducible apply iOcall); first | (refine OJ.as AS.append1 ?_; rintro _ _ rfl) | (refine OJ.as AS.append ?_; rintro _ _ rfl) | fail) | ((with_reducible apply iObox); first | (refine OJ.as AS.box1 ?_; rintro _ _ ⟨_, rfl, rfl⟩) | (refine OJ.as AS.boxA ?_; rintro _ _ ⟨_, rfl, rfl⟩) | fail) | ((with_reducible apply iOalloc); first | (refine OJ.as AS.alloc ?_; rintro _ _ ⟨_, rfl, rfl⟩) | fail) | ((with_reducible apply iObuildSlice); first | (refine OJ.as AS.buildSlice ?_; rintro _ _ ⟨_, rfl, rfl⟩) | fail) | ((with_reducible apply iOmakeSlice); first | (refine OJ.as AS.makeSlice ?_; rintro _ _ rfl) | fail) | ((with_reducible apply iOmakeMap); first | (refine OJ.as AS.makeMap ?_; rintro _ _ ⟨_, rfl, rfl⟩) | fail) | ((with_reducible apply iOmapEntry); first | (refine OJ.as AS.mapEntry ?_; rintro _ _ ⟨_, _, rfl, rfl⟩) | fail) | ((with_reducible apply iOentryStore); first | (refine OJ.as AS.entryStore ?_; rintro _ _ rfl) | fail) | refine OJ.unboxP fun _ => ?_ | fail) | ((with_reducible apply iJ); first | refine J.seq ?_ | refine J.region ?_ | refine J.block ?_ | refine J.skip ?_ | refine J.exit ?_ | refine J.condT ?_ | refine J.condF ?_ | refine J.cond (fun _ => ?_) (fun _ => ?_) | fail) | ((with_reducible apply iJK); first | refine JK.code ?_ | refine JK.blk ?_ | refine JK.loop ?_ | refine JK.begin ?_ | refine JK.more ?_ | fail) | ((with_reducible apply iEnt); first | exact Ent.nil | ((with_reducible apply iERow); refine Ent.row ?_ ?_) | ((with_reducible apply iEBox); first | refine Ent.box ?_ ?_ | refine Ent.box2 ?_ ?_) | ((with_reducible apply iEBlk); refine Ent.blk ?_ ?_) | ((with_reducible apply iEPure); refine Ent.pure ?_ ?_) | ((with_reducible apply iERdR); first | refine Ent.rdR ?_ | refine Ent.any ?_ | fail) | refine Ent.any ?_ | with_reducible exact Ent.refl | fail) | ((with_reducible apply iEq); with_reducible rfl) | fail)
  refine J.loopI (fun i : Nat => i ≤ l.length ∧ (l.take i).all isLet = true) (fun i => l.length - i) (fun i => [(8, .int .i64 i), (7, .int .i64 l.length), (0, v), (1, fnLet)]) (fun _ => []) 0 ⟨Nat.zero_le _, by simp⟩ ?_
  rintro i ⟨hi, hm⟩ ih
  by_cases hlt : i < l.length
  · have hsp : l = l.take i ++ l.getD i eInt.d :: l.drop (i + 1) := by
      rw [← dropD hlt, List.take_append_drop]
    repeat' (first | ((with_reducible apply iOJ); first | ((with_reducible apply iOp); refine OJ.p ?_) | with_reducible apply OJ.nil | ((with_reducible apply iOg); first | refine OJ.guardY ?_ | refine OJ.guardN ?_ | refine OJ.guardNd ?_ | refine OJ.guardU ?_ | refine OJ.guardS (fun _ => ?_) (fun _ => ?_) | fail) | ((with_reducible apply iOstore); first | (refine OJ.as AS.store ?_; rintro _ _ rfl) | (refine OJ.as AS.storeA ?_; rintro _ _ rfl) | (refine OJ.as AS.storeAV ?_; rintro _ _ rfl) | (refine OJ.as AS.storeE ?_; rintro _ _ rfl) | (refine OJ.as AS.storeEA ?_; rintro _ _ rfl) | fail) | ((with_reducible apply iOcall); first | (refine OJ.as AS.append1 ?_; rintro _ _ rfl) | (refine OJ.as AS.append ?_; rintro _ _ rfl) | (refine OJ.as (AS.callV (notLetter_c _)) ?_; rotate_right; rintro _ _ ⟨y, hy, rfl, rfl⟩) | fail) | ((with_reducible apply iObox); first | (refine OJ.as AS.box1 ?_; rintro _ _ ⟨_, rfl, rfl⟩) | (refine OJ.as AS.boxA ?_; rintro _ _ ⟨_, rfl, rfl⟩) | fail) | ((with_reducible apply iOalloc); first | (refine OJ.as AS.alloc ?_; rintro _ _ ⟨_, rfl, rfl⟩) | fail) | ((with_reducible apply iObuildSlice); first | (refine OJ.as AS.buildSlice ?_; rintro _ _ ⟨_, rfl, rfl⟩) | fail) | ((with_reducible apply iOmakeSlice); first | (refine OJ.as AS.makeSlice ?_; rintro _ _ rfl) | fail) | ((with_reducible apply iOmakeMap); first | (refine OJ.as AS.makeMap ?_; rintro _ _ ⟨_, rfl, rfl⟩) | fail) | ((with_reducible apply iOmapEntry); first | (refine OJ.as AS.mapEntry ?_; rintro _ _ ⟨_, _, rfl, rfl⟩) | fail) | ((with_reducible apply iOentryStore); first | (refine OJ.as AS.entryStore ?_; rintro _ _ rfl) | fail) | refine OJ.unboxP fun _ => ?_ | fail) | ((with_reducible apply iJ); first | refine J.seq ?_ | refine J.region ?_ | refine J.block ?_ | refine J.skip ?_ | refine J.exit ?_ | refine J.condT ?_ | refine J.condF ?_ | refine J.cond (fun _ => ?_) (fun _ => ?_) | refine J.ret (ends (i : Int) ?_ rfl Ent.nil) | fail) | ((with_reducible apply iJK); first | refine JK.code ?_ | refine JK.blk ?_ | refine JK.loop ?_ | refine JK.begin ?_ | refine JK.more ?_ | fail) | ((with_reducible apply iJL); first | refine JL.use (ih (i + 1) ⟨by omega, ?_⟩ (by omega)) | fail) | ((with_reducible apply iEnt); first | exact Ent.nil | ((with_reducible apply iERow); refine Ent.row ?_ ?_) | ((with_reducible apply iEBox); first | refine Ent.box ?_ ?_ | refine Ent.box2 ?_ ?_) | ((with_reducible apply iEBlk); refine Ent.blk ?_ ?_) | ((with_reducible apply iEPure); refine Ent.pure ?_ ?_) | ((with_reducible apply iERdR); first | refine Ent.rdR ?_ | refine Ent.any ?_ | fail) | refine Ent.any ?_ | with_reducible exact Ent.refl | fail) | ((with_reducible apply iEq); with_reducible rfl) | fail)
    all_goals first | (exfalso; omega) | skip
    · rename_i h
      have h' : isLet (l.getD i eInt.d) = false := by simpa using h
      have e : l.all isLet = false := by
        rw [hsp, List.all_append, List.all_cons, h', Bool.false_and, Bool.and_false]
      rw [e, decide_eq_true (by omega)]
      rfl
    · rename_i h
      have h' : isLet (l.getD i eInt.d) = true := by simpa using h
      rw [List.take_add_one, List.all_append, hm, List.getElem?_eq_getElem hlt]
      rw [List.getD_eq_getElem?_getD, List.getElem?_eq_getElem hlt] at h'
      simpa using h'
  · repeat' (first | ((with_reducible apply iOJ); first | ((with_reducible apply iOp); refine OJ.p ?_) | with_reducible apply OJ.nil | ((with_reducible apply iOg); first | refine OJ.guardY ?_ | refine OJ.guardN ?_ | refine OJ.guardNd ?_ | refine OJ.guardU ?_ | refine OJ.guardS (fun _ => ?_) (fun _ => ?_) | fail) | ((with_reducible apply iOstore); first | (refine OJ.as AS.store ?_; rintro _ _ rfl) | (refine OJ.as AS.storeA ?_; rintro _ _ rfl) | (refine OJ.as AS.storeAV ?_; rintro _ _ rfl) | (refine OJ.as AS.storeE ?_; rintro _ _ rfl) | (refine OJ.as AS.storeEA ?_; rintro _ _ rfl) | fail) | ((with_reducible apply iOcall); first | (refine OJ.as AS.append1 ?_; rintro _ _ rfl) | (refine OJ.as AS.append ?_; rintro _ _ rfl) | (refine OJ.as (AS.callV (notLetter_c _)) ?_; rotate_right; rintro _ _ ⟨y, hy, rfl, rfl⟩) | fail) | ((with_reducible apply iObox); first | (refine OJ.as AS.box1 ?_; rintro _ _ ⟨_, rfl, rfl⟩) | (refine OJ.as AS.boxA ?_; rintro _ _ ⟨_, rfl, rfl⟩) | fail) | ((with_reducible apply iOalloc); first | (refine OJ.as AS.alloc ?_; rintro _ _ ⟨_, rfl, rfl⟩) | fail) | ((with_reducible apply iObuildSlice); first | (refine OJ.as AS.buildSlice ?_; rintro _ _ ⟨_, rfl, rfl⟩) | fail) | ((with_reducible apply iOmakeSlice); first | (refine OJ.as AS.makeSlice ?_; rintro _ _ rfl) | fail) | ((with_reducible apply iOmakeMap); first | (refine OJ.as AS.makeMap ?_; rintro _ _ ⟨_, rfl, rfl⟩) | fail) | ((with_reducible apply iOmapEntry); first | (refine OJ.as AS.mapEntry ?_; rintro _ _ ⟨_, _, rfl, rfl⟩) | fail) | ((with_reducible apply iOentryStore); first | (refine OJ.as AS.entryStore ?_; rintro _ _ rfl) | fail) | refine OJ.unboxP fun _ => ?_ | fail) | ((with_reducible apply iJ); first | refine J.seq ?_ | refine J.region ?_ | refine J.block ?_ | refine J.skip ?_ | refine J.exit ?_ | refine J.condT ?_ | refine J.condF ?_ | refine J.cond (fun _ => ?_) (fun _ => ?_) | refine J.ret (ends (-1 : Int) ?_ rfl Ent.nil) | fail) | ((with_reducible apply iJK); first | refine JK.code ?_ | refine JK.blk ?_ | refine JK.loop ?_ | refine JK.begin ?_ | refine JK.more ?_ | fail) | ((with_reducible apply iEnt); first | exact Ent.nil | ((with_reducible apply iERow); refine Ent.row ?_ ?_) | ((with_reducible apply iEBox); first | refine Ent.box ?_ ?_ | refine Ent.box2 ?_ ?_) | ((with_reducible apply iEBlk); refine Ent.blk ?_ ?_) | ((with_reducible apply iEPure); refine Ent.pure ?_ ?_) | ((with_reducible apply iERdR); first | refine Ent.rdR ?_ | refine Ent.any ?_ | fail) | refine Ent.any ?_ | with_reducible exact Ent.refl | fail) | ((with_reducible apply iEq); with_reducible rfl) | fail)
    all_goals first | (exfalso; omega) | skip
    rw [List.take_of_length_le (by omega)] at hm
    rw [hm]
    rfl
set_option maxRecDepth 100000 in
theorem containsLet_c (v : Value) (l : List Int) : Spec Tryz.prog 81 [v, fnLet] [rd eInt v l] [] (fun _ : Unit => .bool (!l.all isLet)) (fun _ => []) (fun _ => True) := by
  refine Spec.mk Tryz.func81 rfl Tryz.ntmps81 rfl ?_
  intro w0 O hR hS0
  have hr := hR _ List.mem_cons_self; clear hR hS0
  repeat' (first | ((with_reducible apply iOJ); first | ((with_reducible apply iOp); refine OJ.p ?_) | with_reducible apply OJ.nil | ((with_reducible apply iOg); first | refine OJ.guardY ?_ | refine OJ.guardN ?_ | refine OJ.guardNd ?_ | refine OJ.guardU ?_ | refine OJ.guardS (fun _ => ?_) (fun _ => ?_) | fail) | ((with_reducible apply iOstore); first | (refine OJ.as AS.store ?_; rintro _ _ rfl) | (refine OJ.as AS.storeA ?_; rintro _ _ rfl) | (refine OJ.as AS.storeAV ?_; rintro _ _ rfl) | (refine OJ.as AS.storeE ?_; rintro _ _ rfl) | (refine OJ.as AS.storeEA ?_; rintro _ _ rfl) | fail) | ((with_reducible apply iOcall); first | (refine OJ.as AS.append1 ?_; rintro _ _ rfl) | (refine OJ.as AS.append ?_; rintro _ _ rfl) | (refine OJ.as (AS.call0 (indexLet_c _ _)) ?_; rotate_right; rintro _ _ ⟨y, hy, rfl, rfl⟩) | fail) | ((with_reducible apply iObox); first | (refine OJ.as AS.box1 ?_; rintro _ _ ⟨_, rfl, rfl⟩) | (refine OJ.as AS.boxA ?_; rintro _ _ ⟨_, rfl, rfl⟩) | fail) | ((with_reducible apply iOalloc); first | (refine OJ.as AS.alloc ?_; rintro _ _ ⟨_, rfl, rfl⟩) | fail) | ((with_reducible apply iObuildSlice); first | (refine OJ.as AS.buildSlice ?_; rintro _ _ ⟨_, rfl, rfl⟩) | fail) | ((with_reducible apply iOmakeSlice); first | (refine OJ.as AS.makeSlice ?_; rintro _ _ rfl) | fail) | ((with_reducible apply iOmakeMap); first | (refine OJ.as AS.makeMap ?_; rintro _ _ ⟨_, rfl, rfl⟩) | fail) | ((with_reducible apply iOmapEntry); first | (refine OJ.as AS.mapEntry ?_; rintro _ _ ⟨_, _, rfl, rfl⟩) | fail) | ((with_reducible apply iOentryStore); first | (refine OJ.as AS.entryStore ?_; rintro _ _ rfl) | fail) | refine OJ.unboxP fun _ => ?_ | fail) | ((with_reducible apply iJ); first | refine J.seq ?_ | refine J.region ?_ | refine J.block ?_ | refine J.skip ?_ | refine J.exit ?_ | refine J.condT ?_ | refine J.condF ?_ | refine J.cond (fun _ => ?_) (fun _ => ?_) | refine J.retB hy | fail) | ((with_reducible apply iJK); first | refine JK.code ?_ | refine JK.blk ?_ | refine JK.loop ?_ | refine JK.begin ?_ | refine JK.more ?_ | fail) | ((with_reducible apply iEnt); first | exact Ent.nil | ((with_reducible apply iERow); refine Ent.row ?_ ?_) | ((with_reducible apply iEBox); first | refine Ent.box ?_ ?_ | refine Ent.box2 ?_ ?_) | ((with_reducible apply iEBlk); refine Ent.blk ?_ ?_) | ((with_reducible apply iEPure); refine Ent.pure ?_ ?_) | ((with_reducible apply iERdR); first | refine Ent.rdR ?_ | refine Ent.any ?_ | fail) | refine Ent.any ?_ | with_reducible exact Ent.refl | fail) | ((with_reducible apply iEq); with_reducible rfl) | fail)
def lettersOk (l : List Int) : Bool := decide (l.length ≤ 80) && l.all isLet
set_option maxRecDepth 100000 in
theorem lettersOk_c (v : Value) (l : List Int) : Spec Tryz.prog 40 [v] [rd eInt v l] [] (fun _ : Unit => .bool (lettersOk l)) (fun _ => []) (fun _ => True) := by
  refine Spec.mk Tryz.func40 rfl Tryz.ntmps40 rfl ?_
  intro w0 O hR hS0
  have hr := hR _ List.mem_cons_self; clear hR hS0
  repeat' (first | ((with_reducible apply iOJ); first | ((with_reducible apply iOp); refine OJ.p ?_) | with_reducible apply OJ.nil | ((with_reducible apply iOg); first | refine OJ.guardY ?_ | refine OJ.guardN ?_ | refine OJ.guardNd ?_ | refine OJ.guardU ?_ | refine OJ.guardS (fun _ => ?_) (fun _ => ?_) | fail) | ((with_reducible apply iOstore); first | (refine OJ.as AS.store ?_; rintro _ _ rfl) | (refine OJ.as AS.storeA ?_; rintro _ _ rfl) | (refine OJ.as AS.storeAV ?_; rintro _ _ rfl) | (refine OJ.as AS.storeE ?_; rintro _ _ rfl) | (refine OJ.as AS.storeEA ?_; rintro _ _ rfl) | fail) | ((with_reducible apply iOcall); first | (refine OJ.as AS.append1 ?_; rintro _ _ rfl) | (refine OJ.as AS.append ?_; rintro _ _ rfl) | (refine OJ.as (AS.call0 (containsLet_c _ _)) ?_; rotate_right; rintro _ _ ⟨y, hy, rfl, rfl⟩) | fail) | ((with_reducible apply iObox); first | (refine OJ.as AS.box1 ?_; rintro _ _ ⟨_, rfl, rfl⟩) | (refine OJ.as AS.boxA ?_; rintro _ _ ⟨_, rfl, rfl⟩) | fail) | ((with_reducible apply iOalloc); first | (refine OJ.as AS.alloc ?_; rintro _ _ ⟨_, rfl, rfl⟩) | fail) | ((with_reducible apply iObuildSlice); first | (refine OJ.as AS.buildSlice ?_; rintro _ _ ⟨_, rfl, rfl⟩) | fail) | ((with_reducible apply iOmakeSlice); first | (refine OJ.as AS.makeSlice ?_; rintro _ _ rfl) | fail) | ((with_reducible apply iOmakeMap); first | (refine OJ.as AS.makeMap ?_; rintro _ _ ⟨_, rfl, rfl⟩) | fail) | ((with_reducible apply iOmapEntry); first | (refine OJ.as AS.mapEntry ?_; rintro _ _ ⟨_, _, rfl, rfl⟩) | fail) | ((with_reducible apply iOentryStore); first | (refine OJ.as AS.entryStore ?_; rintro _ _ rfl) | fail) | refine OJ.unboxP fun _ => ?_ | fail) | ((with_reducible apply iJ); first | refine J.seq ?_ | refine J.region ?_ | refine J.block ?_ | refine J.skip ?_ | refine J.exit ?_ | refine J.condT ?_ | refine J.condF ?_ | refine J.cond (fun _ => ?_) (fun _ => ?_) | refine J.retB ?_ | fail) | ((with_reducible apply iJK); first | refine JK.code ?_ | refine JK.blk ?_ | refine JK.loop ?_ | refine JK.begin ?_ | refine JK.more ?_ | fail) | ((with_reducible apply iEnt); first | exact Ent.nil | ((with_reducible apply iERow); refine Ent.row ?_ ?_) | ((with_reducible apply iEBox); first | refine Ent.box ?_ ?_ | refine Ent.box2 ?_ ?_) | ((with_reducible apply iEBlk); refine Ent.blk ?_ ?_) | ((with_reducible apply iEPure); refine Ent.pure ?_ ?_) | ((with_reducible apply iERdR); first | refine Ent.rdR ?_ | refine Ent.any ?_ | fail) | refine Ent.any ?_ | with_reducible exact Ent.refl | fail) | ((with_reducible apply iEq); with_reducible rfl) | fail)
  · unfold lettersOk
    rw [decide_eq_true (by omega)]
    simp
  · unfold lettersOk
    rw [decide_eq_false (by omega)]
    rfl
theorem rsize_let {r : Int} (h : isLet r = true) : (0 ≤ r ∧ r ≤ 127 ∧ rsize r = 1) ∨ (128 ≤ r ∧ r ≤ 2047 ∧ rsize r = 2) ∨ (2048 ≤ r ∧ r ≤ 65535 ∧ rsize r = 3) ∨ (65536 ≤ r ∧ r ≤ 1114111 ∧ rsize r = 4) := by
  rw [isLet_size] at h
  unfold rsize at *
  (repeat' split at h) <;> simp at h <;> simp [*] <;> omega
set_option maxRecDepth 100000 in
set_option maxHeartbeats 4000000 in
theorem appendRune2_c (v : Value) (ys : List Int) (r : Int) (hr : isLet r = true) (h1 : 128 ≤ r) (hy : ys.length ≤ 1000000) : Spec Tryz.prog 148 [v, .int .i32 r] [] [row eU8 5 v ys] (fun u : Value => u) (fun u => [row eU8 5 u (ys ++ letB r)]) (fun _ => True) := by
  refine Spec.mk Tryz.func148 rfl Tryz.ntmps148 rfl ?_
  intro w0 O hR hS0; clear hR hS0
  have hs := rsize_let hr
  have h0 : 0 ≤ r ∧ r ≤ 1114111 ∧ (r < 55296 ∨ 57343 < r) := by
    unfold isLet at hr
    simpa using hr
  repeat' (first | ((with_reducible apply iOJ); first | ((with_reducible apply iOp); refine OJ.p ?_) | with_reducible apply OJ.nil | ((with_reducible apply iOg); first | refine OJ.guardY ?_ | refine OJ.guardN ?_ | refine OJ.guardNd ?_ | refine OJ.guardU ?_ | refine OJ.guardS (fun _ => ?_) (fun _ => ?_) | fail) | ((with_reducible apply iOstore); first | (refine OJ.as AS.store ?_; rintro _ _ rfl) | (refine OJ.as AS.storeA ?_; rintro _ _ rfl) | (refine OJ.as AS.storeAV ?_; rintro _ _ rfl) | (refine OJ.as AS.storeE ?_; rintro _ _ rfl) | (refine OJ.as AS.storeEA ?_; rintro _ _ rfl) | fail) | ((with_reducible apply iOcall); first | (refine OJ.as AS.append1 ?_; rintro _ _ rfl) | (refine OJ.as AS.append ?_; rintro _ _ rfl) | fail) | ((with_reducible apply iObox); first | (refine OJ.as AS.box1 ?_; rintro _ _ ⟨_, rfl, rfl⟩) | (refine OJ.as AS.boxA ?_; rintro _ _ ⟨_, rfl, rfl⟩) | fail) | ((with_reducible apply iOalloc); first | (refine OJ.as AS.alloc ?_; rintro _ _ ⟨_, rfl, rfl⟩) | fail) | ((with_reducible apply iObuildSlice); first | (refine OJ.as AS.buildSlice ?_; rintro _ _ ⟨_, rfl, rfl⟩) | fail) | ((with_reducible apply iOmakeSlice); first | (refine OJ.as AS.makeSlice ?_; rintro _ _ rfl) | fail) | ((with_reducible apply iOmakeMap); first | (refine OJ.as AS.makeMap ?_; rintro _ _ ⟨_, rfl, rfl⟩) | fail) | ((with_reducible apply iOmapEntry); first | (refine OJ.as AS.mapEntry ?_; rintro _ _ ⟨_, _, rfl, rfl⟩) | fail) | ((with_reducible apply iOentryStore); first | (refine OJ.as AS.entryStore ?_; rintro _ _ rfl) | fail) | refine OJ.unboxP fun _ => ?_ | fail) | ((with_reducible apply iJ); first | refine J.seq ?_ | refine J.region ?_ | refine J.block ?_ | refine J.skip ?_ | refine J.exit ?_ | refine J.condT ?_ | refine J.condF ?_ | refine J.cond (fun _ => ?_) (fun _ => ?_) | refine J.ret (ends _ trivial rfl ?_) | fail) | ((with_reducible apply iJK); first | refine JK.code ?_ | refine JK.blk ?_ | refine JK.loop ?_ | refine JK.begin ?_ | refine JK.more ?_ | fail) | ((with_reducible apply iEnt); first | exact Ent.nil | ((with_reducible apply iERow); refine Ent.row ?_ ?_) | ((with_reducible apply iEBox); first | refine Ent.box ?_ ?_ | refine Ent.box2 ?_ ?_) | ((with_reducible apply iEBlk); refine Ent.blk ?_ ?_) | ((with_reducible apply iEPure); refine Ent.pure ?_ ?_) | ((with_reducible apply iERdR); first | refine Ent.rdR ?_ | refine Ent.any ?_ | fail) | refine Ent.any ?_ | with_reducible exact Ent.refl | fail) | ((with_reducible apply iEq); with_reducible rfl) | fail)
  all_goals first
    | (exfalso; omega)
    | (refine congrArg (fun t => ys ++ t) ?_
       first
         | (have e : rsize r = 1 := by omega
            rw [letB, if_pos e])
         | (have e : rsize r = 2 := by omega
            rw [letB, if_neg (by omega), if_pos e])
         | (have e : rsize r = 3 := by omega
            rw [letB, if_neg (by omega), if_neg (by omega), if_pos e])
         | (have e : rsize r = 4 := by omega
            rw [letB, if_neg (by omega), if_neg (by omega), if_neg (by omega), if_pos e])
       all_goals ((repeat' refine List.cons_eq_cons.2 ⟨?_, ?_⟩) <;> first | rfl | omega))
set_option maxRecDepth 100000 in
set_option maxHeartbeats 4000000 in
theorem appendRune_c (v : Value) (ys : List Int) (r : Int) (hr : isLet r = true) (hy : ys.length ≤ 1000000) : Spec Tryz.prog 93 [v, .int .i32 r] [] [row eU8 5 v ys] (fun u : Value => u) (fun u => [row eU8 5 u (ys ++ letB r)]) (fun _ => True) := by
  refine Spec.mk Tryz.func93 rfl Tryz.ntmps93 rfl ?_
  intro w0 O hR hS0; clear hR hS0
  have hs := rsize_let hr
  have h0 : 0 ≤ r ∧ r ≤ 1114111 ∧ (r < 55296 ∨ 57343 < r) := by
    unfold isLet at hr
    simpa using hr
  repeat' (first | ((with_reducible apply iOJ); first | ((with_reducible apply iOp); refine OJ.p ?_) | with_reducible apply OJ.nil | ((with_reducible apply iOg); first | refine OJ.guardY ?_ | refine OJ.guardN ?_ | refine OJ.guardNd ?_ | refine OJ.guardU ?_ | refine OJ.guardS (fun _ => ?_) (fun _ => ?_) | fail) | ((with_reducible apply iOstore); first | (refine OJ.as AS.store ?_; rintro _ _ rfl) | (refine OJ.as AS.storeA ?_; rintro _ _ rfl) | (refine OJ.as AS.storeAV ?_; rintro _ _ rfl) | (refine OJ.as AS.storeE ?_; rintro _ _ rfl) | (refine OJ.as AS.storeEA ?_; rintro _ _ rfl) | fail) | ((with_reducible apply iOcall); first | (refine OJ.as AS.append1 ?_; rintro _ _ rfl) | (refine OJ.as AS.append ?_; rintro _ _ rfl) | (refine OJ.as (AS.call1 (appendRune2_c _ _ _ hr (by omega) hy)) ?_; rotate_right; rintro _ _ ⟨y, hy, rfl, rfl⟩) | fail) | ((with_reducible apply iObox); first | (refine OJ.as AS.box1 ?_; rintro _ _ ⟨_, rfl, rfl⟩) | (refine OJ.as AS.boxA ?_; rintro _ _ ⟨_, rfl, rfl⟩) | fail) | ((with_reducible apply iOalloc); first | (refine OJ.as AS.alloc ?_; rintro _ _ ⟨_, rfl, rfl⟩) | fail) | ((with_reducible apply iObuildSlice); first | (refine OJ.as AS.buildSlice ?_; rintro _ _ ⟨_, rfl, rfl⟩) | fail) | ((with_reducible apply iOmakeSlice); first | (refine OJ.as AS.makeSlice ?_; rintro _ _ rfl) | fail) | ((with_reducible apply iOmakeMap); first | (refine OJ.as AS.makeMap ?_; rintro _ _ ⟨_, rfl, rfl⟩) | fail) | ((with_reducible apply iOmapEntry); first | (refine OJ.as AS.mapEntry ?_; rintro _ _ ⟨_, _, rfl, rfl⟩) | fail) | ((with_reducible apply iOentryStore); first | (refine OJ.as AS.entryStore ?_; rintro _ _ rfl) | fail) | refine OJ.unboxP fun _ => ?_ | fail) | ((with_reducible apply iJ); first | refine J.seq ?_ | refine J.region ?_ | refine J.block ?_ | refine J.skip ?_ | refine J.exit ?_ | refine J.condT ?_ | refine J.condF ?_ | refine J.cond (fun _ => ?_) (fun _ => ?_) | refine J.ret (ends _ trivial rfl ?_) | fail) | ((with_reducible apply iJK); first | refine JK.code ?_ | refine JK.blk ?_ | refine JK.loop ?_ | refine JK.begin ?_ | refine JK.more ?_ | fail) | ((with_reducible apply iEnt); first | exact Ent.nil | ((with_reducible apply iERow); refine Ent.row ?_ ?_) | ((with_reducible apply iEBox); first | refine Ent.box ?_ ?_ | refine Ent.box2 ?_ ?_) | ((with_reducible apply iEBlk); refine Ent.blk ?_ ?_) | ((with_reducible apply iEPure); refine Ent.pure ?_ ?_) | ((with_reducible apply iERdR); first | refine Ent.rdR ?_ | refine Ent.any ?_ | fail) | refine Ent.any ?_ | with_reducible exact Ent.refl | fail) | ((with_reducible apply iEq); with_reducible rfl) | fail)
  all_goals first
    | (exfalso; omega)
    | (refine congrArg (fun t => ys ++ t) ?_
       first
         | (have e : rsize r = 1 := by omega
            rw [letB, if_pos e])
         | (have e : rsize r = 2 := by omega
            rw [letB, if_neg (by omega), if_pos e])
         | (have e : rsize r = 3 := by omega
            rw [letB, if_neg (by omega), if_neg (by omega), if_pos e])
         | (have e : rsize r = 4 := by omega
            rw [letB, if_neg (by omega), if_neg (by omega), if_neg (by omega), if_pos e])
       all_goals ((repeat' refine List.cons_eq_cons.2 ⟨?_, ?_⟩) <;> first | rfl | omega))
def putI (l : List Int) : List Int := l.flatMap letB
def iPut (l : List Int) : List UInt8 := match lettersOk l with
  | true => txt (putI l)
  | false => []
theorem putI_len : ∀ l, (putI l).length ≤ 4 * l.length
  | [] => Nat.le_refl _
  | x :: l => by
    have h1 := letB_len x
    have h2 := putI_len l
    unfold putI at *
    rw [List.flatMap_cons, List.length_append, List.length_cons]
    omega
set_option maxRecDepth 100000 in
set_option maxHeartbeats 4000000 in
theorem iPut_c (v : Value) (l : List Int) : Spec Tryz.prog 53 [v] [rd eInt v l] [] (fun _ : Unit => sv (iPut l)) (fun _ => []) (fun _ => True) := by
  refine Spec.mk Tryz.func53 rfl Tryz.ntmps53 rfl ?_
  intro w0 O hR hS0
  have hr := hR _ List.mem_cons_self; clear hR hS0
  obtain ⟨g, hg⟩ : ∃ g, iPut l = g := ⟨_, rfl⟩
  rw [hg]
  cases hk : lettersOk l with
  | false =>
    have hK := lettersOk_c v l
    rw [hk] at hK
    obtain rfl : g = [] := by rw [← hg, iPut, hk]
    repeat' (first | ((with_reducible apply iOJ); first | ((with_reducible apply iOp); refine OJ.p ?_) | with_reducible apply OJ.nil | ((with_reducible apply iOg); first | refine OJ.guardY ?_ | refine OJ.guardN ?_ | refine OJ.guardNd ?_ | refine OJ.guardU ?_ | refine OJ.guardS (fun _ => ?_) (fun _ => ?_) | fail) | ((with_reducible apply iOstore); first | (refine OJ.as AS.store ?_; rintro _ _ rfl) | (refine OJ.as AS.storeA ?_; rintro _ _ rfl) | (refine OJ.as AS.storeAV ?_; rintro _ _ rfl) | (refine OJ.as AS.storeE ?_; rintro _ _ rfl) | (refine OJ.as AS.storeEA ?_; rintro _ _ rfl) | fail) | ((with_reducible apply iOcall); first | (refine OJ.as AS.append1 ?_; rintro _ _ rfl) | (refine OJ.as AS.append ?_; rintro _ _ rfl) | (refine OJ.as (AS.call0 (hK)) ?_; rotate_right; rintro _ _ ⟨y, hy, rfl, rfl⟩) | fail) | ((with_reducible apply iObox); first | (refine OJ.as AS.box1 ?_; rintro _ _ ⟨_, rfl, rfl⟩) | (refine OJ.as AS.boxA ?_; rintro _ _ ⟨_, rfl, rfl⟩) | fail) | ((with_reducible apply iOalloc); first | (refine OJ.as AS.alloc ?_; rintro _ _ ⟨_, rfl, rfl⟩) | fail) | ((with_reducible apply iObuildSlice); first | (refine OJ.as AS.buildSlice ?_; rintro _ _ ⟨_, rfl, rfl⟩) | fail) | ((with_reducible apply iOmakeSlice); first | (refine OJ.as AS.makeSlice ?_; rintro _ _ rfl) | fail) | ((with_reducible apply iOmakeMap); first | (refine OJ.as AS.makeMap ?_; rintro _ _ ⟨_, rfl, rfl⟩) | fail) | ((with_reducible apply iOmapEntry); first | (refine OJ.as AS.mapEntry ?_; rintro _ _ ⟨_, _, rfl, rfl⟩) | fail) | ((with_reducible apply iOentryStore); first | (refine OJ.as AS.entryStore ?_; rintro _ _ rfl) | fail) | refine OJ.unboxP fun _ => ?_ | fail) | ((with_reducible apply iJ); first | refine J.seq ?_ | refine J.region ?_ | refine J.block ?_ | refine J.skip ?_ | refine J.exit ?_ | refine J.condT ?_ | refine J.condF ?_ | refine J.cond (fun _ => ?_) (fun _ => ?_) | refine J.ret (ends () trivial rfl Ent.nil) | fail) | ((with_reducible apply iJK); first | refine JK.code ?_ | refine JK.blk ?_ | refine JK.loop ?_ | refine JK.begin ?_ | refine JK.more ?_ | fail) | ((with_reducible apply iEnt); first | exact Ent.nil | ((with_reducible apply iERow); refine Ent.row ?_ ?_) | ((with_reducible apply iEBox); first | refine Ent.box ?_ ?_ | refine Ent.box2 ?_ ?_) | ((with_reducible apply iEBlk); refine Ent.blk ?_ ?_) | ((with_reducible apply iEPure); refine Ent.pure ?_ ?_) | ((with_reducible apply iERdR); first | refine Ent.rdR ?_ | refine Ent.any ?_ | fail) | refine Ent.any ?_ | with_reducible exact Ent.refl | fail) | ((with_reducible apply iEq); with_reducible rfl) | fail)
  | true =>
    have hK := lettersOk_c v l
    rw [hk] at hK
    obtain rfl : g = txt (putI l) := by rw [← hg, iPut, hk]
    unfold lettersOk at hk
    rw [Bool.and_eq_true, decide_eq_true_eq] at hk
    obtain ⟨hl, hall⟩ := hk
    repeat' (first | ((with_reducible apply iOJ); first | ((with_reducible apply iOp); refine OJ.p ?_) | with_reducible apply OJ.nil | ((with_reducible apply iOg); first | refine OJ.guardY ?_ | refine OJ.guardN ?_ | refine OJ.guardNd ?_ | refine OJ.guardU ?_ | refine OJ.guardS (fun _ => ?_) (fun _ => ?_) | fail) | ((with_reducible apply iOstore); first | (refine OJ.as AS.store ?_; rintro _ _ rfl) | (refine OJ.as AS.storeA ?_; rintro _ _ rfl) | (refine OJ.as AS.storeAV ?_; rintro _ _ rfl) | (refine OJ.as AS.storeE ?_; rintro _ _ rfl) | (refine OJ.as AS.storeEA ?_; rintro _ _ rfl) | fail) | ((with_reducible apply iOcall); first | (refine OJ.as AS.append1 ?_; rintro _ _ rfl) | (refine OJ.as AS.append ?_; rintro _ _ rfl) | (refine OJ.as (AS.call0 (hK)) ?_; rotate_right; rintro _ _ ⟨y, hy, rfl, rfl⟩) | fail) | ((with_reducible apply iObox); first | (refine OJ.as AS.box1 ?_; rintro _ _ ⟨_, rfl, rfl⟩) | (refine OJ.as AS.boxA ?_; rintro _ _ ⟨_, rfl, rfl⟩) | fail) | ((with_reducible apply iOalloc); first | (refine OJ.as AS.alloc ?_; rintro _ _ ⟨_, rfl, rfl⟩) | fail) | ((with_reducible apply iObuildSlice); first | (refine OJ.as AS.buildSlice ?_; rintro _ _ ⟨_, rfl, rfl⟩) | fail) | ((with_reducible apply iOmakeSlice); first | (refine OJ.as AS.makeSlice ?_; rintro _ _ rfl) | fail) | ((with_reducible apply iOmakeMap); first | (refine OJ.as AS.makeMap ?_; rintro _ _ ⟨_, rfl, rfl⟩) | fail) | ((with_reducible apply iOmapEntry); first | (refine OJ.as AS.mapEntry ?_; rintro _ _ ⟨_, _, rfl, rfl⟩) | fail) | ((with_reducible apply iOentryStore); first | (refine OJ.as AS.entryStore ?_; rintro _ _ rfl) | fail) | refine OJ.unboxP fun _ => ?_ | fail) | ((with_reducible apply iJ); first | refine J.seq ?_ | refine J.region ?_ | refine J.block ?_ | refine J.skip ?_ | refine J.exit ?_ | refine J.condT ?_ | refine J.condF ?_ | refine J.cond (fun _ => ?_) (fun _ => ?_) | fail) | ((with_reducible apply iJK); first | refine JK.code ?_ | refine JK.blk ?_ | refine JK.loop ?_ | refine JK.begin ?_ | refine JK.more ?_ | fail) | ((with_reducible apply iEnt); first | exact Ent.nil | ((with_reducible apply iERow); refine Ent.row ?_ ?_) | ((with_reducible apply iEBox); first | refine Ent.box ?_ ?_ | refine Ent.box2 ?_ ?_) | ((with_reducible apply iEBlk); refine Ent.blk ?_ ?_) | ((with_reducible apply iEPure); refine Ent.pure ?_ ?_) | ((with_reducible apply iERdR); first | refine Ent.rdR ?_ | refine Ent.any ?_ | fail) | refine Ent.any ?_ | with_reducible exact Ent.refl | fail) | ((with_reducible apply iEq); with_reducible rfl) | fail)
    refine J.loopI (fun q : Nat × Value => q.1 ≤ l.length) (fun q => l.length - q.1) (fun q => [(11, .int .i64 (q.1 : Int)), (10, .int .i64 l.length), (9, v), (3, q.2)]) (fun q => [row eU8 5 q.2 (putI (l.take q.1))]) (0, .slice none 0 0) (Nat.zero_le _) ?_
    rintro ⟨i, u⟩ hi ih
    dsimp only at hi ih ⊢
    have hpl := putI_len (l.take i)
    rw [List.length_take] at hpl
    by_cases hlt : i < l.length
    · have hli : isLet (l.getD i eInt.d) = true := by
        rw [List.all_eq_true] at hall
        rw [List.getD_eq_getElem?_getD, List.getElem?_eq_getElem hlt]
        exact hall _ (List.getElem_mem hlt)
      have h0 : 0 ≤ l.getD i eInt.d ∧ l.getD i eInt.d ≤ 1114111 := by
        unfold isLet at hli
        rw [Bool.and_eq_true, Bool.and_eq_true, decide_eq_true_eq, decide_eq_true_eq] at hli
        exact ⟨hli.1, hli.2.1⟩
      have e : putI (l.take (i + 1)) = putI (l.take i) ++ letB (l.getD i eInt.d) := by
        unfold putI
        rw [List.take_add_one, List.flatMap_append, List.getD_eq_getElem?_getD, List.getElem?_eq_getElem hlt]
        simp
      have hA := appendRune_c u (putI (l.take i)) _ hli (by omega)
      repeat' (first | ((with_reducible apply iOJ); first | ((with_reducible apply iOp); refine OJ.p ?_) | with_reducible apply OJ.nil | ((with_reducible apply iOg); first | refine OJ.guardY ?_ | refine OJ.guardN ?_ | refine OJ.guardNd ?_ | refine OJ.guardU ?_ | refine OJ.guardS (fun _ => ?_) (fun _ => ?_) | fail) | ((with_reducible apply iOstore); first | (refine OJ.as AS.store ?_; rintro _ _ rfl) | (refine OJ.as AS.storeA ?_; rintro _ _ rfl) | (refine OJ.as AS.storeAV ?_; rintro _ _ rfl) | (refine OJ.as AS.storeE ?_; rintro _ _ rfl) | (refine OJ.as AS.storeEA ?_; rintro _ _ rfl) | fail) | ((with_reducible apply iOcall); first | (refine OJ.as AS.append1 ?_; rintro _ _ rfl) | (refine OJ.as AS.append ?_; rintro _ _ rfl) | (refine OJ.as (AS.call1 (hA)) ?_; rotate_right; rintro _ _ ⟨y, hy, rfl, rfl⟩) | fail) | ((with_reducible apply iObox); first | (refine OJ.as AS.box1 ?_; rintro _ _ ⟨_, rfl, rfl⟩) | (refine OJ.as AS.boxA ?_; rintro _ _ ⟨_, rfl, rfl⟩) | fail) | ((with_reducible apply iOalloc); first | (refine OJ.as AS.alloc ?_; rintro _ _ ⟨_, rfl, rfl⟩) | fail) | ((with_reducible apply iObuildSlice); first | (refine OJ.as AS.buildSlice ?_; rintro _ _ ⟨_, rfl, rfl⟩) | fail) | ((with_reducible apply iOmakeSlice); first | (refine OJ.as AS.makeSlice ?_; rintro _ _ rfl) | fail) | ((with_reducible apply iOmakeMap); first | (refine OJ.as AS.makeMap ?_; rintro _ _ ⟨_, rfl, rfl⟩) | fail) | ((with_reducible apply iOmapEntry); first | (refine OJ.as AS.mapEntry ?_; rintro _ _ ⟨_, _, rfl, rfl⟩) | fail) | ((with_reducible apply iOentryStore); first | (refine OJ.as AS.entryStore ?_; rintro _ _ rfl) | fail) | refine OJ.unboxP fun _ => ?_ | fail) | ((with_reducible apply iJ); first | refine J.seq ?_ | refine J.region ?_ | refine J.block ?_ | refine J.skip ?_ | refine J.exit ?_ | refine J.condT ?_ | refine J.condF ?_ | refine J.cond (fun _ => ?_) (fun _ => ?_) | fail) | ((with_reducible apply iJK); first | refine JK.code ?_ | refine JK.blk ?_ | refine JK.loop ?_ | refine JK.begin ?_ | refine JK.more ?_ | fail) | ((with_reducible apply iJL); first | refine JL.useL (ih (i + 1, _) (by omega) (by omega)) ?_ | fail) | ((with_reducible apply iEnt); first | exact Ent.nil | ((with_reducible apply iERow); refine Ent.row ?_ ?_) | ((with_reducible apply iEBox); first | refine Ent.box ?_ ?_ | refine Ent.box2 ?_ ?_) | ((with_reducible apply iEBlk); refine Ent.blk ?_ ?_) | ((with_reducible apply iEPure); refine Ent.pure ?_ ?_) | ((with_reducible apply iERdR); first | refine Ent.rdR ?_ | refine Ent.any ?_ | fail) | refine Ent.any ?_ | with_reducible exact Ent.refl | fail) | ((with_reducible apply iEq); with_reducible rfl) | fail)
      all_goals first | (exfalso; omega) | exact e.symm
    · have e : putI (l.take i) = putI l := by rw [List.take_of_length_le (by omega)]
      repeat' (first | ((with_reducible apply iOJ); first | ((with_reducible apply iOp); refine OJ.p ?_) | with_reducible apply OJ.nil | ((with_reducible apply iOg); first | refine OJ.guardY ?_ | refine OJ.guardN ?_ | refine OJ.guardNd ?_ | refine OJ.guardU ?_ | refine OJ.guardS (fun _ => ?_) (fun _ => ?_) | fail) | ((with_reducible apply iOstore); first | (refine OJ.as AS.store ?_; rintro _ _ rfl) | (refine OJ.as AS.storeA ?_; rintro _ _ rfl) | (refine OJ.as AS.storeAV ?_; rintro _ _ rfl) | (refine OJ.as AS.storeE ?_; rintro _ _ rfl) | (refine OJ.as AS.storeEA ?_; rintro _ _ rfl) | fail) | ((with_reducible apply iOcall); first | (refine OJ.as AS.append1 ?_; rintro _ _ rfl) | (refine OJ.as AS.append ?_; rintro _ _ rfl) | fail) | ((with_reducible apply iObox); first | (refine OJ.as AS.box1 ?_; rintro _ _ ⟨_, rfl, rfl⟩) | (refine OJ.as AS.boxA ?_; rintro _ _ ⟨_, rfl, rfl⟩) | fail) | ((with_reducible apply iOalloc); first | (refine OJ.as AS.alloc ?_; rintro _ _ ⟨_, rfl, rfl⟩) | fail) | ((with_reducible apply iObuildSlice); first | (refine OJ.as AS.buildSlice ?_; rintro _ _ ⟨_, rfl, rfl⟩) | fail) | ((with_reducible apply iOmakeSlice); first | (refine OJ.as AS.makeSlice ?_; rintro _ _ rfl) | fail) | ((with_reducible apply iOmakeMap); first | (refine OJ.as AS.makeMap ?_; rintro _ _ ⟨_, rfl, rfl⟩) | fail) | ((with_reducible apply iOmapEntry); first | (refine OJ.as AS.mapEntry ?_; rintro _ _ ⟨_, _, rfl, rfl⟩) | fail) | ((with_reducible apply iOentryStore); first | (refine OJ.as AS.entryStore ?_; rintro _ _ rfl) | fail) | refine OJ.unboxP fun _ => ?_ | fail) | ((with_reducible apply iJ); first | refine J.seq ?_ | refine J.region ?_ | refine J.block ?_ | refine J.skip ?_ | refine J.exit ?_ | refine J.condT ?_ | refine J.condF ?_ | refine J.cond (fun _ => ?_) (fun _ => ?_) | refine J.ret (ends () trivial ?_ Ent.nil) | fail) | ((with_reducible apply iJK); first | refine JK.code ?_ | refine JK.blk ?_ | refine JK.loop ?_ | refine JK.begin ?_ | refine JK.more ?_ | fail) | ((with_reducible apply iEnt); first | exact Ent.nil | ((with_reducible apply iERow); refine Ent.row ?_ ?_) | ((with_reducible apply iEBox); first | refine Ent.box ?_ ?_ | refine Ent.box2 ?_ ?_) | ((with_reducible apply iEBlk); refine Ent.blk ?_ ?_) | ((with_reducible apply iEPure); refine Ent.pure ?_ ?_) | ((with_reducible apply iERdR); first | refine Ent.rdR ?_ | refine Ent.any ?_ | fail) | refine Ent.any ?_ | with_reducible exact Ent.refl | fail) | ((with_reducible apply iEq); with_reducible rfl) | fail)
      all_goals first | (exfalso; omega) | (rw [e]; rfl)
end Go.SL

/- Rows of ints that the library changes: slices.Delete, slices.Insert (their contracts, taken here as given, end in worlds that are written out). -/
set_option linter.unusedVariables false
set_option linter.unusedSimpArgs false
namespace Go.SL
open Go.RowKit
theorem flat_int : ∀ (xs : List Int), xs.flatMap eInt.f = xs.map (Value.int .i64)
  | [] => rfl
  | x :: xs => by rw [List.flatMap_cons, flat_int xs]; rfl
def slice3V (sz : Nat) (v : Value) (lo hi mx : Nat) : Value :=
  match v with
  | .slice A _ _ => .slice (if mx = lo then A else A.map (·.add (lo * sz))) (hi - lo) (mx - lo)
  | _ => undef
theorem PS.slice3 {P : Program} {x : Cx} {E : List (Nat × Value)} {L : List HP} {ty t : TypeId} {y z c d : Operand} {v : Value} {α : Type} {q : Enc α} {xs : List α} {e : TypeId} {lo hi mx : Int} {ag : Bool} {sz bt : Nat} {zv : Value} [hSl : SlT P t e] [hT : Ty P e ag sz bt zv]
    (hv : ev E y = some v := by rfl) (hh : ev E z = some (.int .i64 lo) := by rfl) (hh2 : ev E c = some (.int .i64 hi) := by rfl) (hh3 : ev E d = some (.int .i64 mx) := by rfl)
    (hr : autoParam (Rd x.w0 x.O L (rd q v xs)) ARD.h._autoParam) (h0 : 0 ≤ lo := by omega) (h1 : lo ≤ hi := by omega) (h2 : hi ≤ mx := by omega) (hlt : mx ≤ xs.length := by omega) : PS P x E L (.slice t y (some z) (some c) (some d)) ty (slice3V sz v lo.toNat hi.toNat mx.toNat) := ⟨fun a w _ _ _ _ hE hS => by
  obtain ⟨A, cc, rfl, hc, _, _⟩ := hr.h w hS
  simp only [execOp, Option.map, hE.ev hv, hE.ev hh, hE.ev hh2, hE.ev hh3]
  simp [run_sliceAt_slice _ _ _ _ _ _ (elem_of hSl.h), run_slice_lhm w t A xs.length cc (elem_of hSl.h) .i64 .i64 .i64 lo hi mx h0 h1 h2 (by omega), elem_is hSl.h, hT.sizeOf, slice3V, sliced]⟩
section
variable {w0 w : World} {O : Nat → Prop} {L : List HP} {b : Nat} {cs : Array Value} {T : TypeId} {fr : Nat × Nat}
theorem SAT.mapB {f : Array Value → Array Value} (h : SAT w0 O (blk b (.cells cs T fr) :: L) w) : SAT w0 O (blk b (.cells (f cs) T fr) :: L) (Sort.mapBlock w b f) :=
  h.put rfl rfl rfl (by simp [Sort.mapBlock]) (fun j hj => by simp [Sort.mapBlock, Array.getElem?_modify, Ne.symm hj]) (by simp [Sort.mapBlock, Array.getElem?_modify, h.read, Sort.onCells])
theorem SAT.ahead (h : SAT w0 O L w) (n : Nat) : SAT w0 O L (Sort.ahead w n) := h.same rfl rfl rfl rfl
theorem SAT.setCells : ∀ (vs : List Value) (o : Nat) {cs : Array Value} {w : World}, SAT w0 O (blk b (.cells cs T fr) :: L) w → o + vs.length ≤ cs.size →
    ∃ cs' : Array Value, SAT w0 O (blk b (.cells cs' T fr) :: L) (w.setCells b o vs) ∧ cs'.size = cs.size ∧ cs'.toList = cs.toList.take o ++ vs ++ cs.toList.drop (o + vs.length)
  | [], o, cs, w, h, _ => ⟨cs, h, rfl, by simp⟩
  | v :: r, o, cs, w, h, hl => by
    have h1 : SAT w0 O (blk b (.cells (cs.setIfInBounds o v) T fr) :: L) (w.setCell ⟨b, o, none⟩ v) := by
      rw [Sort.setCell_eq]
      exact h.mapB
    simp only [List.length_cons] at hl
    obtain ⟨cs', h2, h3, h4⟩ := SAT.setCells r (o + 1) h1 (by simp; omega)
    refine ⟨cs', h2, by rw [h3]; simp, ?_⟩
    rw [h4, Array.toList_setIfInBounds, List.length_cons]
    exact list_seg_step cs.toList o v r (by simp; omega)
/-- A row of ints out of a block of cells. -/
theorem blk_row {g n cap : Nat} {cur : Array Value} {xs : List Int} {h : PH} (hb : blk g (.cells cur T (0, 0)) h) (hx : cur.toList.take n = xs.map (Value.int .i64)) (hn : xs.length = n) (hc : n ≤ cap) (hm : cap ≤ maxLen) (hs : cur.size = cap) : row eInt T (.slice (some ⟨g, 0, none⟩) n cap) xs h := by
  subst hn
  refine ⟨flat_len, .inr ⟨g, cap, cur, rfl, hc, hm, by rw [hs]; exact (Nat.mul_one _).symm, ?_, hb⟩⟩
  rw [flat_int, ← hx]
  exact congrArg (fun n => List.take n _) (Nat.mul_one _)
theorem row_blkI {v : Value} {xs : List Int} (h : SAT w0 O (row eInt T v xs :: L) w) : (v = .slice none 0 0 ∧ xs = [] ∧ SAT w0 O L w) ∨ ∃ g cap cur, v = .slice (some ⟨g, 0, none⟩) xs.length cap ∧ xs.length ≤ cap ∧ cap ≤ maxLen ∧ cur.size = cap ∧ cur.toList.take xs.length = xs.map (Value.int .i64) ∧ SAT w0 O (blk g (.cells cur T (0, 0)) :: L) w := by
  have h0 := h
  obtain ⟨hk, g, he, hd, h1, h2, d, rfl, ⟨hl, hr⟩, hL⟩ := h
  rcases hr with ⟨rfl, hn, _⟩ | ⟨g, cap, cur, rfl, hc, hm, hs, ht, hb⟩
  · exact .inl ⟨rfl, List.length_eq_zero_iff.1 hn, SAT.drop (L1 := [row eInt T (.slice none 0 0) xs]) h0⟩
  · rw [flat_int] at ht
    refine .inr ⟨g, cap, cur, rfl, hc, hm, hs.trans (Nat.mul_one _), ?_, hk, _, he, hd, h1, h2, d, rfl, hb, hL⟩
    rw [← ht]
    exact congrArg (fun n => List.take n _) (Nat.mul_one _).symm
end
theorem cell_at {w : World} {g : Nat} {cur : Array Value} {T : TypeId} {n j : Nat} {xs : List Int} (hw : w.heap[g]? = some (.cells cur T (0, 0))) (ht : cur.toList.take n = xs.map (Value.int .i64)) {u : Value} (hu : (xs.map (Value.int .i64))[j]? = some u) : w.cell? ⟨g, 0 + j, none⟩ = some u := by
  rw [← ht, List.getElem?_take] at hu
  split at hu
  · simp [World.cell?, hw]
    simpa using hu
  · cases hu
theorem frozen_no {w : World} {g o : Nat} {cur : Array Value} {T : TypeId} (hw : w.heap[g]? = some (.cells cur T (0, 0))) : w.frozen? ⟨g, o, none⟩ = false := by
  simp [World.frozen?, hw]
set_option maxHeartbeats 2000000 in
theorem Spec.ofDelete {P : Program} {f : FuncId} {T : TypeId} (hD : ∀ (blk cap i j : Nat) (zs : List Int) (w : World), Sort.Holds (Value.int .i64) w blk 0 zs.toArray → zs.length ≤ cap → cap ≤ 9223372036854775807 → i ≤ j → j ≤ zs.length →
    Calls P f #[.slice (some ⟨blk, 0, none⟩) zs.length cap, .int .i64 (i : Int), .int .i64 (j : Int)] w fun e w' => e = .returned (.slice (some ⟨blk, 0, none⟩) (zs.length - (j - i)) cap) ∧ ∃ q, w' = Sort.putRow (Value.int .i64) (Sort.ahead w q) blk 0 (zs.take i ++ zs.drop j ++ List.replicate (j - i) 0).toArray)
    (v : Value) (xs : List Int) (i j : Nat) (hij : i < j) (hj : j ≤ xs.length) : Spec P f [v, .int .i64 (i : Int), .int .i64 (j : Int)] [] [row eInt T v xs] (fun u : Value => u) (fun u => [row eInt T u (xs.take i ++ xs.drop j)]) (fun _ => True) := by
  intro w0 O hR hS
  rcases row_blkI hS with ⟨_, rfl, _⟩ | ⟨g, cap, cur, rfl, hc, hm, hs, ht, hB⟩
  · simp at hj; omega
  have hw := hB.read
  refine (hD g cap i j xs w0 (fun k hk => ⟨?_, frozen_no hw⟩) hc (Nat.le_trans hm (by decide)) (by omega) hj).mono ?_
  · have hk' : k < xs.length := by simpa using hk
    refine cell_at hw ht (u := .int .i64 (xs.toArray[k]!)) ?_
    simp [hk']
  · rintro e w' ⟨rfl, q, rfl⟩
    refine ⟨.slice (some ⟨g, 0, none⟩) (xs.length - (j - i)) cap, trivial, rfl, ?_⟩
    refine SAT.imp ((hB.ahead q).mapB (f := Sort.putCells (Value.int .i64) 0 (xs.take i ++ xs.drop j ++ List.replicate (j - i) 0).toArray)) fun h hb => ?_
    have hlen : (xs.take i ++ xs.drop j).length = xs.length - (j - i) := by simp; omega
    refine blk_row hb ?_ hlen (by omega) hm (by simp [Sort.putCells, hs])
    apply List.ext_getElem?
    intro k
    rw [List.getElem?_take]
    split
    · rename_i hk
      have h1 : k < xs.length := by omega
      have h2 : k < cur.toList.length := by rw [Array.length_toList]; omega
      have h3 : k < cur.size := by omega
      have h4 : k < i + (xs.length - j) + (j - i) := by omega
      simp only [Sort.putCells, Array.toList_mapIdx, List.getElem?_mapIdx, List.getElem?_map]
      rw [List.getElem?_eq_getElem h2]
      have h5 : (xs.take i ++ xs.drop j ++ List.replicate (j - i) 0).length = xs.length := by simp; omega
      simp only [Option.map_some, Nat.zero_le, true_and, Nat.zero_add, Nat.sub_zero, List.size_toArray, h5, h1, if_true]
      rw [← hlen] at hk
      rw [List.getElem?_eq_getElem hk]
      simp only [Option.map_some, Option.some.injEq]
      congr 1
      have h6 : k < (xs.take i ++ xs.drop j ++ List.replicate (j - i) 0).length := by omega
      rw [List.getElem!_toArray, getElem!_pos _ k h6, List.getElem_append_left hk]
    · rename_i hk
      rw [List.getElem?_eq_none (by rw [List.length_map]; omega)]
/-- What Insert is said to do, by its four roads. -/
structure InsertSaid (P : Program) (f : FuncId) (T : TypeId) : Prop where
  shift : ∀ (b off n c i vb voff m vc : Nat) (cs vs : List Value) (w : World), i < n → 0 < m → n + m ≤ c → c ≤ 9223372036854775807 → vb ≠ b → cs.length = n → vs.length = m →
    (∀ j v, cs[j]? = some v → w.cell? ⟨b, off + j, none⟩ = some v) → (∀ j, j < n + m → (w.cell? ⟨b, off + j, none⟩).isSome = true) → (∀ j, j < n + m → w.frozen? ⟨b, off + j, none⟩ = false) →
    (∀ j v, vs[j]? = some v → w.cell? ⟨vb, voff + j, none⟩ = some v) → (∀ v ∈ cs, v.oneCell' = true) → (∀ v ∈ vs, v.oneCell' = true) →
    ∀ (tA tB : TypeId) (kA kB : Nat), w.shape? vb = some (tA, kA) → w.shape? b = some (tB, kB) → kB ≠ 0 → w.frozen? ⟨vb, voff, none⟩ = false → w.frozen? ⟨vb, kA, none⟩ = false →
    Calls P f #[.slice (some ⟨b, off, none⟩) n c, .int .i64 (i : Int), .slice (some ⟨vb, voff, none⟩) m vc] w fun e w' =>
      e = .returned (.slice (some ⟨b, off, none⟩) (n + m) c) ∧ w' = (w.drew.setCells b (off + (i + m)) (cs.drop i)).setCells b (off + i) vs
  room : ∀ (b off n c vb voff m vc : Nat) (vs : List Value) (w : World), 0 < m → n + m ≤ c → c ≤ 9223372036854775807 → vs.length = m → (∀ j, j < m → (w.cell? ⟨b, off + n + j, none⟩).isSome = true) → (∀ j, j < m → w.frozen? ⟨b, off + n + j, none⟩ = false) →
    (∀ j v, vs[j]? = some v → w.cell? ⟨vb, voff + j, none⟩ = some v) → (∀ v ∈ vs, v.oneCell' = true) →
    Calls P f #[.slice (some ⟨b, off, none⟩) n c, .int .i64 (n : Int), .slice (some ⟨vb, voff, none⟩) m vc] w fun e w' =>
      e = .returned (.slice (some ⟨b, off, none⟩) (n + m) c) ∧ w' = w.setCells b (off + n) vs
  end_ : ∀ (base : Option Addr) (n c vb voff m vc : Nat) (cs vs : List Value) (w : World), 0 < m → n ≤ c → c < n + m → (n + m) * 8 ≤ 140737488355328 → cs.length = n → vs.length = m → (base = none → n = 0) →
    (∀ a, base = some a → ∀ j v, cs[j]? = some v → w.cell? (a.add j) = some v) → (∀ j v, vs[j]? = some v → w.cell? ⟨vb, voff + j, none⟩ = some v) → (∀ v ∈ vs, v.oneCell' = true) →
    Calls P f #[.slice base n c, .int .i64 (n : Int), .slice (some ⟨vb, voff, none⟩) m vc] w fun e w' =>
      e = .returned (.slice (some ⟨w.heap.size, 0, none⟩) (n + m) (grownCap w (n + m) c T)) ∧
      w' = w.drew.alloc (.cells ((cs ++ vs).toArray ++ Builtin.zeroCells (Value.int .i64 0).cells (grownCap w (n + m) c T - (n + m))) T)
  grow : ∀ (b off n c i vb voff m vc : Nat) (cs vs : List Value) (w : World), i < n → 0 < m → n ≤ c → c < n + m → (n + m) * 8 ≤ 140737488355328 → cs.length = n → vs.length = m →
    (∀ j v, cs[j]? = some v → w.cell? ⟨b, off + j, none⟩ = some v) → (∀ j v, vs[j]? = some v → w.cell? ⟨vb, voff + j, none⟩ = some v) → (∀ v ∈ cs, v.oneCell' = true) → (∀ v ∈ vs, v.oneCell' = true) →
    Calls P f #[.slice (some ⟨b, off, none⟩) n c, .int .i64 (i : Int), .slice (some ⟨vb, voff, none⟩) m vc] w fun e w' =>
      e = .returned (.slice (some ⟨w.heap.size, 0, none⟩) (n + m) (grownCap w (n + m) c T)) ∧
      w' = (((w.alloc (.cells ((cs.take i).toArray ++ Builtin.zeroCells (Value.int .i64 0).cells (n + m - i) ++ Builtin.zeroCells (Value.int .i64 0).cells (grownCap w (n + m) c T - (n + m))) T)).drew.setCells w.heap.size i vs).drew).setCells w.heap.size (i + m) (cs.drop i)
theorem zeros_len (n : Nat) : (Builtin.zeroCells (Value.int .i64 0).cells n).size = n := by simp [Builtin.zeroCells, Value.cells]
theorem oneI {xs : List Int} : ∀ v ∈ xs.map (Value.int .i64), v.oneCell' = true := fun v hv => by
  obtain ⟨a, _, rfl⟩ := List.mem_map.1 hv
  rfl
section
variable {w0 w : World} {O : Nat → Prop} {L L1 L2 : List HP}
theorem SAT.ne {a b : Nat} {o o' : Obj} (h : SAT w0 O (blk a o :: blk b o' :: L) w) : a ≠ b := by
  obtain ⟨_, g, _, _, h1, h2, d, _, ha, h3, h4, _, rfl, hb, _⟩ := h
  rintro rfl
  rcases d a with e | e
  · rw [ha] at e; simp at e
  · unfold PH.join at e; rw [hb] at e; simp at e
theorem SAT.fin2 {p q p' q' : HP} (h : SAT w0 O L w) (hp : Pick L p L1) (hq : Pick L1 q L2) (h1 : ∀ g, p g → p' g) (h2 : ∀ g, q g → q' g) : SAT w0 O [p', q'] w :=
  ((((h.pick hp).imp h1).pick (Pick.there hq)).imp h2 |>.pick (Pick.there Pick.here)).ent (Ent.pick Pick.here (Ent.pick Pick.here Ent.nil))
end
theorem put_grow {l A vs ds X Y : List Value} {i m d : Nat} (hA : l.take i = A) (hl : A.length = i) (hv : vs.length = m) (hd : ds.length = d) : ((l.take i ++ vs ++ X).take (i + m) ++ ds ++ Y).take (i + m + d) = A ++ vs ++ ds := by
  rw [hA]
  have e1 : (A ++ vs ++ X).take (i + m) = A ++ vs := by
    rw [← hl, ← hv, ← List.length_append, List.take_left]
  rw [e1]
  have e2 : i + m + d = (A ++ vs ++ ds).length := by rw [List.length_append, List.length_append, hl, hv, hd]
  rw [e2, List.take_left]
theorem put_shift {l A vs ds X : List Value} {i m d : Nat} (hA : l.take i = A) (hl : A.length = i) (hv : vs.length = m) (hd : ds.length = d) (hn : i + m ≤ l.length) :
    ((l.take (i + m) ++ ds ++ X).take i ++ vs ++ (l.take (i + m) ++ ds ++ X).drop (i + m)).take (i + m + d) = A ++ vs ++ ds := by
  have h0 : (l.take (i + m)).length = i + m := by simp; omega
  have e1 : (l.take (i + m) ++ ds ++ X).take i = A := by
    rw [List.append_assoc, List.take_append_of_le_length (by omega), List.take_take, Nat.min_eq_left (by omega), hA]
  have e2 : (l.take (i + m) ++ ds ++ X).drop (i + m) = ds ++ X := by
    rw [List.append_assoc]
    exact List.drop_left' h0
  rw [e1, e2]
  have e3 : i + m + d = (A ++ vs ++ ds).length := by rw [List.length_append, List.length_append, hl, hv, hd]
  rw [e3, ← List.append_assoc, List.take_left]
set_option maxHeartbeats 2000000 in
theorem Spec.ofInsert {P : Program} {f : FuncId} {T T2 : TypeId} (hI : InsertSaid P f T) (v v2 : Value) (xs zs : List Int) (i : Nat) (hi : i ≤ xs.length) (hz : 0 < zs.length) (hbd : xs.length + zs.length ≤ 1000000) :
    Spec P f [v, .int .i64 (i : Int), v2] [] [row eInt T v xs, row eInt T2 v2 zs] (fun u : Value => u) (fun u => [row eInt T u (xs.take i ++ zs ++ xs.drop i), row eInt T2 v2 zs]) (fun _ => True) := by
  intro w0 O hR hS
  have hlen : (xs.take i ++ zs ++ xs.drop i).length = xs.length + zs.length := by simp; omega
  have hmap : (xs.take i ++ zs ++ xs.drop i).map (Value.int .i64) = (xs.map (Value.int .i64)).take i ++ zs.map (Value.int .i64) ++ (xs.map (Value.int .i64)).drop i := by simp
  rcases row_blkI (hS.pick (Pick.there Pick.here)) with ⟨_, rfl, _⟩ | ⟨g2, cap2, cur2, rfl, hc2, hm2, hs2, ht2, hB2⟩
  · simp at hz
  have hw2 := hB2.read
  have hvs : ∀ j u, (zs.map (Value.int .i64))[j]? = some u → w0.cell? ⟨g2, 0 + j, none⟩ = some u := fun j u hu => cell_at hw2 ht2 hu
  have r2 : ∀ h, blk g2 (.cells cur2 T2 (0, 0)) h → row eInt T2 (.slice (some ⟨g2, 0, none⟩) zs.length cap2) zs h := fun h hb => blk_row hb ht2 rfl hc2 hm2 hs2
  have hxl : (xs.map (Value.int .i64)).length = xs.length := List.length_map ..
  have hzl : (zs.map (Value.int .i64)).length = zs.length := List.length_map ..
  rcases row_blkI (hB2.pick (Pick.there Pick.here)) with ⟨rfl, rfl, hN⟩ | ⟨g, cap, cur, rfl, hc, hm, hs, ht, hB⟩
  · obtain rfl : i = 0 := by simpa using hi
    refine (hI.end_ none 0 0 g2 0 zs.length cap2 [] (zs.map (Value.int .i64)) w0 hz (by omega) (by omega) (by omega) rfl hzl (fun _ => rfl) (fun a h => by cases h) hvs oneI).mono ?_
    rintro e w' ⟨rfl, rfl⟩
    have hge := grownCap_ge w0 (0 + zs.length) 0 T
    have hgm := grownCap_le_maxLen w0 (0 + zs.length) 0 T (show 0 + zs.length ≤ 9223372036854775807 by omega)
    refine ⟨_, trivial, rfl, SAT.fin2 ((hN.drew).alloc _) Pick.here Pick.here (fun h hb => ?_) r2⟩
    simp only [World.drew] at hb
    refine blk_row hb ?_ (by simp) hge hgm (by rw [Array.size_append, zeros_len, List.size_toArray, List.length_append, hzl, List.length_nil]; omega)
    simp [List.take_append_of_le_length, hzl]
  · have hw := hB.read
    have hcs : ∀ j u, (xs.map (Value.int .i64))[j]? = some u → w0.cell? ⟨g, 0 + j, none⟩ = some u := fun j u hu => cell_at hw ht hu
    have hsome : ∀ j, j < cap → (w0.cell? ⟨g, 0 + j, none⟩).isSome = true := fun j hj => by
      simp only [Nat.zero_add, World.cell?, hw]
      simp [hs, hj]
    have htk : cur.toList.take i = (xs.map (Value.int .i64)).take i := by rw [← ht, List.take_take, Nat.min_eq_left hi]
    have htl : ((xs.map (Value.int .i64)).take i).length = i := by simp; omega
    have hdl : ((xs.map (Value.int .i64)).drop i).length = xs.length - i := by simp
    have hcap : cap ≤ 9223372036854775807 := hm
    have hcl : cur.toList.length = cap := by rw [Array.length_toList, hs]
    by_cases hin : i < xs.length
    · by_cases hroom : xs.length + zs.length ≤ cap
      · refine (hI.shift g 0 xs.length cap i g2 0 zs.length cap2 _ _ w0 hin hz hroom hcap (hB.ne ·.symm) hxl hzl hcs (fun j hj => hsome j (by omega)) (fun j _ => frozen_no hw) hvs oneI oneI T2 T cap2 cap (by simp [World.shape?, hw2, hs2]) (by simp [World.shape?, hw, hs]) (by omega) (frozen_no hw2) (frozen_no hw2)).mono ?_
        rintro e w' ⟨rfl, rfl⟩
        obtain ⟨c1, h1, h2, h3⟩ := SAT.setCells (xs.map (Value.int .i64) |>.drop i) (0 + (i + zs.length)) hB.drew (by rw [hdl]; omega)
        obtain ⟨c2, h4, h5, h6⟩ := SAT.setCells (zs.map (Value.int .i64)) (0 + i) h1 (by rw [hzl]; omega)
        refine ⟨_, trivial, rfl, SAT.fin2 h4 Pick.here Pick.here (fun h hb => ?_) r2⟩
        refine blk_row hb ?_ hlen hroom hm (by omega)
        rw [h6, h3, hmap, hzl]
        simp only [Nat.zero_add]
        rw [show xs.length + zs.length = i + zs.length + (xs.length - i) by omega]
        exact put_shift htk htl hzl hdl (by rw [hcl]; omega)
      · refine (hI.grow g 0 xs.length cap i g2 0 zs.length cap2 _ _ w0 hin hz hc (by omega) (by omega) hxl hzl hcs hvs oneI oneI).mono ?_
        rintro e w' ⟨rfl, rfl⟩
        have hge := grownCap_ge w0 (xs.length + zs.length) cap T
        have hgm := grownCap_le_maxLen w0 (xs.length + zs.length) cap T (show xs.length + zs.length ≤ 9223372036854775807 by omega)
        have h0 := (hB.alloc (.cells (((xs.map (Value.int .i64)).take i).toArray ++ Builtin.zeroCells (Value.int .i64 0).cells (xs.length + zs.length - i) ++ Builtin.zeroCells (Value.int .i64 0).cells (grownCap w0 (xs.length + zs.length) cap T - (xs.length + zs.length))) T)).drew
        have hsz : (((xs.map (Value.int .i64)).take i).toArray ++ Builtin.zeroCells (Value.int .i64 0).cells (xs.length + zs.length - i) ++ Builtin.zeroCells (Value.int .i64 0).cells (grownCap w0 (xs.length + zs.length) cap T - (xs.length + zs.length))).size = grownCap w0 (xs.length + zs.length) cap T := by
          rw [Array.size_append, Array.size_append, zeros_len, zeros_len, List.size_toArray, htl]; omega
        obtain ⟨c1, h1, h2, h3⟩ := SAT.setCells (zs.map (Value.int .i64)) i h0 (by rw [hzl, hsz]; omega)
        obtain ⟨c2, h4, h5, h6⟩ := SAT.setCells (xs.map (Value.int .i64) |>.drop i) (i + zs.length) h1.drew (by rw [hdl, h2, hsz]; omega)
        refine ⟨_, trivial, rfl, SAT.fin2 h4 Pick.here (Pick.there Pick.here) (fun h hb => ?_) r2⟩
        refine blk_row hb ?_ hlen hge hgm (by omega)
        rw [h6, h3, hmap]
        rw [show xs.length + zs.length = i + zs.length + (xs.length - i) by omega]
        refine put_grow ?_ htl hzl hdl
        rw [Array.toList_append, Array.toList_append, List.append_assoc]
        exact List.take_left' htl
    · obtain rfl : i = xs.length := by omega
      have hd0 : (xs.map (Value.int .i64)).drop xs.length = [] := List.drop_of_length_le (by omega)
      have ht0 : (xs.map (Value.int .i64)).take xs.length = xs.map (Value.int .i64) := List.take_of_length_le (by omega)
      by_cases hroom : xs.length + zs.length ≤ cap
      · refine (hI.room g 0 xs.length cap g2 0 zs.length cap2 _ w0 hz hroom hcap hzl (fun j hj => by have := hsome (xs.length + j) (by omega); simpa using this) (fun j _ => frozen_no hw) hvs oneI).mono ?_
        rintro e w' ⟨rfl, rfl⟩
        obtain ⟨c1, h1, h2, h3⟩ := SAT.setCells (zs.map (Value.int .i64)) (0 + xs.length) hB (by rw [hzl]; omega)
        refine ⟨_, trivial, rfl, SAT.fin2 h1 Pick.here Pick.here (fun h hb => ?_) r2⟩
        refine blk_row hb ?_ hlen hroom hm (by omega)
        rw [h3, hmap, hd0, ht0, List.append_nil, Nat.zero_add, ht]
        exact List.take_left' (by rw [List.length_append, hxl, hzl])
      · refine (hI.end_ (some ⟨g, 0, none⟩) xs.length cap g2 0 zs.length cap2 _ _ w0 hz hc (by omega) (by omega) hxl hzl (fun h => by cases h) (fun a h j u hu => by injection h with h; subst h; have := hcs j u hu; rw [at_off]; exact this) hvs oneI).mono ?_
        rintro e w' ⟨rfl, rfl⟩
        have hge := grownCap_ge w0 (xs.length + zs.length) cap T
        have hgm := grownCap_le_maxLen w0 (xs.length + zs.length) cap T (show xs.length + zs.length ≤ 9223372036854775807 by omega)
        refine ⟨_, trivial, rfl, SAT.fin2 ((hB.drew).alloc _) Pick.here (Pick.there Pick.here) (fun h hb => ?_) r2⟩
        refine blk_row hb ?_ hlen hge hgm (by rw [Array.size_append, zeros_len, List.size_toArray, List.length_append, hzl, hxl]; omega)
        rw [hmap, hd0, ht0, List.append_nil]
        simp only [Array.toList_append]
        exact List.take_left' (by simp)
end Go.SL

/- slices.Delete, slices.Insert at ints, of a row of one's own. -/
set_option linter.unusedVariables false
set_option linter.unusedSimpArgs false
namespace Go.SL
open Go.RowKit Go.Proofs
set_option maxRecDepth 100000 in
theorem delete0_c (v : Value) (xs : List Int) (i : Nat) (hi : i ≤ xs.length) : Spec Tryz.prog 54 [v, .int .i64 (i : Int), .int .i64 (i : Int)] [] [row eInt 3 v xs] (fun _ : Unit => v) (fun _ => [row eInt 3 v xs]) (fun _ => True) := by
  refine Spec.mk Tryz.func54 rfl Tryz.ntmps54 rfl ?_
  intro w0 O hR hS0; clear hR hS0
  repeat' (first | ((with_reducible apply iOJ); first | ((with_reducible apply iOp); refine OJ.p ?_) | with_reducible apply OJ.nil | ((with_reducible apply iOg); first | refine OJ.guardY ?_ | refine OJ.guardN ?_ | refine OJ.guardNd ?_ | refine OJ.guardU ?_ | refine OJ.guardS (fun _ => ?_) (fun _ => ?_) | fail) | ((with_reducible apply iOstore); first | (refine OJ.as AS.store ?_; rintro _ _ rfl) | (refine OJ.as AS.storeA ?_; rintro _ _ rfl) | (refine OJ.as AS.storeAV ?_; rintro _ _ rfl) | (refine OJ.as AS.storeE ?_; rintro _ _ rfl) | (refine OJ.as AS.storeEA ?_; rintro _ _ rfl) | fail) | ((with_reducible apply iOcall); first | (refine OJ.as AS.append1 ?_; rintro _ _ rfl) | (refine OJ.as AS.append ?_; rintro _ _ rfl) | fail) | ((with_reducible apply iObox); first | (refine OJ.as AS.box1 ?_; rintro _ _ ⟨_, rfl, rfl⟩) | (refine OJ.as AS.boxA ?_; rintro _ _ ⟨_, rfl, rfl⟩) | fail) | ((with_reducible apply iOalloc); first | (refine OJ.as AS.alloc ?_; rintro _ _ ⟨_, rfl, rfl⟩) | fail) | ((with_reducible apply iObuildSlice); first | (refine OJ.as AS.buildSlice ?_; rintro _ _ ⟨_, rfl, rfl⟩) | fail) | ((with_reducible apply iOmakeSlice); first | (refine OJ.as AS.makeSlice ?_; rintro _ _ rfl) | fail) | ((with_reducible apply iOmakeMap); first | (refine OJ.as AS.makeMap ?_; rintro _ _ ⟨_, rfl, rfl⟩) | fail) | ((with_reducible apply iOmapEntry); first | (refine OJ.as AS.mapEntry ?_; rintro _ _ ⟨_, _, rfl, rfl⟩) | fail) | ((with_reducible apply iOentryStore); first | (refine OJ.as AS.entryStore ?_; rintro _ _ rfl) | fail) | refine OJ.unboxP fun _ => ?_ | fail) | ((with_reducible apply iJ); first | refine J.seq ?_ | refine J.region ?_ | refine J.block ?_ | refine J.skip ?_ | refine J.exit ?_ | refine J.condT ?_ | refine J.condF ?_ | refine J.cond (fun _ => ?_) (fun _ => ?_) | refine J.ret (ends () trivial rfl ?_) | fail) | ((with_reducible apply iJK); first | refine JK.code ?_ | refine JK.blk ?_ | refine JK.loop ?_ | refine JK.begin ?_ | refine JK.more ?_ | fail) | ((with_reducible apply iEnt); first | exact Ent.nil | ((with_reducible apply iERow); refine Ent.row ?_ ?_) | ((with_reducible apply iEBox); first | refine Ent.box ?_ ?_ | refine Ent.box2 ?_ ?_) | ((with_reducible apply iEBlk); refine Ent.blk ?_ ?_) | ((with_reducible apply iEPure); refine Ent.pure ?_ ?_) | ((with_reducible apply iERdR); first | refine Ent.rdR ?_ | refine Ent.any ?_ | fail) | refine Ent.any ?_ | with_reducible exact Ent.refl | fail) | ((with_reducible apply iEq); with_reducible rfl) | fail)
  all_goals (exfalso; omega)
theorem delete_c (v : Value) (xs : List Int) (i j : Int) (h0 : 0 ≤ i) (h1 : i ≤ j) (h2 : j ≤ xs.length) : Spec Tryz.prog 54 [v, .int .i64 i, .int .i64 j] [] [row eInt 3 v xs] (fun u : Value => u) (fun u => [row eInt 3 u (xs.take i.toNat ++ xs.drop j.toNat)]) (fun _ => True) := by
  obtain ⟨a, rfl⟩ := Int.eq_ofNat_of_zero_le h0
  obtain ⟨b, rfl⟩ := Int.eq_ofNat_of_zero_le (show 0 ≤ j by omega)
  rw [Int.toNat_natCast, Int.toNat_natCast]
  by_cases hab : a = b
  · subst hab
    rw [List.take_append_drop]
    intro w0 O hR hS
    exact (delete0_c v xs a (by omega) w0 O hR hS).mono fun e w' ⟨_, _, he, hs⟩ => ⟨v, trivial, he, hs⟩
  · exact Spec.ofDelete (fun blk cap i j zs w h1 h2 h3 h4 h5 => Tryz.slices_Delete_int blk 0 cap i j zs w h1 h2 h3 h4 h5) v xs a b (by omega) (by omega)
theorem insertSaid : InsertSaid Tryz.prog 84 3 where
  shift := Any2.slices_Insert_int_shift Tryz.laysNm221
  room := Any2.slices_Insert_int_end_room Tryz.laysNm221
  end_ := Any2.slices_Insert_int_end_grow Tryz.laysNm221
  grow := Any2.slices_Insert_int_grow Tryz.laysNm221
set_option maxRecDepth 100000 in
theorem insert0_c (v v2 : Value) (xs : List Int) (i : Int) (h0 : 0 ≤ i) (hi : i ≤ xs.length) : Spec Tryz.prog 84 [v, .int .i64 i, v2] [] [row eInt 3 v xs, row eInt 3 v2 []] (fun _ : Unit => v) (fun _ => [row eInt 3 v xs, row eInt 3 v2 []]) (fun _ => True) := by
  refine Spec.mk Tryz.func84 rfl Tryz.ntmps84 rfl ?_
  intro w0 O hR hS0; clear hR hS0
  repeat' (first | ((with_reducible apply iOJ); first | ((with_reducible apply iOp); refine OJ.p ?_) | with_reducible apply OJ.nil | ((with_reducible apply iOg); first | refine OJ.guardY ?_ | refine OJ.guardN ?_ | refine OJ.guardNd ?_ | refine OJ.guardU ?_ | refine OJ.guardS (fun _ => ?_) (fun _ => ?_) | fail) | ((with_reducible apply iOstore); first | (refine OJ.as AS.store ?_; rintro _ _ rfl) | (refine OJ.as AS.storeA ?_; rintro _ _ rfl) | (refine OJ.as AS.storeAV ?_; rintro _ _ rfl) | (refine OJ.as AS.storeE ?_; rintro _ _ rfl) | (refine OJ.as AS.storeEA ?_; rintro _ _ rfl) | fail) | ((with_reducible apply iOcall); first | (refine OJ.as AS.append1 ?_; rintro _ _ rfl) | (refine OJ.as AS.append ?_; rintro _ _ rfl) | fail) | ((with_reducible apply iObox); first | (refine OJ.as AS.box1 ?_; rintro _ _ ⟨_, rfl, rfl⟩) | (refine OJ.as AS.boxA ?_; rintro _ _ ⟨_, rfl, rfl⟩) | fail) | ((with_reducible apply iOalloc); first | (refine OJ.as AS.alloc ?_; rintro _ _ ⟨_, rfl, rfl⟩) | fail) | ((with_reducible apply iObuildSlice); first | (refine OJ.as AS.buildSlice ?_; rintro _ _ ⟨_, rfl, rfl⟩) | fail) | ((with_reducible apply iOmakeSlice); first | (refine OJ.as AS.makeSlice ?_; rintro _ _ rfl) | fail) | ((with_reducible apply iOmakeMap); first | (refine OJ.as AS.makeMap ?_; rintro _ _ ⟨_, rfl, rfl⟩) | fail) | ((with_reducible apply iOmapEntry); first | (refine OJ.as AS.mapEntry ?_; rintro _ _ ⟨_, _, rfl, rfl⟩) | fail) | ((with_reducible apply iOentryStore); first | (refine OJ.as AS.entryStore ?_; rintro _ _ rfl) | fail) | refine OJ.unboxP fun _ => ?_ | fail) | ((with_reducible apply iJ); first | refine J.seq ?_ | refine J.region ?_ | refine J.block ?_ | refine J.skip ?_ | refine J.exit ?_ | refine J.condT ?_ | refine J.condF ?_ | refine J.cond (fun _ => ?_) (fun _ => ?_) | refine J.ret (ends () trivial rfl ?_) | fail) | ((with_reducible apply iJK); first | refine JK.code ?_ | refine JK.blk ?_ | refine JK.loop ?_ | refine JK.begin ?_ | refine JK.more ?_ | fail) | ((with_reducible apply iEnt); first | exact Ent.nil | ((with_reducible apply iERow); refine Ent.row ?_ ?_) | ((with_reducible apply iEBox); first | refine Ent.box ?_ ?_ | refine Ent.box2 ?_ ?_) | ((with_reducible apply iEBlk); refine Ent.blk ?_ ?_) | ((with_reducible apply iEPure); refine Ent.pure ?_ ?_) | ((with_reducible apply iERdR); first | refine Ent.rdR ?_ | refine Ent.any ?_ | fail) | refine Ent.any ?_ | with_reducible exact Ent.refl | fail) | ((with_reducible apply iEq); with_reducible rfl) | fail)
  all_goals first | rfl | (exfalso; simp_all; done)
theorem insert_c (v v2 : Value) (xs zs : List Int) (i : Int) (h0 : 0 ≤ i) (hi : i ≤ xs.length) (hb : xs.length + zs.length ≤ 1000000) : Spec Tryz.prog 84 [v, .int .i64 i, v2] [] [row eInt 3 v xs, row eInt 3 v2 zs] (fun u : Value => u)
    (fun u => [row eInt 3 u (xs.take i.toNat ++ zs ++ xs.drop i.toNat), row eInt 3 v2 zs]) (fun _ => True) := by
  rcases zs with _ | ⟨z, zs⟩
  · rw [List.append_nil, List.take_append_drop]
    intro w0 O hR hS
    exact (insert0_c v v2 xs i h0 hi w0 O hR hS).mono fun e w' ⟨_, _, he, hs⟩ => ⟨v, trivial, he, hs⟩
  · obtain ⟨a, rfl⟩ := Int.eq_ofNat_of_zero_le h0
    rw [Int.toNat_natCast]
    exact Spec.ofInsert insertSaid v v2 xs (z :: zs) a (by omega) (by simp) hb
end Go.SL

/- spec.ParaPut. -/
set_option linter.unusedVariables false
set_option linter.unusedSimpArgs false
namespace Go.SL
open Go.RowKit Go.Proofs
def sPutP (p : Para) (i : Int) (l : List UInt8) : Option Para := match iGet p.text, iGet l with
  | some xs, some zs => match decide (sCheck p = 0) && inR i 0 xs.length && !decide (xs.length + zs.length > 80) with
    | true => some (sMake p (xs.take i.toNat ++ zs ++ xs.drop i.toNat) (sSpansMove p.spans xs.length i zs.length))
    | false => none
  | _, _ => none
set_option maxRecDepth 100000 in
set_option maxHeartbeats 4000000 in
theorem sPutP_yes (p : Para) (v : Value) (i : Int) (l : List UInt8) (ht : p.text.length ≤ 10000000) (hl : l.length ≤ 10000000) (xs zs : List Int) (h : iGet p.text = some xs) (h' : iGet l = some zs) (h0 : sCheck p = 0) (h1 : inR i 0 xs.length = true) (h2 : xs.length + zs.length ≤ 80) (G : Para)
    (hG2 : sMake p (xs.take i.toNat ++ zs ++ xs.drop i.toNat) (sSpansMove p.spans xs.length i zs.length) = G) : Spec Tryz.prog 79 [pv p v, .int .i64 i, sv l] [rd eSpan v p.spans] [] (fun u : Value => .tuple #[pv G u, .bool true]) (fun u => [row eSpan 98 u G.spans]) (fun _ => True) := by
  refine Spec.mk Tryz.func79 rfl Tryz.ntmps79 rfl ?_
  intro w0 O hR hS0
  have hr := hR _ List.mem_cons_self; clear hR hS0
  have hG := sGet_c p.text ht
  have hH := sGet_c l hl
  have hC := sCheck_c p v ht
  rw [h0] at hC
  rw [h] at hG
  rw [h'] at hH
  dsimp only [Option.isSome, Option.getD] at hG hH
  have hM := fun u w ys a b c => sMake_c p v u w ys (sSpansMove p.spans a b c) (by have := sSpansMove_len p.spans a b c; omega)
  have hf := inR_t h1
  repeat' (first | ((with_reducible apply iOJ); first | ((with_reducible apply iOp); refine OJ.p ?_) | with_reducible apply OJ.nil | ((with_reducible apply iOg); first | refine OJ.guardY ?_ | refine OJ.guardN ?_ | refine OJ.guardNd ?_ | refine OJ.guardU ?_ | refine OJ.guardS (fun _ => ?_) (fun _ => ?_) | fail) | ((with_reducible apply iOstore); first | (refine OJ.as AS.store ?_; rintro _ _ rfl) | (refine OJ.as AS.storeA ?_; rintro _ _ rfl) | (refine OJ.as AS.storeAV ?_; rintro _ _ rfl) | (refine OJ.as AS.storeE ?_; rintro _ _ rfl) | (refine OJ.as AS.storeEA ?_; rintro _ _ rfl) | fail) | ((with_reducible apply iOcall); first | (refine OJ.as AS.append1 ?_; rintro _ _ rfl) | (refine OJ.as AS.append ?_; rintro _ _ rfl) | (refine OJ.as (AS.call1 (hG)) ?_; rotate_right; rintro _ _ ⟨y, hy, rfl, rfl⟩) | (refine OJ.as (AS.call1 (hH)) ?_; rotate_right; rintro _ _ ⟨y, hy, rfl, rfl⟩) | (refine OJ.as (AS.call0 (hC)) ?_; rotate_right; rintro _ _ ⟨y, hy, rfl, rfl⟩) | (refine OJ.as (AS.call0 (l1In_c _ _ _)) ?_; rotate_right; rintro _ _ ⟨y, hy, rfl, rfl⟩) | fail) | ((with_reducible apply iObox); first | (refine OJ.as AS.box1 ?_; rintro _ _ ⟨_, rfl, rfl⟩) | (refine OJ.as AS.boxA ?_; rintro _ _ ⟨_, rfl, rfl⟩) | fail) | ((with_reducible apply iOalloc); first | (refine OJ.as AS.alloc ?_; rintro _ _ ⟨_, rfl, rfl⟩) | fail) | ((with_reducible apply iObuildSlice); first | (refine OJ.as AS.buildSlice ?_; rintro _ _ ⟨_, rfl, rfl⟩) | fail) | ((with_reducible apply iOmakeSlice); first | (refine OJ.as AS.makeSlice ?_; rintro _ _ rfl) | fail) | ((with_reducible apply iOmakeMap); first | (refine OJ.as AS.makeMap ?_; rintro _ _ ⟨_, rfl, rfl⟩) | fail) | ((with_reducible apply iOmapEntry); first | (refine OJ.as AS.mapEntry ?_; rintro _ _ ⟨_, _, rfl, rfl⟩) | fail) | ((with_reducible apply iOentryStore); first | (refine OJ.as AS.entryStore ?_; rintro _ _ rfl) | fail) | refine OJ.unboxP fun _ => ?_ | fail) | ((with_reducible apply iJ); first | refine J.seq ?_ | refine J.region ?_ | refine J.block ?_ | refine J.skip ?_ | refine J.exit ?_ | refine J.condT ?_ | refine J.condF ?_ | refine J.cond (fun _ => ?_) (fun _ => ?_) | fail) | ((with_reducible apply iJK); first | refine JK.code ?_ | refine JK.blk ?_ | refine JK.loop ?_ | refine JK.begin ?_ | refine JK.more ?_ | fail) | ((with_reducible apply iEnt); first | exact Ent.nil | ((with_reducible apply iERow); refine Ent.row ?_ ?_) | ((with_reducible apply iEBox); first | refine Ent.box ?_ ?_ | refine Ent.box2 ?_ ?_) | ((with_reducible apply iEBlk); refine Ent.blk ?_ ?_) | ((with_reducible apply iEPure); refine Ent.pure ?_ ?_) | ((with_reducible apply iERdR); first | refine Ent.rdR ?_ | refine Ent.any ?_ | fail) | refine Ent.any ?_ | with_reducible exact Ent.refl | fail) | ((with_reducible apply iEq); with_reducible rfl) | fail)
  all_goals try (first | (exfalso; omega) | (rename_i hx _; rw [h1] at hx; cases hx; done))
  refine J.draw (hL := KeepIf.mk Ent.refl) ?_
  repeat' (first | ((with_reducible apply iOJ); first | ((with_reducible apply iOp); refine OJ.p ?_) | with_reducible apply OJ.nil | ((with_reducible apply iOg); first | refine OJ.guardY ?_ | refine OJ.guardN ?_ | refine OJ.guardNd ?_ | refine OJ.guardU ?_ | refine OJ.guardS (fun _ => ?_) (fun _ => ?_) | fail) | ((with_reducible apply iOstore); first | (refine OJ.as AS.store ?_; rintro _ _ rfl) | (refine OJ.as AS.storeA ?_; rintro _ _ rfl) | (refine OJ.as AS.storeAV ?_; rintro _ _ rfl) | (refine OJ.as AS.storeE ?_; rintro _ _ rfl) | (refine OJ.as AS.storeEA ?_; rintro _ _ rfl) | fail) | ((with_reducible apply iOcall); first | (refine OJ.as AS.append1 ?_; rintro _ _ rfl) | (refine OJ.as AS.append ?_; rintro _ _ rfl) | fail) | ((with_reducible apply iObox); first | (refine OJ.as AS.box1 ?_; rintro _ _ ⟨_, rfl, rfl⟩) | (refine OJ.as AS.boxA ?_; rintro _ _ ⟨_, rfl, rfl⟩) | fail) | ((with_reducible apply iOalloc); first | (refine OJ.as AS.alloc ?_; rintro _ _ ⟨_, rfl, rfl⟩) | fail) | ((with_reducible apply iObuildSlice); first | (refine OJ.as AS.buildSlice ?_; rintro _ _ ⟨_, rfl, rfl⟩) | fail) | ((with_reducible apply iOmakeSlice); first | (refine OJ.as AS.makeSlice ?_; rintro _ _ rfl) | fail) | ((with_reducible apply iOmakeMap); first | (refine OJ.as AS.makeMap ?_; rintro _ _ ⟨_, rfl, rfl⟩) | fail) | ((with_reducible apply iOmapEntry); first | (refine OJ.as AS.mapEntry ?_; rintro _ _ ⟨_, _, rfl, rfl⟩) | fail) | ((with_reducible apply iOentryStore); first | (refine OJ.as AS.entryStore ?_; rintro _ _ rfl) | fail) | refine OJ.unboxP fun _ => ?_ | fail) | ((with_reducible apply iJ); first | refine J.seq ?_ | refine J.region ?_ | refine J.block ?_ | refine J.skip ?_ | refine J.exit ?_ | refine J.condT ?_ | refine J.condF ?_ | refine J.cond (fun _ => ?_) (fun _ => ?_) | fail) | ((with_reducible apply iJK); first | refine JK.code ?_ | refine JK.blk ?_ | refine JK.loop ?_ | refine JK.begin ?_ | refine JK.more ?_ | fail) | ((with_reducible apply iAJ); first | refine AJ.rebase (hL := KeepIf.mk (ent_drop Ent.refl)) ?_ | refine AJ.regain (hL := KeepIf.mk (ent_drop Ent.refl)) ?_ | refine AJ.take ?_ | refine AJ.takeY ?_ | refine AJ.takeN ?_ | refine AJ.takeNd ?_ | refine AJ.takeNS ?_ | refine AJ.takeU ?_ | refine AJ.sel ?_ | refine AJ.selY ?_ | refine AJ.sel2 ?_ ?_ | refine AJ.split (fun _ => ?_) (fun _ => ?_) | refine AJ.done ?_ | fail) | ((with_reducible apply iAO); first | ((with_reducible apply iAstore); first | (refine AO.as AS.store ?_; rotate_right; rintro _ _ rfl; refine AO.step ?_) | (refine AO.as AS.storeA ?_; rotate_right; rintro _ _ rfl; refine AO.step ?_) | (refine AO.as AS.storeAV ?_; rotate_right; rintro _ _ rfl; refine AO.step ?_) | (refine AO.as AS.storeE ?_; rotate_right; rintro _ _ rfl; refine AO.step ?_) | (refine AO.as AS.storeEA ?_; rotate_right; rintro _ _ rfl; refine AO.step ?_) | fail) | ((with_reducible apply iAcall); first | (refine AO.as AS.append1 ?_; rotate_right; rintro _ _ rfl; refine AO.step ?_) | (refine AO.as AS.append ?_; rotate_right; rintro _ _ rfl; refine AO.step ?_) | fail) | ((with_reducible apply iAbox); first | (refine AO.as AS.box1 ?_; rotate_right; rintro _ _ ⟨_, rfl, rfl⟩; refine AO.step ?_) | (refine AO.as AS.boxA ?_; rotate_right; rintro _ _ ⟨_, rfl, rfl⟩; refine AO.step ?_) | fail) | ((with_reducible apply iAalloc); first | (refine AO.as AS.alloc ?_; rotate_right; rintro _ _ ⟨_, rfl, rfl⟩; refine AO.step ?_) | fail) | ((with_reducible apply iAbuildSlice); first | (refine AO.as AS.buildSlice ?_; rotate_right; rintro _ _ ⟨_, rfl, rfl⟩; refine AO.step ?_) | fail) | ((with_reducible apply iAmakeSlice); first | (refine AO.as AS.makeSlice ?_; rotate_right; rintro _ _ rfl; refine AO.step ?_) | fail) | ((with_reducible apply iAmakeMap); first | (refine AO.as AS.makeMap ?_; rotate_right; rintro _ _ ⟨_, rfl, rfl⟩; refine AO.step ?_) | fail) | ((with_reducible apply iAmapEntry); first | (refine AO.as AS.mapEntry ?_; rotate_right; rintro _ _ ⟨_, _, rfl, rfl⟩; refine AO.step ?_) | fail) | ((with_reducible apply iAentryStore); first | (refine AO.as AS.entryStore ?_; rotate_right; rintro _ _ rfl; refine AO.step ?_) | fail) | fail) | ((with_reducible apply iEnt); first | exact Ent.nil | ((with_reducible apply iERow); refine Ent.row ?_ ?_) | ((with_reducible apply iEBox); first | refine Ent.box ?_ ?_ | refine Ent.box2 ?_ ?_) | ((with_reducible apply iEBlk); refine Ent.blk ?_ ?_) | ((with_reducible apply iEPure); refine Ent.pure ?_ ?_) | ((with_reducible apply iERdR); first | refine Ent.rdR ?_ | refine Ent.any ?_ | fail) | refine Ent.any ?_ | with_reducible exact Ent.refl | fail) | ((with_reducible apply iEq); with_reducible rfl) | fail)
  repeat' (first | ((with_reducible apply iOJ); first | ((with_reducible apply iOp); refine OJ.p ?_) | with_reducible apply OJ.nil | ((with_reducible apply iOg); first | refine OJ.guardY ?_ | refine OJ.guardN ?_ | refine OJ.guardNd ?_ | refine OJ.guardU ?_ | refine OJ.guardS (fun _ => ?_) (fun _ => ?_) | fail) | ((with_reducible apply iOstore); first | (refine OJ.as AS.store ?_; rintro _ _ rfl) | (refine OJ.as AS.storeA ?_; rintro _ _ rfl) | (refine OJ.as AS.storeAV ?_; rintro _ _ rfl) | (refine OJ.as AS.storeE ?_; rintro _ _ rfl) | (refine OJ.as AS.storeEA ?_; rintro _ _ rfl) | fail) | ((with_reducible apply iOcall); first | (refine OJ.as AS.append1 ?_; rintro _ _ rfl) | (refine OJ.as AS.append ?_; rintro _ _ rfl) | fail) | ((with_reducible apply iObox); first | (refine OJ.as AS.box1 ?_; rintro _ _ ⟨_, rfl, rfl⟩) | (refine OJ.as AS.boxA ?_; rintro _ _ ⟨_, rfl, rfl⟩) | fail) | ((with_reducible apply iOalloc); first | (refine OJ.as AS.alloc ?_; rintro _ _ ⟨_, rfl, rfl⟩) | fail) | ((with_reducible apply iObuildSlice); first | (refine OJ.as AS.buildSlice ?_; rintro _ _ ⟨_, rfl, rfl⟩) | fail) | ((with_reducible apply iOmakeSlice); first | (refine OJ.as AS.makeSlice ?_; rintro _ _ rfl) | fail) | ((with_reducible apply iOmakeMap); first | (refine OJ.as AS.makeMap ?_; rintro _ _ ⟨_, rfl, rfl⟩) | fail) | ((with_reducible apply iOmapEntry); first | (refine OJ.as AS.mapEntry ?_; rintro _ _ ⟨_, _, rfl, rfl⟩) | fail) | ((with_reducible apply iOentryStore); first | (refine OJ.as AS.entryStore ?_; rintro _ _ rfl) | fail) | refine OJ.unboxP fun _ => ?_ | fail) | ((with_reducible apply iJ); first | refine J.seq ?_ | refine J.region ?_ | refine J.block ?_ | refine J.skip ?_ | refine J.exit ?_ | refine J.condT ?_ | refine J.condF ?_ | refine J.cond (fun _ => ?_) (fun _ => ?_) | refine J.draw ?_ | fail) | ((with_reducible apply iJK); first | refine JK.code ?_ | refine JK.blk ?_ | refine JK.loop ?_ | refine JK.begin ?_ | refine JK.more ?_ | fail) | ((with_reducible apply iAJ); first | refine AJ.rebase ?_ | refine AJ.regain ?_ | refine AJ.take ?_ | refine AJ.takeY ?_ | refine AJ.takeN ?_ | refine AJ.takeNd ?_ | refine AJ.takeNS ?_ | refine AJ.takeU ?_ | refine AJ.sel ?_ | refine AJ.selY ?_ | refine AJ.sel2 ?_ ?_ | refine AJ.split (fun _ => ?_) (fun _ => ?_) | refine AJ.done ?_ | fail) | ((with_reducible apply iAO); first | ((with_reducible apply iAstore); first | (refine AO.as AS.store ?_; rotate_right; rintro _ _ rfl; refine AO.step ?_) | (refine AO.as AS.storeA ?_; rotate_right; rintro _ _ rfl; refine AO.step ?_) | (refine AO.as AS.storeAV ?_; rotate_right; rintro _ _ rfl; refine AO.step ?_) | (refine AO.as AS.storeE ?_; rotate_right; rintro _ _ rfl; refine AO.step ?_) | (refine AO.as AS.storeEA ?_; rotate_right; rintro _ _ rfl; refine AO.step ?_) | fail) | ((with_reducible apply iAcall); first | (refine AO.as AS.append1 ?_; rotate_right; rintro _ _ rfl; refine AO.step ?_) | (refine AO.as AS.append ?_; rotate_right; rintro _ _ rfl; refine AO.step ?_) | (refine AO.as (AS.call1 (sSpansMove_c _ _ _ _ _)) ?_; rotate_right; rintro _ _ ⟨y, hy, rfl, rfl⟩; refine AO.step ?_) | (refine AO.as (AS.call1 (hM _ _ _ _ _ _)) ?_; rotate_right; rintro _ _ ⟨y, hy, rfl, rfl⟩; refine AO.step ?_) | fail) | ((with_reducible apply iAbox); first | (refine AO.as AS.box1 ?_; rotate_right; rintro _ _ ⟨_, rfl, rfl⟩; refine AO.step ?_) | (refine AO.as AS.boxA ?_; rotate_right; rintro _ _ ⟨_, rfl, rfl⟩; refine AO.step ?_) | fail) | ((with_reducible apply iAalloc); first | (refine AO.as AS.alloc ?_; rotate_right; rintro _ _ ⟨_, rfl, rfl⟩; refine AO.step ?_) | fail) | ((with_reducible apply iAbuildSlice); first | (refine AO.as AS.buildSlice ?_; rotate_right; rintro _ _ ⟨_, rfl, rfl⟩; refine AO.step ?_) | fail) | ((with_reducible apply iAmakeSlice); first | (refine AO.as AS.makeSlice ?_; rotate_right; rintro _ _ rfl; refine AO.step ?_) | fail) | ((with_reducible apply iAmakeMap); first | (refine AO.as AS.makeMap ?_; rotate_right; rintro _ _ ⟨_, rfl, rfl⟩; refine AO.step ?_) | fail) | ((with_reducible apply iAmapEntry); first | (refine AO.as AS.mapEntry ?_; rotate_right; rintro _ _ ⟨_, _, rfl, rfl⟩; refine AO.step ?_) | fail) | ((with_reducible apply iAentryStore); first | (refine AO.as AS.entryStore ?_; rotate_right; rintro _ _ rfl; refine AO.step ?_) | fail) | fail) | ((with_reducible apply iEnt); first | exact Ent.nil | ((with_reducible apply iERow); refine Ent.row ?_ ?_) | ((with_reducible apply iEBox); first | refine Ent.box ?_ ?_ | refine Ent.box2 ?_ ?_) | ((with_reducible apply iEBlk); refine Ent.blk ?_ ?_) | ((with_reducible apply iEPure); refine Ent.pure ?_ ?_) | ((with_reducible apply iERdR); first | refine Ent.rdR ?_ | refine Ent.any ?_ | fail) | refine Ent.any ?_ | with_reducible exact Ent.refl | fail) | ((with_reducible apply iEq); with_reducible rfl) | fail)
  subst hG2
  refine J.retX (ends y trivial ?_ ?_)
  · show Value.tuple #[pv (sMake p _ _) y, .bool true] = _
    simp only [List.nil_append, List.drop_zero, Nat.sub_zero, takeAll]
  · exact Ent.row Ent.nil rfl
set_option maxRecDepth 100000 in
set_option maxHeartbeats 4000000 in
theorem sPutP_no (p : Para) (i : Int) (l : List UInt8) (h : sPutP p i l = none) (v : Value) (ht : p.text.length ≤ 10000000) (hl : l.length ≤ 10000000) : Spec Tryz.prog 79 [pv p v, .int .i64 i, sv l] [rd eSpan v p.spans] [] (fun u : Value => .tuple #[pv zPara u, .bool false]) (fun u => [row eSpan 98 u zPara.spans]) (fun _ => True) := by
  refine Spec.mk Tryz.func79 rfl Tryz.ntmps79 rfl ?_
  intro w0 O hR hS0
  have hr := hR _ List.mem_cons_self; clear hR hS0
  have hG := sGet_c p.text ht
  have hH := sGet_c l hl
  have hC := sCheck_c p v ht
  obtain ⟨c, hc⟩ : ∃ c, sCheck p = c := ⟨_, rfl⟩
  rw [hc] at hC
  cases h1 : iGet p.text with
  | none =>
    rw [h1] at hG
    have hc1 : c ≠ 0 := by rw [← hc]; simp only [sCheck, h1]; decide
    cases h2 : iGet l with
    | none =>
      rw [h2] at hH
      dsimp only [Option.isSome, Option.getD] at hG hH
      repeat' (first | ((with_reducible apply iOJ); first | ((with_reducible apply iOp); refine OJ.p ?_) | with_reducible apply OJ.nil | ((with_reducible apply iOg); first | refine OJ.guardY ?_ | refine OJ.guardN ?_ | refine OJ.guardNd ?_ | refine OJ.guardU ?_ | refine OJ.guardS (fun _ => ?_) (fun _ => ?_) | fail) | ((with_reducible apply iOstore); first | (refine OJ.as AS.store ?_; rintro _ _ rfl) | (refine OJ.as AS.storeA ?_; rintro _ _ rfl) | (refine OJ.as AS.storeAV ?_; rintro _ _ rfl) | (refine OJ.as AS.storeE ?_; rintro _ _ rfl) | (refine OJ.as AS.storeEA ?_; rintro _ _ rfl) | fail) | ((with_reducible apply iOcall); first | (refine OJ.as AS.append1 ?_; rintro _ _ rfl) | (refine OJ.as AS.append ?_; rintro _ _ rfl) | (refine OJ.as (AS.call1 (hG)) ?_; rotate_right; rintro _ _ ⟨y, hy, rfl, rfl⟩) | (refine OJ.as (AS.call1 (hH)) ?_; rotate_right; rintro _ _ ⟨y, hy, rfl, rfl⟩) | (refine OJ.as (AS.call0 (hC)) ?_; rotate_right; rintro _ _ ⟨y, hy, rfl, rfl⟩) | fail) | ((with_reducible apply iObox); first | (refine OJ.as AS.box1 ?_; rintro _ _ ⟨_, rfl, rfl⟩) | (refine OJ.as AS.boxA ?_; rintro _ _ ⟨_, rfl, rfl⟩) | fail) | ((with_reducible apply iOalloc); first | (refine OJ.as AS.alloc ?_; rintro _ _ ⟨_, rfl, rfl⟩) | fail) | ((with_reducible apply iObuildSlice); first | (refine OJ.as AS.buildSlice ?_; rintro _ _ ⟨_, rfl, rfl⟩) | fail) | ((with_reducible apply iOmakeSlice); first | (refine OJ.as AS.makeSlice ?_; rintro _ _ rfl) | fail) | ((with_reducible apply iOmakeMap); first | (refine OJ.as AS.makeMap ?_; rintro _ _ ⟨_, rfl, rfl⟩) | fail) | ((with_reducible apply iOmapEntry); first | (refine OJ.as AS.mapEntry ?_; rintro _ _ ⟨_, _, rfl, rfl⟩) | fail) | ((with_reducible apply iOentryStore); first | (refine OJ.as AS.entryStore ?_; rintro _ _ rfl) | fail) | refine OJ.unboxP fun _ => ?_ | fail) | ((with_reducible apply iJ); first | refine J.seq ?_ | refine J.region ?_ | refine J.block ?_ | refine J.skip ?_ | refine J.exit ?_ | refine J.condT ?_ | refine J.condF ?_ | refine J.cond (fun _ => ?_) (fun _ => ?_) | refine J.retX (ends _ trivial rfl ?_) | fail) | ((with_reducible apply iJK); first | refine JK.code ?_ | refine JK.blk ?_ | refine JK.loop ?_ | refine JK.begin ?_ | refine JK.more ?_ | fail) | ((with_reducible apply iEnt); first | exact Ent.nil | ((with_reducible apply iERow); refine Ent.row ?_ ?_) | ((with_reducible apply iEBox); first | refine Ent.box ?_ ?_ | refine Ent.box2 ?_ ?_) | ((with_reducible apply iEBlk); refine Ent.blk ?_ ?_) | ((with_reducible apply iEPure); refine Ent.pure ?_ ?_) | ((with_reducible apply iERdR); first | refine Ent.rdR ?_ | refine Ent.any ?_ | fail) | refine Ent.any ?_ | with_reducible exact Ent.refl | fail) | ((with_reducible apply iEq); with_reducible rfl) | fail)
      all_goals first | rfl | (exfalso; omega)
    | some zs =>
      rw [h2] at hH
      dsimp only [Option.isSome, Option.getD] at hG hH
      repeat' (first | ((with_reducible apply iOJ); first | ((with_reducible apply iOp); refine OJ.p ?_) | with_reducible apply OJ.nil | ((with_reducible apply iOg); first | refine OJ.guardY ?_ | refine OJ.guardN ?_ | refine OJ.guardNd ?_ | refine OJ.guardU ?_ | refine OJ.guardS (fun _ => ?_) (fun _ => ?_) | fail) | ((with_reducible apply iOstore); first | (refine OJ.as AS.store ?_; rintro _ _ rfl) | (refine OJ.as AS.storeA ?_; rintro _ _ rfl) | (refine OJ.as AS.storeAV ?_; rintro _ _ rfl) | (refine OJ.as AS.storeE ?_; rintro _ _ rfl) | (refine OJ.as AS.storeEA ?_; rintro _ _ rfl) | fail) | ((with_reducible apply iOcall); first | (refine OJ.as AS.append1 ?_; rintro _ _ rfl) | (refine OJ.as AS.append ?_; rintro _ _ rfl) | (refine OJ.as (AS.call1 (hG)) ?_; rotate_right; rintro _ _ ⟨y, hy, rfl, rfl⟩) | (refine OJ.as (AS.call1 (hH)) ?_; rotate_right; rintro _ _ ⟨y, hy, rfl, rfl⟩) | (refine OJ.as (AS.call0 (hC)) ?_; rotate_right; rintro _ _ ⟨y, hy, rfl, rfl⟩) | fail) | ((with_reducible apply iObox); first | (refine OJ.as AS.box1 ?_; rintro _ _ ⟨_, rfl, rfl⟩) | (refine OJ.as AS.boxA ?_; rintro _ _ ⟨_, rfl, rfl⟩) | fail) | ((with_reducible apply iOalloc); first | (refine OJ.as AS.alloc ?_; rintro _ _ ⟨_, rfl, rfl⟩) | fail) | ((with_reducible apply iObuildSlice); first | (refine OJ.as AS.buildSlice ?_; rintro _ _ ⟨_, rfl, rfl⟩) | fail) | ((with_reducible apply iOmakeSlice); first | (refine OJ.as AS.makeSlice ?_; rintro _ _ rfl) | fail) | ((with_reducible apply iOmakeMap); first | (refine OJ.as AS.makeMap ?_; rintro _ _ ⟨_, rfl, rfl⟩) | fail) | ((with_reducible apply iOmapEntry); first | (refine OJ.as AS.mapEntry ?_; rintro _ _ ⟨_, _, rfl, rfl⟩) | fail) | ((with_reducible apply iOentryStore); first | (refine OJ.as AS.entryStore ?_; rintro _ _ rfl) | fail) | refine OJ.unboxP fun _ => ?_ | fail) | ((with_reducible apply iJ); first | refine J.seq ?_ | refine J.region ?_ | refine J.block ?_ | refine J.skip ?_ | refine J.exit ?_ | refine J.condT ?_ | refine J.condF ?_ | refine J.cond (fun _ => ?_) (fun _ => ?_) | refine J.retX (ends _ trivial rfl ?_) | fail) | ((with_reducible apply iJK); first | refine JK.code ?_ | refine JK.blk ?_ | refine JK.loop ?_ | refine JK.begin ?_ | refine JK.more ?_ | fail) | ((with_reducible apply iEnt); first | exact Ent.nil | ((with_reducible apply iERow); refine Ent.row ?_ ?_) | ((with_reducible apply iEBox); first | refine Ent.box ?_ ?_ | refine Ent.box2 ?_ ?_) | ((with_reducible apply iEBlk); refine Ent.blk ?_ ?_) | ((with_reducible apply iEPure); refine Ent.pure ?_ ?_) | ((with_reducible apply iERdR); first | refine Ent.rdR ?_ | refine Ent.any ?_ | fail) | refine Ent.any ?_ | with_reducible exact Ent.refl | fail) | ((with_reducible apply iEq); with_reducible rfl) | fail)
      all_goals first | rfl | (exfalso; omega)
  | some xs =>
    rw [h1] at hG
    cases h2 : iGet l with
    | none =>
      rw [h2] at hH
      dsimp only [Option.isSome, Option.getD] at hG hH
      repeat' (first | ((with_reducible apply iOJ); first | ((with_reducible apply iOp); refine OJ.p ?_) | with_reducible apply OJ.nil | ((with_reducible apply iOg); first | refine OJ.guardY ?_ | refine OJ.guardN ?_ | refine OJ.guardNd ?_ | refine OJ.guardU ?_ | refine OJ.guardS (fun _ => ?_) (fun _ => ?_) | fail) | ((with_reducible apply iOstore); first | (refine OJ.as AS.store ?_; rintro _ _ rfl) | (refine OJ.as AS.storeA ?_; rintro _ _ rfl) | (refine OJ.as AS.storeAV ?_; rintro _ _ rfl) | (refine OJ.as AS.storeE ?_; rintro _ _ rfl) | (refine OJ.as AS.storeEA ?_; rintro _ _ rfl) | fail) | ((with_reducible apply iOcall); first | (refine OJ.as AS.append1 ?_; rintro _ _ rfl) | (refine OJ.as AS.append ?_; rintro _ _ rfl) | (refine OJ.as (AS.call1 (hG)) ?_; rotate_right; rintro _ _ ⟨y, hy, rfl, rfl⟩) | (refine OJ.as (AS.call1 (hH)) ?_; rotate_right; rintro _ _ ⟨y, hy, rfl, rfl⟩) | (refine OJ.as (AS.call0 (hC)) ?_; rotate_right; rintro _ _ ⟨y, hy, rfl, rfl⟩) | fail) | ((with_reducible apply iObox); first | (refine OJ.as AS.box1 ?_; rintro _ _ ⟨_, rfl, rfl⟩) | (refine OJ.as AS.boxA ?_; rintro _ _ ⟨_, rfl, rfl⟩) | fail) | ((with_reducible apply iOalloc); first | (refine OJ.as AS.alloc ?_; rintro _ _ ⟨_, rfl, rfl⟩) | fail) | ((with_reducible apply iObuildSlice); first | (refine OJ.as AS.buildSlice ?_; rintro _ _ ⟨_, rfl, rfl⟩) | fail) | ((with_reducible apply iOmakeSlice); first | (refine OJ.as AS.makeSlice ?_; rintro _ _ rfl) | fail) | ((with_reducible apply iOmakeMap); first | (refine OJ.as AS.makeMap ?_; rintro _ _ ⟨_, rfl, rfl⟩) | fail) | ((with_reducible apply iOmapEntry); first | (refine OJ.as AS.mapEntry ?_; rintro _ _ ⟨_, _, rfl, rfl⟩) | fail) | ((with_reducible apply iOentryStore); first | (refine OJ.as AS.entryStore ?_; rintro _ _ rfl) | fail) | refine OJ.unboxP fun _ => ?_ | fail) | ((with_reducible apply iJ); first | refine J.seq ?_ | refine J.region ?_ | refine J.block ?_ | refine J.skip ?_ | refine J.exit ?_ | refine J.condT ?_ | refine J.condF ?_ | refine J.cond (fun _ => ?_) (fun _ => ?_) | refine J.retX (ends _ trivial rfl ?_) | fail) | ((with_reducible apply iJK); first | refine JK.code ?_ | refine JK.blk ?_ | refine JK.loop ?_ | refine JK.begin ?_ | refine JK.more ?_ | fail) | ((with_reducible apply iEnt); first | exact Ent.nil | ((with_reducible apply iERow); refine Ent.row ?_ ?_) | ((with_reducible apply iEBox); first | refine Ent.box ?_ ?_ | refine Ent.box2 ?_ ?_) | ((with_reducible apply iEBlk); refine Ent.blk ?_ ?_) | ((with_reducible apply iEPure); refine Ent.pure ?_ ?_) | ((with_reducible apply iERdR); first | refine Ent.rdR ?_ | refine Ent.any ?_ | fail) | refine Ent.any ?_ | with_reducible exact Ent.refl | fail) | ((with_reducible apply iEq); with_reducible rfl) | fail)
      all_goals first | rfl | (exfalso; simp_all; done)
    | some zs =>
      rw [h2] at hH
      dsimp only [Option.isSome, Option.getD] at hG hH
      have hx := iGet_len h1
      have hz := iGet_len h2
      have hk : ¬ (c = 0 ∧ inR i 0 xs.length = true ∧ xs.length + zs.length ≤ 80) := fun ⟨q1, q2, q3⟩ => by
        simp only [sPutP, h1, h2, hc, q1, q2, decide_eq_false (show ¬ xs.length + zs.length > 80 by omega)] at h
        simp at h
      repeat' (first | ((with_reducible apply iOJ); first | ((with_reducible apply iOp); refine OJ.p ?_) | with_reducible apply OJ.nil | ((with_reducible apply iOg); first | refine OJ.guardY ?_ | refine OJ.guardN ?_ | refine OJ.guardNd ?_ | refine OJ.guardU ?_ | refine OJ.guardS (fun _ => ?_) (fun _ => ?_) | fail) | ((with_reducible apply iOstore); first | (refine OJ.as AS.store ?_; rintro _ _ rfl) | (refine OJ.as AS.storeA ?_; rintro _ _ rfl) | (refine OJ.as AS.storeAV ?_; rintro _ _ rfl) | (refine OJ.as AS.storeE ?_; rintro _ _ rfl) | (refine OJ.as AS.storeEA ?_; rintro _ _ rfl) | fail) | ((with_reducible apply iOcall); first | (refine OJ.as AS.append1 ?_; rintro _ _ rfl) | (refine OJ.as AS.append ?_; rintro _ _ rfl) | (refine OJ.as (AS.call1 (hG)) ?_; rotate_right; rintro _ _ ⟨y, hy, rfl, rfl⟩) | (refine OJ.as (AS.call1 (hH)) ?_; rotate_right; rintro _ _ ⟨y, hy, rfl, rfl⟩) | (refine OJ.as (AS.call0 (hC)) ?_; rotate_right; rintro _ _ ⟨y, hy, rfl, rfl⟩) | (refine OJ.as (AS.call0 (l1In_c _ _ _)) ?_; rotate_right; rintro _ _ ⟨y, hy, rfl, rfl⟩) | fail) | ((with_reducible apply iObox); first | (refine OJ.as AS.box1 ?_; rintro _ _ ⟨_, rfl, rfl⟩) | (refine OJ.as AS.boxA ?_; rintro _ _ ⟨_, rfl, rfl⟩) | fail) | ((with_reducible apply iOalloc); first | (refine OJ.as AS.alloc ?_; rintro _ _ ⟨_, rfl, rfl⟩) | fail) | ((with_reducible apply iObuildSlice); first | (refine OJ.as AS.buildSlice ?_; rintro _ _ ⟨_, rfl, rfl⟩) | fail) | ((with_reducible apply iOmakeSlice); first | (refine OJ.as AS.makeSlice ?_; rintro _ _ rfl) | fail) | ((with_reducible apply iOmakeMap); first | (refine OJ.as AS.makeMap ?_; rintro _ _ ⟨_, rfl, rfl⟩) | fail) | ((with_reducible apply iOmapEntry); first | (refine OJ.as AS.mapEntry ?_; rintro _ _ ⟨_, _, rfl, rfl⟩) | fail) | ((with_reducible apply iOentryStore); first | (refine OJ.as AS.entryStore ?_; rintro _ _ rfl) | fail) | refine OJ.unboxP fun _ => ?_ | fail) | ((with_reducible apply iJ); first | refine J.seq ?_ | refine J.region ?_ | refine J.block ?_ | refine J.skip ?_ | refine J.exit ?_ | refine J.condT ?_ | refine J.condF ?_ | refine J.cond (fun _ => ?_) (fun _ => ?_) | refine J.retX (ends _ trivial rfl ?_) | fail) | ((with_reducible apply iJK); first | refine JK.code ?_ | refine JK.blk ?_ | refine JK.loop ?_ | refine JK.begin ?_ | refine JK.more ?_ | fail) | ((with_reducible apply iEnt); first | exact Ent.nil | ((with_reducible apply iERow); refine Ent.row ?_ ?_) | ((with_reducible apply iEBox); first | refine Ent.box ?_ ?_ | refine Ent.box2 ?_ ?_) | ((with_reducible apply iEBlk); refine Ent.blk ?_ ?_) | ((with_reducible apply iEPure); refine Ent.pure ?_ ?_) | ((with_reducible apply iERdR); first | refine Ent.rdR ?_ | refine Ent.any ?_ | fail) | refine Ent.any ?_ | with_reducible exact Ent.refl | fail) | ((with_reducible apply iEq); with_reducible rfl) | fail)
      all_goals first | rfl | (exfalso; exact hk ⟨by assumption, by assumption, by omega⟩)
theorem sPutP_c (p : Para) (v : Value) (i : Int) (l : List UInt8) (ht : p.text.length ≤ 10000000) (hl : l.length ≤ 10000000) : Spec Tryz.prog 79 [pv p v, .int .i64 i, sv l] [rd eSpan v p.spans] [] (fun u : Value => .tuple #[pv ((sPutP p i l).getD zPara) u, .bool (sPutP p i l).isSome]) (fun u => [row eSpan 98 u ((sPutP p i l).getD zPara).spans]) (fun _ => True) := by
  cases h : sPutP p i l with
  | none => exact sPutP_no p i l h v ht hl
  | some G =>
    have h0 := h
    unfold sPutP at h0
    split at h0
    · rename_i xs zs h1 h2
      split at h0
      · rename_i hk
        injection h0 with h0
        rw [Bool.and_eq_true, Bool.and_eq_true, Bool.not_eq_true', decide_eq_false_iff_not, decide_eq_true_eq] at hk
        exact sPutP_yes p v i l ht hl xs zs h1 h2 hk.1.1 hk.1.2 (by omega) G h0
      · cases h0
    · cases h0
end Go.SL

/- impl.ParaCut, ParaPut. -/
set_option linter.unusedVariables false
set_option linter.unusedSimpArgs false
namespace Go.SL
open Go.RowKit Go.Proofs
theorem putS_eq : ∀ (l : List Int) (i : Nat) (acc : List UInt8), i ≤ 80 → putS i l acc = match decide (i + l.length ≤ 80) && l.all isLet with
    | true => acc ++ txt (putI l)
    | false => []
  | [], i, acc, h => by
    simp only [putS, List.length_nil, Nat.add_zero, decide_eq_true h, List.all_nil, Bool.and_true]
    show acc = acc ++ []
    rw [List.append_nil]
  | x :: l, i, acc, h => by
    by_cases h1 : rsize x = 0 ∨ 80 ≤ (i : Int)
    · rw [putS_no h1]
      have e : (decide (i + (x :: l).length ≤ 80) && (x :: l).all isLet) = false := by
        rcases h1 with h1 | h1
        · rw [List.all_cons, isLet_size, decide_eq_true h1]
          simp
        · rw [decide_eq_false (by rw [List.length_cons]; omega)]
          rfl
      rw [e]
    · rw [putS_yes (fun e => h1 (.inl e)) (fun e => h1 (.inr e)), putS_eq l (i + 1) _ (by omega)]
      have e : (decide (i + (x :: l).length ≤ 80) && (x :: l).all isLet) = (decide (i + 1 + l.length ≤ 80) && l.all isLet) := by
        rw [List.all_cons, isLet_size, decide_eq_false (fun e => h1 (.inl e)), List.length_cons, show i + (l.length + 1) = i + 1 + l.length by omega]
        rfl
      rw [e]
      cases decide (i + 1 + l.length ≤ 80) && l.all isLet with
      | false => rfl
      | true =>
        show acc ++ txt (letB x) ++ txt (putI l) = acc ++ txt (putI (x :: l))
        rw [List.append_assoc, ← txt_app]
        rfl
theorem iPut_eq (l : List Int) : iPut l = sPut l := by
  unfold iPut sPut lettersOk
  rw [putS_eq l 0 [] (by omega), Nat.zero_add]
  rfl
def iMake (p : Para) (xs : List Int) (sp : List Span) : Para := { p with text := iPut xs, spans := sp }
theorem iMake_eq (p : Para) (xs : List Int) (sp : List Span) : iMake p xs sp = sMake p xs sp := by
  unfold iMake sMake
  rw [iPut_eq]
def shB (p : Para) (q : Sheet) : HP := blk q.b (.cells #[sv p.text, .int .i64 p.base, .int .i64 p.wide, .int .i64 p.mode, .int .i64 p.align, q.us, q.ur, .int .i64 q.base] 68 (0, 0))
set_option maxRecDepth 100000 in
set_option maxHeartbeats 8000000 in
theorem cutNo_c (p : Para) (q : Sheet) (xs : List Int) (f t : Int) (h : inLine xs.length f t = false) : Spec Tryz.prog 25 [.pointer (some ⟨q.b, 0, none⟩), .int .i64 f, .int .i64 t] []
    [blk q.b (.cells #[sv p.text, .int .i64 p.base, .int .i64 p.wide, .int .i64 p.mode, .int .i64 p.align, q.us, q.ur, .int .i64 q.base] 68 (0, 0)), row eSpan 98 q.us p.spans, row eInt 3 q.ur xs]
    (fun u : Value => .tuple #[pv zPara u, .bool false]) (fun u => [row eSpan 98 u zPara.spans]) (fun _ => True) := by
  refine Spec.mk Tryz.func25 rfl Tryz.ntmps25 rfl ?_
  intro w0 O hR hS0; clear hR hS0
  have hL := isLine_c xs.length f t
  rw [h] at hL
  repeat' (first | ((with_reducible apply iOJ); first | ((with_reducible apply iOp); refine OJ.p ?_) | with_reducible apply OJ.nil | ((with_reducible apply iOg); first | refine OJ.guardY ?_ | refine OJ.guardN ?_ | refine OJ.guardNd ?_ | refine OJ.guardU ?_ | refine OJ.guardS (fun _ => ?_) (fun _ => ?_) | fail) | ((with_reducible apply iOstore); first | (refine OJ.as AS.store ?_; rintro _ _ rfl) | (refine OJ.as AS.storeA ?_; rintro _ _ rfl) | (refine OJ.as AS.storeAV ?_; rintro _ _ rfl) | (refine OJ.as AS.storeE ?_; rintro _ _ rfl) | (refine OJ.as AS.storeEA ?_; rintro _ _ rfl) | fail) | ((with_reducible apply iOcall); first | (refine OJ.as AS.append1 ?_; rintro _ _ rfl) | (refine OJ.as AS.append ?_; rintro _ _ rfl) | (refine OJ.as (AS.call0 (hL)) ?_; rotate_right; rintro _ _ ⟨y, hy, rfl, rfl⟩) | fail) | ((with_reducible apply iObox); first | (refine OJ.as AS.box1 ?_; rintro _ _ ⟨_, rfl, rfl⟩) | (refine OJ.as AS.boxA ?_; rintro _ _ ⟨_, rfl, rfl⟩) | fail) | ((with_reducible apply iOalloc); first | (refine OJ.as AS.alloc ?_; rintro _ _ ⟨_, rfl, rfl⟩) | fail) | ((with_reducible apply iObuildSlice); first | (refine OJ.as AS.buildSlice ?_; rintro _ _ ⟨_, rfl, rfl⟩) | fail) | ((with_reducible apply iOmakeSlice); first | (refine OJ.as AS.makeSlice ?_; rintro _ _ rfl) | fail) | ((with_reducible apply iOmakeMap); first | (refine OJ.as AS.makeMap ?_; rintro _ _ ⟨_, rfl, rfl⟩) | fail) | ((with_reducible apply iOmapEntry); first | (refine OJ.as AS.mapEntry ?_; rintro _ _ ⟨_, _, rfl, rfl⟩) | fail) | ((with_reducible apply iOentryStore); first | (refine OJ.as AS.entryStore ?_; rintro _ _ rfl) | fail) | refine OJ.unboxP fun _ => ?_ | fail) | ((with_reducible apply iJ); first | refine J.seq ?_ | refine J.region ?_ | refine J.block ?_ | refine J.skip ?_ | refine J.exit ?_ | refine J.condT ?_ | refine J.condF ?_ | refine J.cond (fun _ => ?_) (fun _ => ?_) | refine J.retX (ends _ trivial rfl ?_) | fail) | ((with_reducible apply iJK); first | refine JK.code ?_ | refine JK.blk ?_ | refine JK.loop ?_ | refine JK.begin ?_ | refine JK.more ?_ | fail) | ((with_reducible apply iEnt); first | exact Ent.nil | ((with_reducible apply iERow); refine Ent.row ?_ ?_) | ((with_reducible apply iEBox); first | refine Ent.box ?_ ?_ | refine Ent.box2 ?_ ?_) | ((with_reducible apply iEBlk); refine Ent.blk ?_ ?_) | ((with_reducible apply iEPure); refine Ent.pure ?_ ?_) | ((with_reducible apply iERdR); first | refine Ent.rdR ?_ | refine Ent.any ?_ | fail) | refine Ent.any ?_ | with_reducible exact Ent.refl | fail) | ((with_reducible apply iEq); with_reducible rfl) | fail)
  all_goals rfl
set_option maxRecDepth 100000 in
set_option maxHeartbeats 8000000 in
theorem cutYes_c (p : Para) (q : Sheet) (xs : List Int) (f t : Int) (h : inLine xs.length f t = true) (hx : xs.length ≤ 80) (G : Para) (hG : iMake p (xs.take f.toNat ++ xs.drop t.toNat) (sSpansMove p.spans xs.length f (f - t)) = G) : Spec Tryz.prog 25 [.pointer (some ⟨q.b, 0, none⟩), .int .i64 f, .int .i64 t] []
    [blk q.b (.cells #[sv p.text, .int .i64 p.base, .int .i64 p.wide, .int .i64 p.mode, .int .i64 p.align, q.us, q.ur, .int .i64 q.base] 68 (0, 0)), row eSpan 98 q.us p.spans, row eInt 3 q.ur xs]
    (fun u : Value => .tuple #[pv G u, .bool true]) (fun u => [row eSpan 98 u G.spans]) (fun _ => True) := by
  refine Spec.mk Tryz.func25 rfl Tryz.ntmps25 rfl ?_
  intro w0 O hR hS0; clear hR hS0
  have hL := isLine_c xs.length f t
  rw [h] at hL
  have hi : 0 ≤ f ∧ f ≤ t ∧ t ≤ xs.length := by simpa [inLine] using h
  have hC := fun v => cloneI_c v xs (by omega)
  have hD := fun v => delete_c v xs f t hi.1 hi.2.1 hi.2.2
  repeat' (first | ((with_reducible apply iOJ); first | ((with_reducible apply iOp); refine OJ.p ?_) | with_reducible apply OJ.nil | ((with_reducible apply iOg); first | refine OJ.guardY ?_ | refine OJ.guardN ?_ | refine OJ.guardNd ?_ | refine OJ.guardU ?_ | refine OJ.guardS (fun _ => ?_) (fun _ => ?_) | fail) | ((with_reducible apply iOstore); first | (refine OJ.as AS.store ?_; rintro _ _ rfl) | (refine OJ.as AS.storeA ?_; rintro _ _ rfl) | (refine OJ.as AS.storeAV ?_; rintro _ _ rfl) | (refine OJ.as AS.storeE ?_; rintro _ _ rfl) | (refine OJ.as AS.storeEA ?_; rintro _ _ rfl) | fail) | ((with_reducible apply iOcall); first | (refine OJ.as AS.append1 ?_; rintro _ _ rfl) | (refine OJ.as AS.append ?_; rintro _ _ rfl) | (refine OJ.as (AS.call0 (hL)) ?_; rotate_right; rintro _ _ ⟨y, hy, rfl, rfl⟩) | (refine OJ.as (AS.call1 (hC _)) ?_; rotate_right; rintro _ _ ⟨y, hy, rfl, rfl⟩) | (refine OJ.as (AS.call1 (hD _)) ?_; rotate_right; rintro _ _ ⟨y, hy, rfl, rfl⟩) | (refine OJ.as (AS.call0 (iPut_c _ _)) ?_; rotate_right; rintro _ _ ⟨y, hy, rfl, rfl⟩) | fail) | ((with_reducible apply iObox); first | (refine OJ.as AS.box1 ?_; rintro _ _ ⟨_, rfl, rfl⟩) | (refine OJ.as AS.boxA ?_; rintro _ _ ⟨_, rfl, rfl⟩) | fail) | ((with_reducible apply iOalloc); first | (refine OJ.as AS.alloc ?_; rintro _ _ ⟨_, rfl, rfl⟩) | fail) | ((with_reducible apply iObuildSlice); first | (refine OJ.as AS.buildSlice ?_; rintro _ _ ⟨_, rfl, rfl⟩) | fail) | ((with_reducible apply iOmakeSlice); first | (refine OJ.as AS.makeSlice ?_; rintro _ _ rfl) | fail) | ((with_reducible apply iOmakeMap); first | (refine OJ.as AS.makeMap ?_; rintro _ _ ⟨_, rfl, rfl⟩) | fail) | ((with_reducible apply iOmapEntry); first | (refine OJ.as AS.mapEntry ?_; rintro _ _ ⟨_, _, rfl, rfl⟩) | fail) | ((with_reducible apply iOentryStore); first | (refine OJ.as AS.entryStore ?_; rintro _ _ rfl) | fail) | refine OJ.unboxP fun _ => ?_ | fail) | ((with_reducible apply iJ); first | refine J.seq ?_ | refine J.region ?_ | refine J.block ?_ | refine J.skip ?_ | refine J.exit ?_ | refine J.condT ?_ | refine J.condF ?_ | refine J.cond (fun _ => ?_) (fun _ => ?_) | refine J.draw ?_ | fail) | ((with_reducible apply iJK); first | refine JK.code ?_ | refine JK.blk ?_ | refine JK.loop ?_ | refine JK.begin ?_ | refine JK.more ?_ | fail) | ((with_reducible apply iAJ); first | refine AJ.rebase ?_ | refine AJ.regain ?_ | refine AJ.take ?_ | refine AJ.takeY ?_ | refine AJ.takeN ?_ | refine AJ.takeNd ?_ | refine AJ.takeNS ?_ | refine AJ.takeU ?_ | refine AJ.sel ?_ | refine AJ.selY ?_ | refine AJ.sel2 ?_ ?_ | refine AJ.split (fun _ => ?_) (fun _ => ?_) | refine AJ.done ?_ | fail) | ((with_reducible apply iAO); first | ((with_reducible apply iAstore); first | (refine AO.as AS.store ?_; rotate_right; rintro _ _ rfl; refine AO.step ?_) | (refine AO.as AS.storeA ?_; rotate_right; rintro _ _ rfl; refine AO.step ?_) | (refine AO.as AS.storeAV ?_; rotate_right; rintro _ _ rfl; refine AO.step ?_) | (refine AO.as AS.storeE ?_; rotate_right; rintro _ _ rfl; refine AO.step ?_) | (refine AO.as AS.storeEA ?_; rotate_right; rintro _ _ rfl; refine AO.step ?_) | fail) | ((with_reducible apply iAcall); first | (refine AO.as AS.append1 ?_; rotate_right; rintro _ _ rfl; refine AO.step ?_) | (refine AO.as AS.append ?_; rotate_right; rintro _ _ rfl; refine AO.step ?_) | (refine AO.as (AS.call1 (iSpansMove_any _ _ _ _ _)) ?_; rotate_right; rintro _ _ ⟨y, hy, rfl, rfl⟩; refine AO.step ?_) | fail) | ((with_reducible apply iAbox); first | (refine AO.as AS.box1 ?_; rotate_right; rintro _ _ ⟨_, rfl, rfl⟩; refine AO.step ?_) | (refine AO.as AS.boxA ?_; rotate_right; rintro _ _ ⟨_, rfl, rfl⟩; refine AO.step ?_) | fail) | ((with_reducible apply iAalloc); first | (refine AO.as AS.alloc ?_; rotate_right; rintro _ _ ⟨_, rfl, rfl⟩; refine AO.step ?_) | fail) | ((with_reducible apply iAbuildSlice); first | (refine AO.as AS.buildSlice ?_; rotate_right; rintro _ _ ⟨_, rfl, rfl⟩; refine AO.step ?_) | fail) | ((with_reducible apply iAmakeSlice); first | (refine AO.as AS.makeSlice ?_; rotate_right; rintro _ _ rfl; refine AO.step ?_) | fail) | ((with_reducible apply iAmakeMap); first | (refine AO.as AS.makeMap ?_; rotate_right; rintro _ _ ⟨_, rfl, rfl⟩; refine AO.step ?_) | fail) | ((with_reducible apply iAmapEntry); first | (refine AO.as AS.mapEntry ?_; rotate_right; rintro _ _ ⟨_, _, rfl, rfl⟩; refine AO.step ?_) | fail) | ((with_reducible apply iAentryStore); first | (refine AO.as AS.entryStore ?_; rotate_right; rintro _ _ rfl; refine AO.step ?_) | fail) | fail) | ((with_reducible apply iEnt); first | exact Ent.nil | ((with_reducible apply iERow); refine Ent.row ?_ ?_) | ((with_reducible apply iEBox); first | refine Ent.box ?_ ?_ | refine Ent.box2 ?_ ?_) | ((with_reducible apply iEBlk); refine Ent.blk ?_ ?_) | ((with_reducible apply iEPure); refine Ent.pure ?_ ?_) | ((with_reducible apply iERdR); first | refine Ent.rdR ?_ | refine Ent.any ?_ | fail) | refine Ent.any ?_ | with_reducible exact Ent.refl | fail) | ((with_reducible apply iEq); with_reducible rfl) | fail)
  rename_i u _ _
  subst hG
  refine J.retX (ends u trivial ?_ (xENT))
  rfl
def inPut (xs zs : List Int) (i : Int) : Prop := 0 ≤ i ∧ i ≤ xs.length ∧ xs.length + zs.length ≤ 80
set_option maxRecDepth 100000 in
set_option maxHeartbeats 8000000 in
theorem putNo_c (p : Para) (q : Sheet) (xs zs : List Int) (vm : Value) (i : Int) (h : ¬ inPut xs zs i) (hx : xs.length ≤ 80) (hz : zs.length ≤ 80) : Spec Tryz.prog 42 [.pointer (some ⟨q.b, 0, none⟩), .int .i64 i, vm] []
    [blk q.b (.cells #[sv p.text, .int .i64 p.base, .int .i64 p.wide, .int .i64 p.mode, .int .i64 p.align, q.us, q.ur, .int .i64 q.base] 68 (0, 0)), row eSpan 98 q.us p.spans, row eInt 3 q.ur xs, row eInt 3 vm zs]
    (fun u : Value => .tuple #[pv zPara u, .bool false]) (fun u => [row eSpan 98 u zPara.spans]) (fun _ => True) := by
  refine Spec.mk Tryz.func42 rfl Tryz.ntmps42 rfl ?_
  intro w0 O hR hS0; clear hR hS0
  repeat' (first | ((with_reducible apply iOJ); first | ((with_reducible apply iOp); refine OJ.p ?_) | with_reducible apply OJ.nil | ((with_reducible apply iOg); first | refine OJ.guardY ?_ | refine OJ.guardN ?_ | refine OJ.guardNd ?_ | refine OJ.guardU ?_ | refine OJ.guardS (fun _ => ?_) (fun _ => ?_) | fail) | ((with_reducible apply iOstore); first | (refine OJ.as AS.store ?_; rintro _ _ rfl) | (refine OJ.as AS.storeA ?_; rintro _ _ rfl) | (refine OJ.as AS.storeAV ?_; rintro _ _ rfl) | (refine OJ.as AS.storeE ?_; rintro _ _ rfl) | (refine OJ.as AS.storeEA ?_; rintro _ _ rfl) | fail) | ((with_reducible apply iOcall); first | (refine OJ.as AS.append1 ?_; rintro _ _ rfl) | (refine OJ.as AS.append ?_; rintro _ _ rfl) | fail) | ((with_reducible apply iObox); first | (refine OJ.as AS.box1 ?_; rintro _ _ ⟨_, rfl, rfl⟩) | (refine OJ.as AS.boxA ?_; rintro _ _ ⟨_, rfl, rfl⟩) | fail) | ((with_reducible apply iOalloc); first | (refine OJ.as AS.alloc ?_; rintro _ _ ⟨_, rfl, rfl⟩) | fail) | ((with_reducible apply iObuildSlice); first | (refine OJ.as AS.buildSlice ?_; rintro _ _ ⟨_, rfl, rfl⟩) | fail) | ((with_reducible apply iOmakeSlice); first | (refine OJ.as AS.makeSlice ?_; rintro _ _ rfl) | fail) | ((with_reducible apply iOmakeMap); first | (refine OJ.as AS.makeMap ?_; rintro _ _ ⟨_, rfl, rfl⟩) | fail) | ((with_reducible apply iOmapEntry); first | (refine OJ.as AS.mapEntry ?_; rintro _ _ ⟨_, _, rfl, rfl⟩) | fail) | ((with_reducible apply iOentryStore); first | (refine OJ.as AS.entryStore ?_; rintro _ _ rfl) | fail) | refine OJ.unboxP fun _ => ?_ | fail) | ((with_reducible apply iJ); first | refine J.seq ?_ | refine J.region ?_ | refine J.block ?_ | refine J.skip ?_ | refine J.exit ?_ | refine J.condT ?_ | refine J.condF ?_ | refine J.cond (fun _ => ?_) (fun _ => ?_) | refine J.retX (ends _ trivial rfl ?_) | fail) | ((with_reducible apply iJK); first | refine JK.code ?_ | refine JK.blk ?_ | refine JK.loop ?_ | refine JK.begin ?_ | refine JK.more ?_ | fail) | ((with_reducible apply iEnt); first | exact Ent.nil | ((with_reducible apply iERow); refine Ent.row ?_ ?_) | ((with_reducible apply iEBox); first | refine Ent.box ?_ ?_ | refine Ent.box2 ?_ ?_) | ((with_reducible apply iEBlk); refine Ent.blk ?_ ?_) | ((with_reducible apply iEPure); refine Ent.pure ?_ ?_) | ((with_reducible apply iERdR); first | refine Ent.rdR ?_ | refine Ent.any ?_ | fail) | refine Ent.any ?_ | with_reducible exact Ent.refl | fail) | ((with_reducible apply iEq); with_reducible rfl) | fail)
  all_goals first | rfl | (exfalso; unfold inPut at h; omega)
set_option maxRecDepth 100000 in
set_option maxHeartbeats 8000000 in
theorem putYes_c (p : Para) (q : Sheet) (xs zs : List Int) (vm : Value) (i : Int) (h : inPut xs zs i) (G : Para) (hG : iMake p (xs.take i.toNat ++ zs ++ xs.drop i.toNat) (sSpansMove p.spans xs.length i zs.length) = G) : Spec Tryz.prog 42 [.pointer (some ⟨q.b, 0, none⟩), .int .i64 i, vm] []
    [blk q.b (.cells #[sv p.text, .int .i64 p.base, .int .i64 p.wide, .int .i64 p.mode, .int .i64 p.align, q.us, q.ur, .int .i64 q.base] 68 (0, 0)), row eSpan 98 q.us p.spans, row eInt 3 q.ur xs, row eInt 3 vm zs]
    (fun u : Value => .tuple #[pv G u, .bool true]) (fun u => [row eSpan 98 u G.spans]) (fun _ => True) := by
  refine Spec.mk Tryz.func42 rfl Tryz.ntmps42 rfl ?_
  intro w0 O hR hS0; clear hR hS0
  obtain ⟨h1, h2, h3⟩ := h
  have hC := fun v => cloneI_c v xs (by omega)
  have hI := fun v => insert_c v vm xs zs i h1 h2 (by omega)
  repeat' (first | ((with_reducible apply iOJ); first | ((with_reducible apply iOp); refine OJ.p ?_) | with_reducible apply OJ.nil | ((with_reducible apply iOg); first | refine OJ.guardY ?_ | refine OJ.guardN ?_ | refine OJ.guardNd ?_ | refine OJ.guardU ?_ | refine OJ.guardS (fun _ => ?_) (fun _ => ?_) | fail) | ((with_reducible apply iOstore); first | (refine OJ.as AS.store ?_; rintro _ _ rfl) | (refine OJ.as AS.storeA ?_; rintro _ _ rfl) | (refine OJ.as AS.storeAV ?_; rintro _ _ rfl) | (refine OJ.as AS.storeE ?_; rintro _ _ rfl) | (refine OJ.as AS.storeEA ?_; rintro _ _ rfl) | fail) | ((with_reducible apply iOcall); first | (refine OJ.as AS.append1 ?_; rintro _ _ rfl) | (refine OJ.as AS.append ?_; rintro _ _ rfl) | (refine OJ.as (AS.call1 (hC _)) ?_; rotate_right; rintro _ _ ⟨y, hy, rfl, rfl⟩) | (refine OJ.as (AS.call2 (hI _)) ?_; rotate_right; rintro _ _ ⟨y, hy, rfl, rfl⟩) | (refine OJ.as (AS.call0 (iPut_c _ _)) ?_; rotate_right; rintro _ _ ⟨y, hy, rfl, rfl⟩) | fail) | ((with_reducible apply iObox); first | (refine OJ.as AS.box1 ?_; rintro _ _ ⟨_, rfl, rfl⟩) | (refine OJ.as AS.boxA ?_; rintro _ _ ⟨_, rfl, rfl⟩) | fail) | ((with_reducible apply iOalloc); first | (refine OJ.as AS.alloc ?_; rintro _ _ ⟨_, rfl, rfl⟩) | fail) | ((with_reducible apply iObuildSlice); first | (refine OJ.as AS.buildSlice ?_; rintro _ _ ⟨_, rfl, rfl⟩) | fail) | ((with_reducible apply iOmakeSlice); first | (refine OJ.as AS.makeSlice ?_; rintro _ _ rfl) | fail) | ((with_reducible apply iOmakeMap); first | (refine OJ.as AS.makeMap ?_; rintro _ _ ⟨_, rfl, rfl⟩) | fail) | ((with_reducible apply iOmapEntry); first | (refine OJ.as AS.mapEntry ?_; rintro _ _ ⟨_, _, rfl, rfl⟩) | fail) | ((with_reducible apply iOentryStore); first | (refine OJ.as AS.entryStore ?_; rintro _ _ rfl) | fail) | refine OJ.unboxP fun _ => ?_ | fail) | ((with_reducible apply iJ); first | refine J.seq ?_ | refine J.region ?_ | refine J.block ?_ | refine J.skip ?_ | refine J.exit ?_ | refine J.condT ?_ | refine J.condF ?_ | refine J.cond (fun _ => ?_) (fun _ => ?_) | refine J.draw ?_ | fail) | ((with_reducible apply iJK); first | refine JK.code ?_ | refine JK.blk ?_ | refine JK.loop ?_ | refine JK.begin ?_ | refine JK.more ?_ | fail) | ((with_reducible apply iAJ); first | refine AJ.rebase ?_ | refine AJ.regain ?_ | refine AJ.take ?_ | refine AJ.takeY ?_ | refine AJ.takeN ?_ | refine AJ.takeNd ?_ | refine AJ.takeNS ?_ | refine AJ.takeU ?_ | refine AJ.sel ?_ | refine AJ.selY ?_ | refine AJ.sel2 ?_ ?_ | refine AJ.split (fun _ => ?_) (fun _ => ?_) | refine AJ.done ?_ | fail) | ((with_reducible apply iAO); first | ((with_reducible apply iAstore); first | (refine AO.as AS.store ?_; rotate_right; rintro _ _ rfl; refine AO.step ?_) | (refine AO.as AS.storeA ?_; rotate_right; rintro _ _ rfl; refine AO.step ?_) | (refine AO.as AS.storeAV ?_; rotate_right; rintro _ _ rfl; refine AO.step ?_) | (refine AO.as AS.storeE ?_; rotate_right; rintro _ _ rfl; refine AO.step ?_) | (refine AO.as AS.storeEA ?_; rotate_right; rintro _ _ rfl; refine AO.step ?_) | fail) | ((with_reducible apply iAcall); first | (refine AO.as AS.append1 ?_; rotate_right; rintro _ _ rfl; refine AO.step ?_) | (refine AO.as AS.append ?_; rotate_right; rintro _ _ rfl; refine AO.step ?_) | (refine AO.as (AS.call1 (iSpansMove_any _ _ _ _ _)) ?_; rotate_right; rintro _ _ ⟨y, hy, rfl, rfl⟩; refine AO.step ?_) | fail) | ((with_reducible apply iAbox); first | (refine AO.as AS.box1 ?_; rotate_right; rintro _ _ ⟨_, rfl, rfl⟩; refine AO.step ?_) | (refine AO.as AS.boxA ?_; rotate_right; rintro _ _ ⟨_, rfl, rfl⟩; refine AO.step ?_) | fail) | ((with_reducible apply iAalloc); first | (refine AO.as AS.alloc ?_; rotate_right; rintro _ _ ⟨_, rfl, rfl⟩; refine AO.step ?_) | fail) | ((with_reducible apply iAbuildSlice); first | (refine AO.as AS.buildSlice ?_; rotate_right; rintro _ _ ⟨_, rfl, rfl⟩; refine AO.step ?_) | fail) | ((with_reducible apply iAmakeSlice); first | (refine AO.as AS.makeSlice ?_; rotate_right; rintro _ _ rfl; refine AO.step ?_) | fail) | ((with_reducible apply iAmakeMap); first | (refine AO.as AS.makeMap ?_; rotate_right; rintro _ _ ⟨_, rfl, rfl⟩; refine AO.step ?_) | fail) | ((with_reducible apply iAmapEntry); first | (refine AO.as AS.mapEntry ?_; rotate_right; rintro _ _ ⟨_, _, rfl, rfl⟩; refine AO.step ?_) | fail) | ((with_reducible apply iAentryStore); first | (refine AO.as AS.entryStore ?_; rotate_right; rintro _ _ rfl; refine AO.step ?_) | fail) | fail) | ((with_reducible apply iEnt); first | exact Ent.nil | ((with_reducible apply iERow); refine Ent.row ?_ ?_) | ((with_reducible apply iEBox); first | refine Ent.box ?_ ?_ | refine Ent.box2 ?_ ?_) | ((with_reducible apply iEBlk); refine Ent.blk ?_ ?_) | ((with_reducible apply iEPure); refine Ent.pure ?_ ?_) | ((with_reducible apply iERdR); first | refine Ent.rdR ?_ | refine Ent.any ?_ | fail) | refine Ent.any ?_ | with_reducible exact Ent.refl | fail) | ((with_reducible apply iEq); with_reducible rfl) | fail)
  all_goals try (exfalso; omega)
  rename_i u _ _
  subst hG
  refine J.retX (ends u trivial ?_ (xENT))
  rfl
theorem inLine_eq (n : Nat) (f t : Int) : inLine n f t = (inR f 0 n && inR t f n) := by
  unfold inLine inR
  rw [Bool.eq_iff_iff]
  simp only [Bool.and_eq_true, decide_eq_true_eq]
  omega
set_option maxRecDepth 100000 in
set_option maxHeartbeats 8000000 in
theorem iCut_c (p : Para) (v : Value) (f t : Int) (ht : p.text.length ≤ 10000000) (hs : p.spans.length ≤ 1100000) : Spec Tryz.prog 6 [pv p v, .int .i64 f, .int .i64 t] [rd eSpan v p.spans, tabs] [] (fun u : Value => .tuple #[pv ((sCut p f t).getD zPara) u, .bool (sCut p f t).isSome])
    (fun u => [row eSpan 98 u ((sCut p f t).getD zPara).spans]) (fun _ => True) := by
  refine Spec.mk Tryz.func6 rfl Tryz.ntmps6 rfl ?_
  intro w0 O hR hS0
  have hr := hR _ List.mem_cons_self
  have hr2 := hR _ (List.mem_cons_of_mem _ List.mem_cons_self); clear hR hS0
  obtain ⟨g, hg⟩ : ∃ g, sCut p f t = g := ⟨_, rfl⟩
  rw [hg]
  by_cases hk : sCheck p = 0
  · cases h : iGet p.text with
    | none =>
      exfalso
      simp only [sCheck, h] at hk
      exact absurd hk (by decide)
    | some xs =>
      have hR := readOk_c p v xs ht hk h hs
      cases hl : inLine xs.length f t with
      | false =>
        have hC := fun q => cutNo_c p q xs f t hl
        obtain rfl : g = none := by
          rw [inLine_eq] at hl
          rw [← hg]
          simp only [sCut, h, hk, decide_true, Bool.true_and, hl]
        repeat' (first | ((with_reducible apply iOJ); first | ((with_reducible apply iOp); refine OJ.p ?_) | with_reducible apply OJ.nil | ((with_reducible apply iOg); first | refine OJ.guardY ?_ | refine OJ.guardN ?_ | refine OJ.guardNd ?_ | refine OJ.guardU ?_ | refine OJ.guardS (fun _ => ?_) (fun _ => ?_) | fail) | ((with_reducible apply iOstore); first | (refine OJ.as AS.store ?_; rintro _ _ rfl) | (refine OJ.as AS.storeA ?_; rintro _ _ rfl) | (refine OJ.as AS.storeAV ?_; rintro _ _ rfl) | (refine OJ.as AS.storeE ?_; rintro _ _ rfl) | (refine OJ.as AS.storeEA ?_; rintro _ _ rfl) | fail) | ((with_reducible apply iOcall); first | (refine OJ.as AS.append1 ?_; rintro _ _ rfl) | (refine OJ.as AS.append ?_; rintro _ _ rfl) | (refine OJ.as (AS.call3 (hR)) ?_; rotate_right; rintro _ _ ⟨y, hy, rfl, rfl⟩) | (refine OJ.as (AS.call1 (hC _)) ?_; rotate_right; rintro _ _ ⟨y, hy, rfl, rfl⟩) | fail) | ((with_reducible apply iObox); first | (refine OJ.as AS.box1 ?_; rintro _ _ ⟨_, rfl, rfl⟩) | (refine OJ.as AS.boxA ?_; rintro _ _ ⟨_, rfl, rfl⟩) | fail) | ((with_reducible apply iOalloc); first | (refine OJ.as AS.alloc ?_; rintro _ _ ⟨_, rfl, rfl⟩) | fail) | ((with_reducible apply iObuildSlice); first | (refine OJ.as AS.buildSlice ?_; rintro _ _ ⟨_, rfl, rfl⟩) | fail) | ((with_reducible apply iOmakeSlice); first | (refine OJ.as AS.makeSlice ?_; rintro _ _ rfl) | fail) | ((with_reducible apply iOmakeMap); first | (refine OJ.as AS.makeMap ?_; rintro _ _ ⟨_, rfl, rfl⟩) | fail) | ((with_reducible apply iOmapEntry); first | (refine OJ.as AS.mapEntry ?_; rintro _ _ ⟨_, _, rfl, rfl⟩) | fail) | ((with_reducible apply iOentryStore); first | (refine OJ.as AS.entryStore ?_; rintro _ _ rfl) | fail) | refine OJ.unboxP fun _ => ?_ | fail) | ((with_reducible apply iJ); first | refine J.seq ?_ | refine J.region ?_ | refine J.block ?_ | refine J.skip ?_ | refine J.exit ?_ | refine J.condT ?_ | refine J.condF ?_ | refine J.cond (fun _ => ?_) (fun _ => ?_) | refine J.retX (ends _ trivial rfl ?_) | fail) | ((with_reducible apply iJK); first | refine JK.code ?_ | refine JK.blk ?_ | refine JK.loop ?_ | refine JK.begin ?_ | refine JK.more ?_ | fail) | ((with_reducible apply iEnt); first | exact Ent.nil | ((with_reducible apply iERow); refine Ent.row ?_ ?_) | ((with_reducible apply iEBox); first | refine Ent.box ?_ ?_ | refine Ent.box2 ?_ ?_) | ((with_reducible apply iEBlk); refine Ent.blk ?_ ?_) | ((with_reducible apply iEPure); refine Ent.pure ?_ ?_) | ((with_reducible apply iERdR); first | refine Ent.rdR ?_ | refine Ent.any ?_ | fail) | refine Ent.any ?_ | with_reducible exact Ent.refl | fail) | ((with_reducible apply iEq); with_reducible rfl) | fail)
        all_goals rfl
      | true =>
        have hC := fun q => cutYes_c p q xs f t hl (iGet_len h) _ (iMake_eq _ _ _)
        obtain ⟨G, hG2⟩ : ∃ G, sMake p (xs.take f.toNat ++ xs.drop t.toNat) (sSpansMove p.spans xs.length f (f - t)) = G := ⟨_, rfl⟩
        rw [hG2] at hC
        obtain rfl : g = some G := by
          rw [inLine_eq] at hl
          rw [← hg, ← hG2]
          simp only [sCut, h, hk, decide_true, Bool.true_and, hl]
        repeat' (first | ((with_reducible apply iOJ); first | ((with_reducible apply iOp); refine OJ.p ?_) | with_reducible apply OJ.nil | ((with_reducible apply iOg); first | refine OJ.guardY ?_ | refine OJ.guardN ?_ | refine OJ.guardNd ?_ | refine OJ.guardU ?_ | refine OJ.guardS (fun _ => ?_) (fun _ => ?_) | fail) | ((with_reducible apply iOstore); first | (refine OJ.as AS.store ?_; rintro _ _ rfl) | (refine OJ.as AS.storeA ?_; rintro _ _ rfl) | (refine OJ.as AS.storeAV ?_; rintro _ _ rfl) | (refine OJ.as AS.storeE ?_; rintro _ _ rfl) | (refine OJ.as AS.storeEA ?_; rintro _ _ rfl) | fail) | ((with_reducible apply iOcall); first | (refine OJ.as AS.append1 ?_; rintro _ _ rfl) | (refine OJ.as AS.append ?_; rintro _ _ rfl) | (refine OJ.as (AS.call3 (hR)) ?_; rotate_right; rintro _ _ ⟨y, hy, rfl, rfl⟩) | (refine OJ.as (AS.call1 (hC _)) ?_; rotate_right; rintro _ _ ⟨y, hy, rfl, rfl⟩) | fail) | ((with_reducible apply iObox); first | (refine OJ.as AS.box1 ?_; rintro _ _ ⟨_, rfl, rfl⟩) | (refine OJ.as AS.boxA ?_; rintro _ _ ⟨_, rfl, rfl⟩) | fail) | ((with_reducible apply iOalloc); first | (refine OJ.as AS.alloc ?_; rintro _ _ ⟨_, rfl, rfl⟩) | fail) | ((with_reducible apply iObuildSlice); first | (refine OJ.as AS.buildSlice ?_; rintro _ _ ⟨_, rfl, rfl⟩) | fail) | ((with_reducible apply iOmakeSlice); first | (refine OJ.as AS.makeSlice ?_; rintro _ _ rfl) | fail) | ((with_reducible apply iOmakeMap); first | (refine OJ.as AS.makeMap ?_; rintro _ _ ⟨_, rfl, rfl⟩) | fail) | ((with_reducible apply iOmapEntry); first | (refine OJ.as AS.mapEntry ?_; rintro _ _ ⟨_, _, rfl, rfl⟩) | fail) | ((with_reducible apply iOentryStore); first | (refine OJ.as AS.entryStore ?_; rintro _ _ rfl) | fail) | refine OJ.unboxP fun _ => ?_ | fail) | ((with_reducible apply iJ); first | refine J.seq ?_ | refine J.region ?_ | refine J.block ?_ | refine J.skip ?_ | refine J.exit ?_ | refine J.condT ?_ | refine J.condF ?_ | refine J.cond (fun _ => ?_) (fun _ => ?_) | refine J.retX (ends _ trivial rfl ?_) | fail) | ((with_reducible apply iJK); first | refine JK.code ?_ | refine JK.blk ?_ | refine JK.loop ?_ | refine JK.begin ?_ | refine JK.more ?_ | fail) | ((with_reducible apply iEnt); first | exact Ent.nil | ((with_reducible apply iERow); refine Ent.row ?_ ?_) | ((with_reducible apply iEBox); first | refine Ent.box ?_ ?_ | refine Ent.box2 ?_ ?_) | ((with_reducible apply iEBlk); refine Ent.blk ?_ ?_) | ((with_reducible apply iEPure); refine Ent.pure ?_ ?_) | ((with_reducible apply iERdR); first | refine Ent.rdR ?_ | refine Ent.any ?_ | fail) | refine Ent.any ?_ | with_reducible exact Ent.refl | fail) | ((with_reducible apply iEq); with_reducible rfl) | fail)
        all_goals rfl
  · have hR := readBad_c p v ht hk
    obtain rfl : g = none := by
      rw [← hg]
      unfold sCut
      rw [decide_eq_false hk]
      cases iGet p.text <;> rfl
    repeat' (first | ((with_reducible apply iOJ); first | ((with_reducible apply iOp); refine OJ.p ?_) | with_reducible apply OJ.nil | ((with_reducible apply iOg); first | refine OJ.guardY ?_ | refine OJ.guardN ?_ | refine OJ.guardNd ?_ | refine OJ.guardU ?_ | refine OJ.guardS (fun _ => ?_) (fun _ => ?_) | fail) | ((with_reducible apply iOstore); first | (refine OJ.as AS.store ?_; rintro _ _ rfl) | (refine OJ.as AS.storeA ?_; rintro _ _ rfl) | (refine OJ.as AS.storeAV ?_; rintro _ _ rfl) | (refine OJ.as AS.storeE ?_; rintro _ _ rfl) | (refine OJ.as AS.storeEA ?_; rintro _ _ rfl) | fail) | ((with_reducible apply iOcall); first | (refine OJ.as AS.append1 ?_; rintro _ _ rfl) | (refine OJ.as AS.append ?_; rintro _ _ rfl) | (refine OJ.as (AS.call0 (hR)) ?_; rotate_right; rintro _ _ ⟨y, hy, rfl, rfl⟩) | fail) | ((with_reducible apply iObox); first | (refine OJ.as AS.box1 ?_; rintro _ _ ⟨_, rfl, rfl⟩) | (refine OJ.as AS.boxA ?_; rintro _ _ ⟨_, rfl, rfl⟩) | fail) | ((with_reducible apply iOalloc); first | (refine OJ.as AS.alloc ?_; rintro _ _ ⟨_, rfl, rfl⟩) | fail) | ((with_reducible apply iObuildSlice); first | (refine OJ.as AS.buildSlice ?_; rintro _ _ ⟨_, rfl, rfl⟩) | fail) | ((with_reducible apply iOmakeSlice); first | (refine OJ.as AS.makeSlice ?_; rintro _ _ rfl) | fail) | ((with_reducible apply iOmakeMap); first | (refine OJ.as AS.makeMap ?_; rintro _ _ ⟨_, rfl, rfl⟩) | fail) | ((with_reducible apply iOmapEntry); first | (refine OJ.as AS.mapEntry ?_; rintro _ _ ⟨_, _, rfl, rfl⟩) | fail) | ((with_reducible apply iOentryStore); first | (refine OJ.as AS.entryStore ?_; rintro _ _ rfl) | fail) | refine OJ.unboxP fun _ => ?_ | fail) | ((with_reducible apply iJ); first | refine J.seq ?_ | refine J.region ?_ | refine J.block ?_ | refine J.skip ?_ | refine J.exit ?_ | refine J.condT ?_ | refine J.condF ?_ | refine J.cond (fun _ => ?_) (fun _ => ?_) | refine J.retX (ends _ trivial rfl ?_) | fail) | ((with_reducible apply iJK); first | refine JK.code ?_ | refine JK.blk ?_ | refine JK.loop ?_ | refine JK.begin ?_ | refine JK.more ?_ | fail) | ((with_reducible apply iEnt); first | exact Ent.nil | ((with_reducible apply iERow); refine Ent.row ?_ ?_) | ((with_reducible apply iEBox); first | refine Ent.box ?_ ?_ | refine Ent.box2 ?_ ?_) | ((with_reducible apply iEBlk); refine Ent.blk ?_ ?_) | ((with_reducible apply iEPure); refine Ent.pure ?_ ?_) | ((with_reducible apply iERdR); first | refine Ent.rdR ?_ | refine Ent.any ?_ | fail) | refine Ent.any ?_ | with_reducible exact Ent.refl | fail) | ((with_reducible apply iEq); with_reducible rfl) | fail)
    all_goals rfl
end Go.SL

/- impl.ParaPut. -/
set_option linter.unusedVariables false
set_option linter.unusedSimpArgs false
namespace Go.SL
open Go.RowKit Go.Proofs
instance (xs zs : List Int) (i : Int) : Decidable (inPut xs zs i) := by unfold inPut; infer_instance
theorem sPutP_eq (p : Para) (i : Int) (l : List UInt8) (xs zs : List Int) (h : iGet p.text = some xs) (h' : iGet l = some zs) (hk : sCheck p = 0) : sPutP p i l = if inPut xs zs i then some (iMake p (xs.take i.toNat ++ zs ++ xs.drop i.toNat) (sSpansMove p.spans xs.length i zs.length)) else none := by
  have e : (decide (sCheck p = 0) && inR i 0 xs.length && !decide (xs.length + zs.length > 80)) = decide (inPut xs zs i) := by
    rw [hk, decide_eq_true (show (0 : Int) = 0 from rfl), Bool.true_and, Bool.eq_iff_iff, decide_eq_true_eq, Bool.and_eq_true, Bool.not_eq_true', decide_eq_false_iff_not]
    have e1 : inR i 0 xs.length = true ↔ 0 ≤ i ∧ i ≤ xs.length := by simp [inR]
    rw [e1]
    unfold inPut
    omega
  simp only [sPutP, h, h', e, iMake_eq]
  by_cases hp : inPut xs zs i
  · rw [if_pos hp, decide_eq_true hp]
  · rw [if_neg hp, decide_eq_false hp]
set_option maxRecDepth 100000 in
set_option maxHeartbeats 8000000 in
theorem iPutP_c (p : Para) (v : Value) (i : Int) (l : List UInt8) (ht : p.text.length ≤ 10000000) (hl : l.length ≤ 10000000) (hs : p.spans.length ≤ 1100000) : Spec Tryz.prog 17 [pv p v, .int .i64 i, sv l] [rd eSpan v p.spans, tabs] [] (fun u : Value => .tuple #[pv ((sPutP p i l).getD zPara) u, .bool (sPutP p i l).isSome])
    (fun u => [row eSpan 98 u ((sPutP p i l).getD zPara).spans]) (fun _ => True) := by
  refine Spec.mk Tryz.func17 rfl Tryz.ntmps17 rfl ?_
  intro w0 O hR hS0
  have hr := hR _ List.mem_cons_self
  have hr2 := hR _ (List.mem_cons_of_mem _ List.mem_cons_self); clear hR hS0
  obtain ⟨g, hg⟩ : ∃ g, sPutP p i l = g := ⟨_, rfl⟩
  rw [hg]
  have hH := iGet_c l hl
  by_cases hk : sCheck p = 0
  · cases h : iGet p.text with
    | none =>
      exfalso
      simp only [sCheck, h] at hk
      exact absurd hk (by decide)
    | some xs =>
      have hR := readOk_c p v xs ht hk h hs
      cases h' : iGet l with
      | none =>
        rw [h'] at hH
        dsimp only [Option.isSome, Option.getD] at hH
        obtain rfl : g = none := by
          rw [← hg]
          simp only [sPutP, h, h']
        repeat' (first | ((with_reducible apply iOJ); first | ((with_reducible apply iOp); refine OJ.p ?_) | with_reducible apply OJ.nil | ((with_reducible apply iOg); first | refine OJ.guardY ?_ | refine OJ.guardN ?_ | refine OJ.guardNd ?_ | refine OJ.guardU ?_ | refine OJ.guardS (fun _ => ?_) (fun _ => ?_) | fail) | ((with_reducible apply iOstore); first | (refine OJ.as AS.store ?_; rintro _ _ rfl) | (refine OJ.as AS.storeA ?_; rintro _ _ rfl) | (refine OJ.as AS.storeAV ?_; rintro _ _ rfl) | (refine OJ.as AS.storeE ?_; rintro _ _ rfl) | (refine OJ.as AS.storeEA ?_; rintro _ _ rfl) | fail) | ((with_reducible apply iOcall); first | (refine OJ.as AS.append1 ?_; rintro _ _ rfl) | (refine OJ.as AS.append ?_; rintro _ _ rfl) | (refine OJ.as (AS.call3 (hR)) ?_; rotate_right; rintro _ _ ⟨y, hy, rfl, rfl⟩) | (refine OJ.as (AS.call1 (hH)) ?_; rotate_right; rintro _ _ ⟨y, hy, rfl, rfl⟩) | fail) | ((with_reducible apply iObox); first | (refine OJ.as AS.box1 ?_; rintro _ _ ⟨_, rfl, rfl⟩) | (refine OJ.as AS.boxA ?_; rintro _ _ ⟨_, rfl, rfl⟩) | fail) | ((with_reducible apply iOalloc); first | (refine OJ.as AS.alloc ?_; rintro _ _ ⟨_, rfl, rfl⟩) | fail) | ((with_reducible apply iObuildSlice); first | (refine OJ.as AS.buildSlice ?_; rintro _ _ ⟨_, rfl, rfl⟩) | fail) | ((with_reducible apply iOmakeSlice); first | (refine OJ.as AS.makeSlice ?_; rintro _ _ rfl) | fail) | ((with_reducible apply iOmakeMap); first | (refine OJ.as AS.makeMap ?_; rintro _ _ ⟨_, rfl, rfl⟩) | fail) | ((with_reducible apply iOmapEntry); first | (refine OJ.as AS.mapEntry ?_; rintro _ _ ⟨_, _, rfl, rfl⟩) | fail) | ((with_reducible apply iOentryStore); first | (refine OJ.as AS.entryStore ?_; rintro _ _ rfl) | fail) | refine OJ.unboxP fun _ => ?_ | fail) | ((with_reducible apply iJ); first | refine J.seq ?_ | refine J.region ?_ | refine J.block ?_ | refine J.skip ?_ | refine J.exit ?_ | refine J.condT ?_ | refine J.condF ?_ | refine J.cond (fun _ => ?_) (fun _ => ?_) | refine J.retX (ends _ trivial rfl ?_) | fail) | ((with_reducible apply iJK); first | refine JK.code ?_ | refine JK.blk ?_ | refine JK.loop ?_ | refine JK.begin ?_ | refine JK.more ?_ | fail) | ((with_reducible apply iEnt); first | exact Ent.nil | ((with_reducible apply iERow); refine Ent.row ?_ ?_) | ((with_reducible apply iEBox); first | refine Ent.box ?_ ?_ | refine Ent.box2 ?_ ?_) | ((with_reducible apply iEBlk); refine Ent.blk ?_ ?_) | ((with_reducible apply iEPure); refine Ent.pure ?_ ?_) | ((with_reducible apply iERdR); first | refine Ent.rdR ?_ | refine Ent.any ?_ | fail) | refine Ent.any ?_ | with_reducible exact Ent.refl | fail) | ((with_reducible apply iEq); with_reducible rfl) | fail)
        all_goals rfl
      | some zs =>
        rw [h'] at hH
        dsimp only [Option.isSome, Option.getD] at hH
        rw [sPutP_eq p i l xs zs h h' hk] at hg
        by_cases hp : inPut xs zs i
        · rw [if_pos hp] at hg
          have hC := fun q vm => putYes_c p q xs zs vm i hp _ rfl
          obtain ⟨G, hG2⟩ : ∃ G, iMake p (xs.take i.toNat ++ zs ++ xs.drop i.toNat) (sSpansMove p.spans xs.length i zs.length) = G := ⟨_, rfl⟩
          rw [hG2] at hC hg
          subst hg
          repeat' (first | ((with_reducible apply iOJ); first | ((with_reducible apply iOp); refine OJ.p ?_) | with_reducible apply OJ.nil | ((with_reducible apply iOg); first | refine OJ.guardY ?_ | refine OJ.guardN ?_ | refine OJ.guardNd ?_ | refine OJ.guardU ?_ | refine OJ.guardS (fun _ => ?_) (fun _ => ?_) | fail) | ((with_reducible apply iOstore); first | (refine OJ.as AS.store ?_; rintro _ _ rfl) | (refine OJ.as AS.storeA ?_; rintro _ _ rfl) | (refine OJ.as AS.storeAV ?_; rintro _ _ rfl) | (refine OJ.as AS.storeE ?_; rintro _ _ rfl) | (refine OJ.as AS.storeEA ?_; rintro _ _ rfl) | fail) | ((with_reducible apply iOcall); first | (refine OJ.as AS.append1 ?_; rintro _ _ rfl) | (refine OJ.as AS.append ?_; rintro _ _ rfl) | (refine OJ.as (AS.call3 (hR)) ?_; rotate_right; rintro _ _ ⟨y, hy, rfl, rfl⟩) | (refine OJ.as (AS.call1 (hH)) ?_; rotate_right; rintro _ _ ⟨y, hy, rfl, rfl⟩) | (refine OJ.as (AS.call1 (hC _ _) (hL := Parts.cons (xPK) (Parts.cons (xPK) (Parts.cons (xPK) (Parts.cons (xPK) Parts.nil))))) ?_; rotate_right; rintro _ _ ⟨y, hy, rfl, rfl⟩) | fail) | ((with_reducible apply iObox); first | (refine OJ.as AS.box1 ?_; rintro _ _ ⟨_, rfl, rfl⟩) | (refine OJ.as AS.boxA ?_; rintro _ _ ⟨_, rfl, rfl⟩) | fail) | ((with_reducible apply iOalloc); first | (refine OJ.as AS.alloc ?_; rintro _ _ ⟨_, rfl, rfl⟩) | fail) | ((with_reducible apply iObuildSlice); first | (refine OJ.as AS.buildSlice ?_; rintro _ _ ⟨_, rfl, rfl⟩) | fail) | ((with_reducible apply iOmakeSlice); first | (refine OJ.as AS.makeSlice ?_; rintro _ _ rfl) | fail) | ((with_reducible apply iOmakeMap); first | (refine OJ.as AS.makeMap ?_; rintro _ _ ⟨_, rfl, rfl⟩) | fail) | ((with_reducible apply iOmapEntry); first | (refine OJ.as AS.mapEntry ?_; rintro _ _ ⟨_, _, rfl, rfl⟩) | fail) | ((with_reducible apply iOentryStore); first | (refine OJ.as AS.entryStore ?_; rintro _ _ rfl) | fail) | refine OJ.unboxP fun _ => ?_ | fail) | ((with_reducible apply iJ); first | refine J.seq ?_ | refine J.region ?_ | refine J.block ?_ | refine J.skip ?_ | refine J.exit ?_ | refine J.condT ?_ | refine J.condF ?_ | refine J.cond (fun _ => ?_) (fun _ => ?_) | refine J.retX (ends _ trivial rfl ?_) | fail) | ((with_reducible apply iJK); first | refine JK.code ?_ | refine JK.blk ?_ | refine JK.loop ?_ | refine JK.begin ?_ | refine JK.more ?_ | fail) | ((with_reducible apply iEnt); first | exact Ent.nil | ((with_reducible apply iERow); refine Ent.row ?_ ?_) | ((with_reducible apply iEBox); first | refine Ent.box ?_ ?_ | refine Ent.box2 ?_ ?_) | ((with_reducible apply iEBlk); refine Ent.blk ?_ ?_) | ((with_reducible apply iEPure); refine Ent.pure ?_ ?_) | ((with_reducible apply iERdR); first | refine Ent.rdR ?_ | refine Ent.any ?_ | fail) | refine Ent.any ?_ | with_reducible exact Ent.refl | fail) | ((with_reducible apply iEq); with_reducible rfl) | fail)
          all_goals rfl
        · rw [if_neg hp] at hg
          have hC := fun q vm => putNo_c p q xs zs vm i hp (iGet_len h) (iGet_len h')
          subst hg
          repeat' (first | ((with_reducible apply iOJ); first | ((with_reducible apply iOp); refine OJ.p ?_) | with_reducible apply OJ.nil | ((with_reducible apply iOg); first | refine OJ.guardY ?_ | refine OJ.guardN ?_ | refine OJ.guardNd ?_ | refine OJ.guardU ?_ | refine OJ.guardS (fun _ => ?_) (fun _ => ?_) | fail) | ((with_reducible apply iOstore); first | (refine OJ.as AS.store ?_; rintro _ _ rfl) | (refine OJ.as AS.storeA ?_; rintro _ _ rfl) | (refine OJ.as AS.storeAV ?_; rintro _ _ rfl) | (refine OJ.as AS.storeE ?_; rintro _ _ rfl) | (refine OJ.as AS.storeEA ?_; rintro _ _ rfl) | fail) | ((with_reducible apply iOcall); first | (refine OJ.as AS.append1 ?_; rintro _ _ rfl) | (refine OJ.as AS.append ?_; rintro _ _ rfl) | (refine OJ.as (AS.call3 (hR)) ?_; rotate_right; rintro _ _ ⟨y, hy, rfl, rfl⟩) | (refine OJ.as (AS.call1 (hH)) ?_; rotate_right; rintro _ _ ⟨y, hy, rfl, rfl⟩) | (refine OJ.as (AS.call1 (hC _ _) (hL := Parts.cons (xPK) (Parts.cons (xPK) (Parts.cons (xPK) (Parts.cons (xPK) Parts.nil))))) ?_; rotate_right; rintro _ _ ⟨y, hy, rfl, rfl⟩) | fail) | ((with_reducible apply iObox); first | (refine OJ.as AS.box1 ?_; rintro _ _ ⟨_, rfl, rfl⟩) | (refine OJ.as AS.boxA ?_; rintro _ _ ⟨_, rfl, rfl⟩) | fail) | ((with_reducible apply iOalloc); first | (refine OJ.as AS.alloc ?_; rintro _ _ ⟨_, rfl, rfl⟩) | fail) | ((with_reducible apply iObuildSlice); first | (refine OJ.as AS.buildSlice ?_; rintro _ _ ⟨_, rfl, rfl⟩) | fail) | ((with_reducible apply iOmakeSlice); first | (refine OJ.as AS.makeSlice ?_; rintro _ _ rfl) | fail) | ((with_reducible apply iOmakeMap); first | (refine OJ.as AS.makeMap ?_; rintro _ _ ⟨_, rfl, rfl⟩) | fail) | ((with_reducible apply iOmapEntry); first | (refine OJ.as AS.mapEntry ?_; rintro _ _ ⟨_, _, rfl, rfl⟩) | fail) | ((with_reducible apply iOentryStore); first | (refine OJ.as AS.entryStore ?_; rintro _ _ rfl) | fail) | refine OJ.unboxP fun _ => ?_ | fail) | ((with_reducible apply iJ); first | refine J.seq ?_ | refine J.region ?_ | refine J.block ?_ | refine J.skip ?_ | refine J.exit ?_ | refine J.condT ?_ | refine J.condF ?_ | refine J.cond (fun _ => ?_) (fun _ => ?_) | refine J.retX (ends _ trivial rfl ?_) | fail) | ((with_reducible apply iJK); first | refine JK.code ?_ | refine JK.blk ?_ | refine JK.loop ?_ | refine JK.begin ?_ | refine JK.more ?_ | fail) | ((with_reducible apply iEnt); first | exact Ent.nil | ((with_reducible apply iERow); refine Ent.row ?_ ?_) | ((with_reducible apply iEBox); first | refine Ent.box ?_ ?_ | refine Ent.box2 ?_ ?_) | ((with_reducible apply iEBlk); refine Ent.blk ?_ ?_) | ((with_reducible apply iEPure); refine Ent.pure ?_ ?_) | ((with_reducible apply iERdR); first | refine Ent.rdR ?_ | refine Ent.any ?_ | fail) | refine Ent.any ?_ | with_reducible exact Ent.refl | fail) | ((with_reducible apply iEq); with_reducible rfl) | fail)
          all_goals rfl
  · have hR := readBad_c p v ht hk
    obtain rfl : g = none := by
      rw [← hg]
      unfold sPutP
      rw [decide_eq_false hk]
      cases iGet p.text <;> cases iGet l <;> rfl
    cases h' : iGet l with
    | none =>
      rw [h'] at hH
      dsimp only [Option.isSome, Option.getD] at hH
      repeat' (first | ((with_reducible apply iOJ); first | ((with_reducible apply iOp); refine OJ.p ?_) | with_reducible apply OJ.nil | ((with_reducible apply iOg); first | refine OJ.guardY ?_ | refine OJ.guardN ?_ | refine OJ.guardNd ?_ | refine OJ.guardU ?_ | refine OJ.guardS (fun _ => ?_) (fun _ => ?_) | fail) | ((with_reducible apply iOstore); first | (refine OJ.as AS.store ?_; rintro _ _ rfl) | (refine OJ.as AS.storeA ?_; rintro _ _ rfl) | (refine OJ.as AS.storeAV ?_; rintro _ _ rfl) | (refine OJ.as AS.storeE ?_; rintro _ _ rfl) | (refine OJ.as AS.storeEA ?_; rintro _ _ rfl) | fail) | ((with_reducible apply iOcall); first | (refine OJ.as AS.append1 ?_; rintro _ _ rfl) | (refine OJ.as AS.append ?_; rintro _ _ rfl) | (refine OJ.as (AS.call0 (hR)) ?_; rotate_right; rintro _ _ ⟨y, hy, rfl, rfl⟩) | (refine OJ.as (AS.call1 (hH)) ?_; rotate_right; rintro _ _ ⟨y, hy, rfl, rfl⟩) | fail) | ((with_reducible apply iObox); first | (refine OJ.as AS.box1 ?_; rintro _ _ ⟨_, rfl, rfl⟩) | (refine OJ.as AS.boxA ?_; rintro _ _ ⟨_, rfl, rfl⟩) | fail) | ((with_reducible apply iOalloc); first | (refine OJ.as AS.alloc ?_; rintro _ _ ⟨_, rfl, rfl⟩) | fail) | ((with_reducible apply iObuildSlice); first | (refine OJ.as AS.buildSlice ?_; rintro _ _ ⟨_, rfl, rfl⟩) | fail) | ((with_reducible apply iOmakeSlice); first | (refine OJ.as AS.makeSlice ?_; rintro _ _ rfl) | fail) | ((with_reducible apply iOmakeMap); first | (refine OJ.as AS.makeMap ?_; rintro _ _ ⟨_, rfl, rfl⟩) | fail) | ((with_reducible apply iOmapEntry); first | (refine OJ.as AS.mapEntry ?_; rintro _ _ ⟨_, _, rfl, rfl⟩) | fail) | ((with_reducible apply iOentryStore); first | (refine OJ.as AS.entryStore ?_; rintro _ _ rfl) | fail) | refine OJ.unboxP fun _ => ?_ | fail) | ((with_reducible apply iJ); first | refine J.seq ?_ | refine J.region ?_ | refine J.block ?_ | refine J.skip ?_ | refine J.exit ?_ | refine J.condT ?_ | refine J.condF ?_ | refine J.cond (fun _ => ?_) (fun _ => ?_) | refine J.retX (ends _ trivial rfl ?_) | fail) | ((with_reducible apply iJK); first | refine JK.code ?_ | refine JK.blk ?_ | refine JK.loop ?_ | refine JK.begin ?_ | refine JK.more ?_ | fail) | ((with_reducible apply iEnt); first | exact Ent.nil | ((with_reducible apply iERow); refine Ent.row ?_ ?_) | ((with_reducible apply iEBox); first | refine Ent.box ?_ ?_ | refine Ent.box2 ?_ ?_) | ((with_reducible apply iEBlk); refine Ent.blk ?_ ?_) | ((with_reducible apply iEPure); refine Ent.pure ?_ ?_) | ((with_reducible apply iERdR); first | refine Ent.rdR ?_ | refine Ent.any ?_ | fail) | refine Ent.any ?_ | with_reducible exact Ent.refl | fail) | ((with_reducible apply iEq); with_reducible rfl) | fail)
      all_goals rfl
    | some zs =>
      rw [h'] at hH
      dsimp only [Option.isSome, Option.getD] at hH
      repeat' (first | ((with_reducible apply iOJ); first | ((with_reducible apply iOp); refine OJ.p ?_) | with_reducible apply OJ.nil | ((with_reducible apply iOg); first | refine OJ.guardY ?_ | refine OJ.guardN ?_ | refine OJ.guardNd ?_ | refine OJ.guardU ?_ | refine OJ.guardS (fun _ => ?_) (fun _ => ?_) | fail) | ((with_reducible apply iOstore); first | (refine OJ.as AS.store ?_; rintro _ _ rfl) | (refine OJ.as AS.storeA ?_; rintro _ _ rfl) | (refine OJ.as AS.storeAV ?_; rintro _ _ rfl) | (refine OJ.as AS.storeE ?_; rintro _ _ rfl) | (refine OJ.as AS.storeEA ?_; rintro _ _ rfl) | fail) | ((with_reducible apply iOcall); first | (refine OJ.as AS.append1 ?_; rintro _ _ rfl) | (refine OJ.as AS.append ?_; rintro _ _ rfl) | (refine OJ.as (AS.call0 (hR)) ?_; rotate_right; rintro _ _ ⟨y, hy, rfl, rfl⟩) | (refine OJ.as (AS.call1 (hH)) ?_; rotate_right; rintro _ _ ⟨y, hy, rfl, rfl⟩) | fail) | ((with_reducible apply iObox); first | (refine OJ.as AS.box1 ?_; rintro _ _ ⟨_, rfl, rfl⟩) | (refine OJ.as AS.boxA ?_; rintro _ _ ⟨_, rfl, rfl⟩) | fail) | ((with_reducible apply iOalloc); first | (refine OJ.as AS.alloc ?_; rintro _ _ ⟨_, rfl, rfl⟩) | fail) | ((with_reducible apply iObuildSlice); first | (refine OJ.as AS.buildSlice ?_; rintro _ _ ⟨_, rfl, rfl⟩) | fail) | ((with_reducible apply iOmakeSlice); first | (refine OJ.as AS.makeSlice ?_; rintro _ _ rfl) | fail) | ((with_reducible apply iOmakeMap); first | (refine OJ.as AS.makeMap ?_; rintro _ _ ⟨_, rfl, rfl⟩) | fail) | ((with_reducible apply iOmapEntry); first | (refine OJ.as AS.mapEntry ?_; rintro _ _ ⟨_, _, rfl, rfl⟩) | fail) | ((with_reducible apply iOentryStore); first | (refine OJ.as AS.entryStore ?_; rintro _ _ rfl) | fail) | refine OJ.unboxP fun _ => ?_ | fail) | ((with_reducible apply iJ); first | refine J.seq ?_ | refine J.region ?_ | refine J.block ?_ | refine J.skip ?_ | refine J.exit ?_ | refine J.condT ?_ | refine J.condF ?_ | refine J.cond (fun _ => ?_) (fun _ => ?_) | refine J.retX (ends _ trivial rfl ?_) | fail) | ((with_reducible apply iJK); first | refine JK.code ?_ | refine JK.blk ?_ | refine JK.loop ?_ | refine JK.begin ?_ | refine JK.more ?_ | fail) | ((with_reducible apply iEnt); first | exact Ent.nil | ((with_reducible apply iERow); refine Ent.row ?_ ?_) | ((with_reducible apply iEBox); first | refine Ent.box ?_ ?_ | refine Ent.box2 ?_ ?_) | ((with_reducible apply iEBlk); refine Ent.blk ?_ ?_) | ((with_reducible apply iEPure); refine Ent.pure ?_ ?_) | ((with_reducible apply iERdR); first | refine Ent.rdR ?_ | refine Ent.any ?_ | fail) | refine Ent.any ?_ | with_reducible exact Ent.refl | fail) | ((with_reducible apply iEq); with_reducible rfl) | fail)
      all_goals rfl
end Go.SL

/- impl.lookAt, SpanAt, SpansPlain; laws.wcIn, wcSpans. -/
set_option linter.unusedVariables false
set_option linter.unusedSimpArgs false
namespace Go.SL
open Go.RowKit Go.Proofs
def iLookAt (n : Int) : List Span → Look
  | [] => ⟨10, 0⟩
  | s :: l => match decide (s.fr ≤ n) && decide (n < s.to) with
    | true => ⟨s.size, s.mark⟩
    | false => iLookAt n l
set_option maxRecDepth 100000 in
set_option maxHeartbeats 4000000 in
theorem lookAt_c (v : Value) (l : List Span) (n : Int) : Spec Tryz.prog 155 [v, .int .i64 n] [rd eSpan v l] [] (fun _ : Unit => .agg #[.int .i64 (iLookAt n l).size, .int .i64 (iLookAt n l).mark]) (fun _ => []) (fun _ => True) := by
  refine Spec.mk Tryz.func155 rfl Tryz.ntmps155 rfl ?_
  intro w0 O hR hS0
  have hr := hR _ List.mem_cons_self; clear hR
  have hb := rd_bd (hr.h w0 hS0); clear hS0
  repeat' (first | ((with_reducible apply iOJ); first | ((with_reducible apply iOp); refine OJ.p ?_) | with_reducible apply OJ.nil | ((with_reducible apply iOg); first | refine OJ.guardY ?_ | refine OJ.guardN ?_ | refine OJ.guardNd ?_ | refine OJ.guardU ?_ | refine OJ.guardS (fun _ => ?_) (fun _ => ?_) | fail) | ((with_reducible apply iOstore); first | (refine OJ.as AS.store ?_; rintro _ _ rfl) | (refine OJ.as AS.storeA ?_; rintro _ _ rfl) | (refine OJ.as AS.storeAV ?_; rintro _ _ rfl) | (refine OJ.as AS.storeE ?_; rintro _ _ rfl) | (refine OJ.as AS.storeEA ?_; rintro _ _ rfl) | fail) | ((with_reducible apply iOcall); first | (refine OJ.as AS.append1 ?_; rintro _ _ rfl) | (refine OJ.as AS.append ?_; rintro _ _ rfl) | fail) | ((with_reducible apply iObox); first | (refine OJ.as AS.box1 ?_; rintro _ _ ⟨_, rfl, rfl⟩) | (refine OJ.as AS.boxA ?_; rintro _ _ ⟨_, rfl, rfl⟩) | fail) | ((with_reducible apply iOalloc); first | (refine OJ.as AS.alloc ?_; rintro _ _ ⟨_, rfl, rfl⟩) | fail) | ((with_reducible apply iObuildSlice); first | (refine OJ.as AS.buildSlice ?_; rintro _ _ ⟨_, rfl, rfl⟩) | fail) | ((with_reducible apply iOmakeSlice); first | (refine OJ.as AS.makeSlice ?_; rintro _ _ rfl) | fail) | ((with_reducible apply iOmakeMap); first | (refine OJ.as AS.makeMap ?_; rintro _ _ ⟨_, rfl, rfl⟩) | fail) | ((with_reducible apply iOmapEntry); first | (refine OJ.as AS.mapEntry ?_; rintro _ _ ⟨_, _, rfl, rfl⟩) | fail) | ((with_reducible apply iOentryStore); first | (refine OJ.as AS.entryStore ?_; rintro _ _ rfl) | fail) | refine OJ.unboxP fun _ => ?_ | fail) | ((with_reducible apply iJ); first | refine J.seq ?_ | refine J.region ?_ | refine J.block ?_ | refine J.skip ?_ | refine J.exit ?_ | refine J.condT ?_ | refine J.condF ?_ | refine J.cond (fun _ => ?_) (fun _ => ?_) | fail) | ((with_reducible apply iJK); first | refine JK.code ?_ | refine JK.blk ?_ | refine JK.loop ?_ | refine JK.begin ?_ | refine JK.more ?_ | fail) | ((with_reducible apply iEnt); first | exact Ent.nil | ((with_reducible apply iERow); refine Ent.row ?_ ?_) | ((with_reducible apply iEBox); first | refine Ent.box ?_ ?_ | refine Ent.box2 ?_ ?_) | ((with_reducible apply iEBlk); refine Ent.blk ?_ ?_) | ((with_reducible apply iEPure); refine Ent.pure ?_ ?_) | ((with_reducible apply iERdR); first | refine Ent.rdR ?_ | refine Ent.any ?_ | fail) | refine Ent.any ?_ | with_reducible exact Ent.refl | fail) | ((with_reducible apply iEq); with_reducible rfl) | fail)
  rename_i b
  refine J.loopI (fun i : Nat => i ≤ l.length ∧ iLookAt n l = iLookAt n (l.drop i)) (fun i => l.length - i) (fun i => [(9, .int .i64 i), (8, .int .i64 l.length), (7, v), (1, .int .i64 n), (4, .pointer (some ⟨b, 0, none⟩))]) (fun _ => [blk b (.cells #[.int .i64 0, .int .i64 0] 143 (0, 0))]) 0 ⟨Nat.zero_le _, rfl⟩ ?_
  rintro i ⟨hi, hm⟩ ih
  repeat' (first | ((with_reducible apply iOJ); first | ((with_reducible apply iOp); refine OJ.p ?_) | with_reducible apply OJ.nil | ((with_reducible apply iOg); first | refine OJ.guardY ?_ | refine OJ.guardN ?_ | refine OJ.guardNd ?_ | refine OJ.guardU ?_ | refine OJ.guardS (fun _ => ?_) (fun _ => ?_) | fail) | ((with_reducible apply iOstore); first | (refine OJ.as AS.store ?_; rintro _ _ rfl) | (refine OJ.as AS.storeA ?_; rintro _ _ rfl) | (refine OJ.as AS.storeAV ?_; rintro _ _ rfl) | (refine OJ.as AS.storeE ?_; rintro _ _ rfl) | (refine OJ.as AS.storeEA ?_; rintro _ _ rfl) | fail) | ((with_reducible apply iOcall); first | (refine OJ.as AS.append1 ?_; rintro _ _ rfl) | (refine OJ.as AS.append ?_; rintro _ _ rfl) | (refine OJ.as (AS.call0 (plainLook_c)) ?_; rotate_right; rintro _ _ ⟨y, hy, rfl, rfl⟩) | fail) | ((with_reducible apply iObox); first | (refine OJ.as AS.box1 ?_; rintro _ _ ⟨_, rfl, rfl⟩) | (refine OJ.as AS.boxA ?_; rintro _ _ ⟨_, rfl, rfl⟩) | fail) | ((with_reducible apply iOalloc); first | (refine OJ.as AS.alloc ?_; rintro _ _ ⟨_, rfl, rfl⟩) | fail) | ((with_reducible apply iObuildSlice); first | (refine OJ.as AS.buildSlice ?_; rintro _ _ ⟨_, rfl, rfl⟩) | fail) | ((with_reducible apply iOmakeSlice); first | (refine OJ.as AS.makeSlice ?_; rintro _ _ rfl) | fail) | ((with_reducible apply iOmakeMap); first | (refine OJ.as AS.makeMap ?_; rintro _ _ ⟨_, rfl, rfl⟩) | fail) | ((with_reducible apply iOmapEntry); first | (refine OJ.as AS.mapEntry ?_; rintro _ _ ⟨_, _, rfl, rfl⟩) | fail) | ((with_reducible apply iOentryStore); first | (refine OJ.as AS.entryStore ?_; rintro _ _ rfl) | fail) | refine OJ.unboxP fun _ => ?_ | fail) | ((with_reducible apply iJ); first | refine J.seq ?_ | refine J.region ?_ | refine J.block ?_ | refine J.skip ?_ | refine J.exit ?_ | refine J.condT ?_ | refine J.condF ?_ | refine J.cond (fun _ => ?_) (fun _ => ?_) | refine J.draw ?_ | refine J.retC (ends () trivial ?_ ?_) | fail) | ((with_reducible apply iJK); first | refine JK.code ?_ | refine JK.blk ?_ | refine JK.loop ?_ | refine JK.begin ?_ | refine JK.more ?_ | fail) | ((with_reducible apply iAJ); first | refine AJ.rebase ?_ | refine AJ.regain ?_ | refine AJ.take ?_ | refine AJ.takeY ?_ | refine AJ.takeN ?_ | refine AJ.takeNd ?_ | refine AJ.takeNS ?_ | refine AJ.takeU ?_ | refine AJ.sel ?_ | refine AJ.selY ?_ | refine AJ.sel2 ?_ ?_ | refine AJ.split (fun _ => ?_) (fun _ => ?_) | refine AJ.done ?_ | fail) | ((with_reducible apply iAO); first | ((with_reducible apply iAstore); first | (refine AO.as AS.store ?_; rotate_right; rintro _ _ rfl; refine AO.step ?_) | (refine AO.as AS.storeA ?_; rotate_right; rintro _ _ rfl; refine AO.step ?_) | (refine AO.as AS.storeAV ?_; rotate_right; rintro _ _ rfl; refine AO.step ?_) | (refine AO.as AS.storeE ?_; rotate_right; rintro _ _ rfl; refine AO.step ?_) | (refine AO.as AS.storeEA ?_; rotate_right; rintro _ _ rfl; refine AO.step ?_) | fail) | ((with_reducible apply iAcall); first | (refine AO.as AS.append1 ?_; rotate_right; rintro _ _ rfl; refine AO.step ?_) | (refine AO.as AS.append ?_; rotate_right; rintro _ _ rfl; refine AO.step ?_) | fail) | ((with_reducible apply iAbox); first | (refine AO.as AS.box1 ?_; rotate_right; rintro _ _ ⟨_, rfl, rfl⟩; refine AO.step ?_) | (refine AO.as AS.boxA ?_; rotate_right; rintro _ _ ⟨_, rfl, rfl⟩; refine AO.step ?_) | fail) | ((with_reducible apply iAalloc); first | (refine AO.as AS.alloc ?_; rotate_right; rintro _ _ ⟨_, rfl, rfl⟩; refine AO.step ?_) | fail) | ((with_reducible apply iAbuildSlice); first | (refine AO.as AS.buildSlice ?_; rotate_right; rintro _ _ ⟨_, rfl, rfl⟩; refine AO.step ?_) | fail) | ((with_reducible apply iAmakeSlice); first | (refine AO.as AS.makeSlice ?_; rotate_right; rintro _ _ rfl; refine AO.step ?_) | fail) | ((with_reducible apply iAmakeMap); first | (refine AO.as AS.makeMap ?_; rotate_right; rintro _ _ ⟨_, rfl, rfl⟩; refine AO.step ?_) | fail) | ((with_reducible apply iAmapEntry); first | (refine AO.as AS.mapEntry ?_; rotate_right; rintro _ _ ⟨_, _, rfl, rfl⟩; refine AO.step ?_) | fail) | ((with_reducible apply iAentryStore); first | (refine AO.as AS.entryStore ?_; rotate_right; rintro _ _ rfl; refine AO.step ?_) | fail) | fail) | ((with_reducible apply iJL); first | refine JL.use (ih (i + 1) ⟨by omega, ?_⟩ (by omega)) | fail) | ((with_reducible apply iEnt); first | exact Ent.nil | ((with_reducible apply iERow); refine Ent.row ?_ ?_) | ((with_reducible apply iEBox); first | refine Ent.box ?_ ?_ | refine Ent.box2 ?_ ?_) | ((with_reducible apply iEBlk); refine Ent.blk ?_ ?_) | ((with_reducible apply iEPure); refine Ent.pure ?_ ?_) | ((with_reducible apply iERdR); first | refine Ent.rdR ?_ | refine Ent.any ?_ | fail) | refine Ent.any ?_ | with_reducible exact Ent.refl | fail) | ((with_reducible apply iEq); with_reducible rfl) | fail)
  all_goals clear ih hr
  all_goals first
    | rfl
    | (rw [hm, List.drop_of_length_le (by omega)]; rfl)
    | (rw [hm, dropD (d := eSpan.d) (by omega)]; simp [-List.getD_eq_getElem?_getD, toNat1, iLookAt, slc, *] <;> omega)
    | (rw [hm, dropD (d := eSpan.d) (by omega)]; simp [-List.getD_eq_getElem?_getD, toNat1, iLookAt, slc, *])
def iSpanAt (l : List Span) (n : Int) : Look := match iSpansOk l 80 with
  | true => iLookAt n l
  | false => ⟨0, 0⟩
def iPlain (l : List Span) (c : Int) : List Span := match iSpansOk l c with
  | true => iSp 0 (looksOf l c)
  | false => []
set_option maxRecDepth 100000 in
set_option maxHeartbeats 4000000 in
theorem wcSpans_c (v u : Value) (l r : List Span) : Spec Tryz.prog 30 [v, u] [rd eSpan v l, rd eSpan u r] [] (fun _ : Unit => .bool (eqSpS l r)) (fun _ => []) (fun _ => True) := by
  refine Spec.mk Tryz.func30 rfl Tryz.ntmps30 rfl ?_
  intro w0 O hR hS0
  have hr := hR _ List.mem_cons_self
  have hr2 := hR _ (List.mem_cons_of_mem _ List.mem_cons_self); clear hR
  have hb := rd_bd (hr.h w0 hS0); clear hS0
  repeat' (first | ((with_reducible apply iOJ); first | ((with_reducible apply iOp); refine OJ.p ?_) | with_reducible apply OJ.nil | ((with_reducible apply iOg); first | refine OJ.guardY ?_ | refine OJ.guardN ?_ | refine OJ.guardNd ?_ | refine OJ.guardU ?_ | refine OJ.guardS (fun _ => ?_) (fun _ => ?_) | fail) | ((with_reducible apply iOstore); first | (refine OJ.as AS.store ?_; rintro _ _ rfl) | (refine OJ.as AS.storeA ?_; rintro _ _ rfl) | (refine OJ.as AS.storeAV ?_; rintro _ _ rfl) | (refine OJ.as AS.storeE ?_; rintro _ _ rfl) | (refine OJ.as AS.storeEA ?_; rintro _ _ rfl) | fail) | ((with_reducible apply iOcall); first | (refine OJ.as AS.append1 ?_; rintro _ _ rfl) | (refine OJ.as AS.append ?_; rintro _ _ rfl) | fail) | ((with_reducible apply iObox); first | (refine OJ.as AS.box1 ?_; rintro _ _ ⟨_, rfl, rfl⟩) | (refine OJ.as AS.boxA ?_; rintro _ _ ⟨_, rfl, rfl⟩) | fail) | ((with_reducible apply iOalloc); first | (refine OJ.as AS.alloc ?_; rintro _ _ ⟨_, rfl, rfl⟩) | fail) | ((with_reducible apply iObuildSlice); first | (refine OJ.as AS.buildSlice ?_; rintro _ _ ⟨_, rfl, rfl⟩) | fail) | ((with_reducible apply iOmakeSlice); first | (refine OJ.as AS.makeSlice ?_; rintro _ _ rfl) | fail) | ((with_reducible apply iOmakeMap); first | (refine OJ.as AS.makeMap ?_; rintro _ _ ⟨_, rfl, rfl⟩) | fail) | ((with_reducible apply iOmapEntry); first | (refine OJ.as AS.mapEntry ?_; rintro _ _ ⟨_, _, rfl, rfl⟩) | fail) | ((with_reducible apply iOentryStore); first | (refine OJ.as AS.entryStore ?_; rintro _ _ rfl) | fail) | refine OJ.unboxP fun _ => ?_ | fail) | ((with_reducible apply iJ); first | refine J.seq ?_ | refine J.region ?_ | refine J.block ?_ | refine J.skip ?_ | refine J.exit ?_ | refine J.condT ?_ | refine J.condF ?_ | refine J.cond (fun _ => ?_) (fun _ => ?_) | refine J.retB ?_ | fail) | ((with_reducible apply iJK); first | refine JK.code ?_ | refine JK.blk ?_ | refine JK.loop ?_ | refine JK.begin ?_ | refine JK.more ?_ | fail) | ((with_reducible apply iEnt); first | exact Ent.nil | ((with_reducible apply iERow); refine Ent.row ?_ ?_) | ((with_reducible apply iEBox); first | refine Ent.box ?_ ?_ | refine Ent.box2 ?_ ?_) | ((with_reducible apply iEBlk); refine Ent.blk ?_ ?_) | ((with_reducible apply iEPure); refine Ent.pure ?_ ?_) | ((with_reducible apply iERdR); first | refine Ent.rdR ?_ | refine Ent.any ?_ | fail) | refine Ent.any ?_ | with_reducible exact Ent.refl | fail) | ((with_reducible apply iEq); with_reducible rfl) | fail)
  · simp [eqSpS, *]
    omega
  rename_i hlen
  refine J.loopI (fun i : Nat => i ≤ l.length ∧ eqSpS l r = (allI (fun i => eqSp (l.getD i eSpan.d) (r.getD i eSpan.d)) (l.length - i) i && true)) (fun i => l.length - i) (fun i => [(5, .int .i64 i), (0, v), (1, u)]) (fun _ => []) 0 ⟨Nat.zero_le _, by simp [eqSpS]; omega⟩ ?_
  rintro i ⟨hi, hm⟩ ih
  repeat' (first | ((with_reducible apply iOJ); first | ((with_reducible apply iOp); refine OJ.p ?_) | with_reducible apply OJ.nil | ((with_reducible apply iOg); first | refine OJ.guardY ?_ | refine OJ.guardN ?_ | refine OJ.guardNd ?_ | refine OJ.guardU ?_ | refine OJ.guardS (fun _ => ?_) (fun _ => ?_) | fail) | ((with_reducible apply iOstore); first | (refine OJ.as AS.store ?_; rintro _ _ rfl) | (refine OJ.as AS.storeA ?_; rintro _ _ rfl) | (refine OJ.as AS.storeAV ?_; rintro _ _ rfl) | (refine OJ.as AS.storeE ?_; rintro _ _ rfl) | (refine OJ.as AS.storeEA ?_; rintro _ _ rfl) | fail) | ((with_reducible apply iOcall); first | (refine OJ.as AS.append1 ?_; rintro _ _ rfl) | (refine OJ.as AS.append ?_; rintro _ _ rfl) | fail) | ((with_reducible apply iObox); first | (refine OJ.as AS.box1 ?_; rintro _ _ ⟨_, rfl, rfl⟩) | (refine OJ.as AS.boxA ?_; rintro _ _ ⟨_, rfl, rfl⟩) | fail) | ((with_reducible apply iOalloc); first | (refine OJ.as AS.alloc ?_; rintro _ _ ⟨_, rfl, rfl⟩) | fail) | ((with_reducible apply iObuildSlice); first | (refine OJ.as AS.buildSlice ?_; rintro _ _ ⟨_, rfl, rfl⟩) | fail) | ((with_reducible apply iOmakeSlice); first | (refine OJ.as AS.makeSlice ?_; rintro _ _ rfl) | fail) | ((with_reducible apply iOmakeMap); first | (refine OJ.as AS.makeMap ?_; rintro _ _ ⟨_, rfl, rfl⟩) | fail) | ((with_reducible apply iOmapEntry); first | (refine OJ.as AS.mapEntry ?_; rintro _ _ ⟨_, _, rfl, rfl⟩) | fail) | ((with_reducible apply iOentryStore); first | (refine OJ.as AS.entryStore ?_; rintro _ _ rfl) | fail) | refine OJ.unboxP fun _ => ?_ | fail) | ((with_reducible apply iJ); first | refine J.seq ?_ | refine J.region ?_ | refine J.block ?_ | refine J.skip ?_ | refine J.exit ?_ | refine J.condT ?_ | refine J.condF ?_ | refine J.cond (fun _ => ?_) (fun _ => ?_) | refine J.draw ?_ | refine J.retB (allI_off hm (by omega) ?_) | refine J.retB (allI_fin hm (by omega) ?_) | fail) | ((with_reducible apply iJK); first | refine JK.code ?_ | refine JK.blk ?_ | refine JK.loop ?_ | refine JK.begin ?_ | refine JK.more ?_ | fail) | ((with_reducible apply iAJ); first | refine AJ.rebase ?_ | refine AJ.regain ?_ | refine AJ.take ?_ | refine AJ.takeY ?_ | refine AJ.takeN ?_ | refine AJ.takeNd ?_ | refine AJ.takeNS ?_ | refine AJ.takeU ?_ | refine AJ.sel ?_ | refine AJ.selY ?_ | refine AJ.sel2 ?_ ?_ | refine AJ.split (fun _ => ?_) (fun _ => ?_) | refine AJ.done ?_ | fail) | ((with_reducible apply iAO); first | ((with_reducible apply iAstore); first | (refine AO.as AS.store ?_; rotate_right; rintro _ _ rfl; refine AO.step ?_) | (refine AO.as AS.storeA ?_; rotate_right; rintro _ _ rfl; refine AO.step ?_) | (refine AO.as AS.storeAV ?_; rotate_right; rintro _ _ rfl; refine AO.step ?_) | (refine AO.as AS.storeE ?_; rotate_right; rintro _ _ rfl; refine AO.step ?_) | (refine AO.as AS.storeEA ?_; rotate_right; rintro _ _ rfl; refine AO.step ?_) | fail) | ((with_reducible apply iAcall); first | (refine AO.as AS.append1 ?_; rotate_right; rintro _ _ rfl; refine AO.step ?_) | (refine AO.as AS.append ?_; rotate_right; rintro _ _ rfl; refine AO.step ?_) | fail) | ((with_reducible apply iAbox); first | (refine AO.as AS.box1 ?_; rotate_right; rintro _ _ ⟨_, rfl, rfl⟩; refine AO.step ?_) | (refine AO.as AS.boxA ?_; rotate_right; rintro _ _ ⟨_, rfl, rfl⟩; refine AO.step ?_) | fail) | ((with_reducible apply iAalloc); first | (refine AO.as AS.alloc ?_; rotate_right; rintro _ _ ⟨_, rfl, rfl⟩; refine AO.step ?_) | fail) | ((with_reducible apply iAbuildSlice); first | (refine AO.as AS.buildSlice ?_; rotate_right; rintro _ _ ⟨_, rfl, rfl⟩; refine AO.step ?_) | fail) | ((with_reducible apply iAmakeSlice); first | (refine AO.as AS.makeSlice ?_; rotate_right; rintro _ _ rfl; refine AO.step ?_) | fail) | ((with_reducible apply iAmakeMap); first | (refine AO.as AS.makeMap ?_; rotate_right; rintro _ _ ⟨_, rfl, rfl⟩; refine AO.step ?_) | fail) | ((with_reducible apply iAmapEntry); first | (refine AO.as AS.mapEntry ?_; rotate_right; rintro _ _ ⟨_, _, rfl, rfl⟩; refine AO.step ?_) | fail) | ((with_reducible apply iAentryStore); first | (refine AO.as AS.entryStore ?_; rotate_right; rintro _ _ rfl; refine AO.step ?_) | fail) | fail) | ((with_reducible apply iJL); first | refine JL.use (ih (i + 1) ⟨by omega, allI_on hm (by omega) ?_⟩ (by omega)) | fail) | ((with_reducible apply iEnt); first | exact Ent.nil | ((with_reducible apply iERow); refine Ent.row ?_ ?_) | ((with_reducible apply iEBox); first | refine Ent.box ?_ ?_ | refine Ent.box2 ?_ ?_) | ((with_reducible apply iEBlk); refine Ent.blk ?_ ?_) | ((with_reducible apply iEPure); refine Ent.pure ?_ ?_) | ((with_reducible apply iERdR); first | refine Ent.rdR ?_ | refine Ent.any ?_ | fail) | refine Ent.any ?_ | with_reducible exact Ent.refl | fail) | ((with_reducible apply iEq); with_reducible rfl) | fail)
  all_goals clear ih hr hr2
  all_goals simp [-List.getD_eq_getElem?_getD, toNat1, eqSp, eqI, *] at *
  all_goals first | assumption | (simp [eqSp, *]; done) | skip
end Go.SL

/- laws.wcInts, wcPara at what is alike; impl.ParaCheck of what is ok. -/
set_option linter.unusedVariables false
set_option linter.unusedSimpArgs false
namespace Go.SL
open Go.RowKit Go.Proofs
theorem eqSpS_refl2 (l : List Span) : eqSpS l l = true := by
  unfold eqSpS
  rw [decide_eq_true rfl, Bool.true_and]
  have : ∀ (n i : Nat), allI (fun i => eqSp (l.getD i eSpan.d) (l.getD i eSpan.d)) n i = true := by
    intro n
    induction n with
    | zero => intro i; rfl
    | succ n ih =>
      intro i
      simp only [allI, ih]
      rw [eqSp_eq.2 rfl]
      rfl
  exact this _ _
theorem wcSpans_alike (v u : Value) (l : List Span) : Spec Tryz.prog 30 [v, u] [rd eSpan v l, rd eSpan u l] [] (fun _ : Unit => .bool true) (fun _ => []) (fun _ => True) := by
  have := wcSpans_c v u l l
  rwa [eqSpS_refl2] at this
set_option maxRecDepth 100000 in
set_option maxHeartbeats 4000000 in
theorem wcInts_alike (v u : Value) (l : List Int) : Spec Tryz.prog 10 [v, u] [rd eInt v l, rd eInt u l] [] (fun _ : Unit => .bool true) (fun _ => []) (fun _ => True) := by
  refine Spec.mk Tryz.func10 rfl Tryz.ntmps10 rfl ?_
  intro w0 O hR hS0
  have hr := hR _ List.mem_cons_self
  have hr2 := hR _ (List.mem_cons_of_mem _ List.mem_cons_self); clear hR
  have hb := rd_bd (hr.h w0 hS0); clear hS0
  repeat' (first | ((with_reducible apply iOJ); first | ((with_reducible apply iOp); refine OJ.p ?_) | with_reducible apply OJ.nil | ((with_reducible apply iOg); first | refine OJ.guardY ?_ | refine OJ.guardN ?_ | refine OJ.guardNd ?_ | refine OJ.guardU ?_ | refine OJ.guardS (fun _ => ?_) (fun _ => ?_) | fail) | ((with_reducible apply iOstore); first | (refine OJ.as AS.store ?_; rintro _ _ rfl) | (refine OJ.as AS.storeA ?_; rintro _ _ rfl) | (refine OJ.as AS.storeAV ?_; rintro _ _ rfl) | (refine OJ.as AS.storeE ?_; rintro _ _ rfl) | (refine OJ.as AS.storeEA ?_; rintro _ _ rfl) | fail) | ((with_reducible apply iOcall); first | (refine OJ.as AS.append1 ?_; rintro _ _ rfl) | (refine OJ.as AS.append ?_; rintro _ _ rfl) | fail) | ((with_reducible apply iObox); first | (refine OJ.as AS.box1 ?_; rintro _ _ ⟨_, rfl, rfl⟩) | (refine OJ.as AS.boxA ?_; rintro _ _ ⟨_, rfl, rfl⟩) | fail) | ((with_reducible apply iOalloc); first | (refine OJ.as AS.alloc ?_; rintro _ _ ⟨_, rfl, rfl⟩) | fail) | ((with_reducible apply iObuildSlice); first | (refine OJ.as AS.buildSlice ?_; rintro _ _ ⟨_, rfl, rfl⟩) | fail) | ((with_reducible apply iOmakeSlice); first | (refine OJ.as AS.makeSlice ?_; rintro _ _ rfl) | fail) | ((with_reducible apply iOmakeMap); first | (refine OJ.as AS.makeMap ?_; rintro _ _ ⟨_, rfl, rfl⟩) | fail) | ((with_reducible apply iOmapEntry); first | (refine OJ.as AS.mapEntry ?_; rintro _ _ ⟨_, _, rfl, rfl⟩) | fail) | ((with_reducible apply iOentryStore); first | (refine OJ.as AS.entryStore ?_; rintro _ _ rfl) | fail) | refine OJ.unboxP fun _ => ?_ | fail) | ((with_reducible apply iJ); first | refine J.seq ?_ | refine J.region ?_ | refine J.block ?_ | refine J.skip ?_ | refine J.exit ?_ | refine J.condT ?_ | refine J.condF ?_ | refine J.cond (fun _ => ?_) (fun _ => ?_) | refine J.retB ?_ | fail) | ((with_reducible apply iJK); first | refine JK.code ?_ | refine JK.blk ?_ | refine JK.loop ?_ | refine JK.begin ?_ | refine JK.more ?_ | fail) | ((with_reducible apply iEnt); first | exact Ent.nil | ((with_reducible apply iERow); refine Ent.row ?_ ?_) | ((with_reducible apply iEBox); first | refine Ent.box ?_ ?_ | refine Ent.box2 ?_ ?_) | ((with_reducible apply iEBlk); refine Ent.blk ?_ ?_) | ((with_reducible apply iEPure); refine Ent.pure ?_ ?_) | ((with_reducible apply iERdR); first | refine Ent.rdR ?_ | refine Ent.any ?_ | fail) | refine Ent.any ?_ | with_reducible exact Ent.refl | fail) | ((with_reducible apply iEq); with_reducible rfl) | fail)
  all_goals try (exfalso; simp_all; done)
  refine J.loopI (fun i : Nat => i ≤ l.length) (fun i => l.length - i) (fun i => [(5, .int .i64 i), (0, v), (1, u)]) (fun _ => []) 0 (Nat.zero_le _) ?_
  rintro i hi ih
  repeat' (first | ((with_reducible apply iOJ); first | ((with_reducible apply iOp); refine OJ.p ?_) | with_reducible apply OJ.nil | ((with_reducible apply iOg); first | refine OJ.guardY ?_ | refine OJ.guardN ?_ | refine OJ.guardNd ?_ | refine OJ.guardU ?_ | refine OJ.guardS (fun _ => ?_) (fun _ => ?_) | fail) | ((with_reducible apply iOstore); first | (refine OJ.as AS.store ?_; rintro _ _ rfl) | (refine OJ.as AS.storeA ?_; rintro _ _ rfl) | (refine OJ.as AS.storeAV ?_; rintro _ _ rfl) | (refine OJ.as AS.storeE ?_; rintro _ _ rfl) | (refine OJ.as AS.storeEA ?_; rintro _ _ rfl) | fail) | ((with_reducible apply iOcall); first | (refine OJ.as AS.append1 ?_; rintro _ _ rfl) | (refine OJ.as AS.append ?_; rintro _ _ rfl) | fail) | ((with_reducible apply iObox); first | (refine OJ.as AS.box1 ?_; rintro _ _ ⟨_, rfl, rfl⟩) | (refine OJ.as AS.boxA ?_; rintro _ _ ⟨_, rfl, rfl⟩) | fail) | ((with_reducible apply iOalloc); first | (refine OJ.as AS.alloc ?_; rintro _ _ ⟨_, rfl, rfl⟩) | fail) | ((with_reducible apply iObuildSlice); first | (refine OJ.as AS.buildSlice ?_; rintro _ _ ⟨_, rfl, rfl⟩) | fail) | ((with_reducible apply iOmakeSlice); first | (refine OJ.as AS.makeSlice ?_; rintro _ _ rfl) | fail) | ((with_reducible apply iOmakeMap); first | (refine OJ.as AS.makeMap ?_; rintro _ _ ⟨_, rfl, rfl⟩) | fail) | ((with_reducible apply iOmapEntry); first | (refine OJ.as AS.mapEntry ?_; rintro _ _ ⟨_, _, rfl, rfl⟩) | fail) | ((with_reducible apply iOentryStore); first | (refine OJ.as AS.entryStore ?_; rintro _ _ rfl) | fail) | refine OJ.unboxP fun _ => ?_ | fail) | ((with_reducible apply iJ); first | refine J.seq ?_ | refine J.region ?_ | refine J.block ?_ | refine J.skip ?_ | refine J.exit ?_ | refine J.condT ?_ | refine J.condF ?_ | refine J.cond (fun _ => ?_) (fun _ => ?_) | refine J.draw ?_ | refine J.retB ?_ | fail) | ((with_reducible apply iJK); first | refine JK.code ?_ | refine JK.blk ?_ | refine JK.loop ?_ | refine JK.begin ?_ | refine JK.more ?_ | fail) | ((with_reducible apply iAJ); first | refine AJ.rebase ?_ | refine AJ.regain ?_ | refine AJ.take ?_ | refine AJ.takeY ?_ | refine AJ.takeN ?_ | refine AJ.takeNd ?_ | refine AJ.takeNS ?_ | refine AJ.takeU ?_ | refine AJ.sel ?_ | refine AJ.selY ?_ | refine AJ.sel2 ?_ ?_ | refine AJ.split (fun _ => ?_) (fun _ => ?_) | refine AJ.done ?_ | fail) | ((with_reducible apply iAO); first | ((with_reducible apply iAstore); first | (refine AO.as AS.store ?_; rotate_right; rintro _ _ rfl; refine AO.step ?_) | (refine AO.as AS.storeA ?_; rotate_right; rintro _ _ rfl; refine AO.step ?_) | (refine AO.as AS.storeAV ?_; rotate_right; rintro _ _ rfl; refine AO.step ?_) | (refine AO.as AS.storeE ?_; rotate_right; rintro _ _ rfl; refine AO.step ?_) | (refine AO.as AS.storeEA ?_; rotate_right; rintro _ _ rfl; refine AO.step ?_) | fail) | ((with_reducible apply iAcall); first | (refine AO.as AS.append1 ?_; rotate_right; rintro _ _ rfl; refine AO.step ?_) | (refine AO.as AS.append ?_; rotate_right; rintro _ _ rfl; refine AO.step ?_) | fail) | ((with_reducible apply iAbox); first | (refine AO.as AS.box1 ?_; rotate_right; rintro _ _ ⟨_, rfl, rfl⟩; refine AO.step ?_) | (refine AO.as AS.boxA ?_; rotate_right; rintro _ _ ⟨_, rfl, rfl⟩; refine AO.step ?_) | fail) | ((with_reducible apply iAalloc); first | (refine AO.as AS.alloc ?_; rotate_right; rintro _ _ ⟨_, rfl, rfl⟩; refine AO.step ?_) | fail) | ((with_reducible apply iAbuildSlice); first | (refine AO.as AS.buildSlice ?_; rotate_right; rintro _ _ ⟨_, rfl, rfl⟩; refine AO.step ?_) | fail) | ((with_reducible apply iAmakeSlice); first | (refine AO.as AS.makeSlice ?_; rotate_right; rintro _ _ rfl; refine AO.step ?_) | fail) | ((with_reducible apply iAmakeMap); first | (refine AO.as AS.makeMap ?_; rotate_right; rintro _ _ ⟨_, rfl, rfl⟩; refine AO.step ?_) | fail) | ((with_reducible apply iAmapEntry); first | (refine AO.as AS.mapEntry ?_; rotate_right; rintro _ _ ⟨_, _, rfl, rfl⟩; refine AO.step ?_) | fail) | ((with_reducible apply iAentryStore); first | (refine AO.as AS.entryStore ?_; rotate_right; rintro _ _ rfl; refine AO.step ?_) | fail) | fail) | ((with_reducible apply iJL); first | refine JL.use (ih (i + 1) (by omega) (by omega)) | fail) | ((with_reducible apply iEnt); first | exact Ent.nil | ((with_reducible apply iERow); refine Ent.row ?_ ?_) | ((with_reducible apply iEBox); first | refine Ent.box ?_ ?_ | refine Ent.box2 ?_ ?_) | ((with_reducible apply iEBlk); refine Ent.blk ?_ ?_) | ((with_reducible apply iEPure); refine Ent.pure ?_ ?_) | ((with_reducible apply iERdR); first | refine Ent.rdR ?_ | refine Ent.any ?_ | fail) | refine Ent.any ?_ | with_reducible exact Ent.refl | fail) | ((with_reducible apply iEq); with_reducible rfl) | fail)
  all_goals first | rfl | (exfalso; simp_all; done)
set_option maxRecDepth 100000 in
set_option maxHeartbeats 8000000 in
theorem wcPara_alike (p : Para) (v u : Value) : Spec Tryz.prog 8 [pv p v, pv p u] [rd eSpan v p.spans, rd eSpan u p.spans] [] (fun _ : Unit => .bool true) (fun _ => []) (fun _ => True) := by
  refine Spec.mk Tryz.func8 rfl Tryz.ntmps8 rfl ?_
  intro w0 O hR hS0
  have hr := hR _ List.mem_cons_self
  have hr2 := hR _ (List.mem_cons_of_mem _ List.mem_cons_self); clear hR hS0
  have hS := wcSpans_alike v u p.spans
  repeat' (first | ((with_reducible apply iOJ); first | ((with_reducible apply iOp); refine OJ.p ?_) | with_reducible apply OJ.nil | ((with_reducible apply iOg); first | refine OJ.guardY ?_ | refine OJ.guardN ?_ | refine OJ.guardNd ?_ | refine OJ.guardU ?_ | refine OJ.guardS (fun _ => ?_) (fun _ => ?_) | fail) | ((with_reducible apply iOstore); first | (refine OJ.as AS.store ?_; rintro _ _ rfl) | (refine OJ.as AS.storeA ?_; rintro _ _ rfl) | (refine OJ.as AS.storeAV ?_; rintro _ _ rfl) | (refine OJ.as AS.storeE ?_; rintro _ _ rfl) | (refine OJ.as AS.storeEA ?_; rintro _ _ rfl) | fail) | ((with_reducible apply iOcall); first | (refine OJ.as AS.append1 ?_; rintro _ _ rfl) | (refine OJ.as AS.append ?_; rintro _ _ rfl) | (refine OJ.as (AS.call0 (hS)) ?_; rotate_right; rintro _ _ ⟨y, hy, rfl, rfl⟩) | fail) | ((with_reducible apply iObox); first | (refine OJ.as AS.box1 ?_; rintro _ _ ⟨_, rfl, rfl⟩) | (refine OJ.as AS.boxA ?_; rintro _ _ ⟨_, rfl, rfl⟩) | fail) | ((with_reducible apply iOalloc); first | (refine OJ.as AS.alloc ?_; rintro _ _ ⟨_, rfl, rfl⟩) | fail) | ((with_reducible apply iObuildSlice); first | (refine OJ.as AS.buildSlice ?_; rintro _ _ ⟨_, rfl, rfl⟩) | fail) | ((with_reducible apply iOmakeSlice); first | (refine OJ.as AS.makeSlice ?_; rintro _ _ rfl) | fail) | ((with_reducible apply iOmakeMap); first | (refine OJ.as AS.makeMap ?_; rintro _ _ ⟨_, rfl, rfl⟩) | fail) | ((with_reducible apply iOmapEntry); first | (refine OJ.as AS.mapEntry ?_; rintro _ _ ⟨_, _, rfl, rfl⟩) | fail) | ((with_reducible apply iOentryStore); first | (refine OJ.as AS.entryStore ?_; rintro _ _ rfl) | fail) | refine OJ.unboxP fun _ => ?_ | fail) | ((with_reducible apply iJ); first | refine J.seq ?_ | refine J.region ?_ | refine J.block ?_ | refine J.skip ?_ | refine J.exit ?_ | refine J.condT ?_ | refine J.condF ?_ | refine J.cond (fun _ => ?_) (fun _ => ?_) | refine J.retB ?_ | fail) | ((with_reducible apply iJK); first | refine JK.code ?_ | refine JK.blk ?_ | refine JK.loop ?_ | refine JK.begin ?_ | refine JK.more ?_ | fail) | ((with_reducible apply iEnt); first | exact Ent.nil | ((with_reducible apply iERow); refine Ent.row ?_ ?_) | ((with_reducible apply iEBox); first | refine Ent.box ?_ ?_ | refine Ent.box2 ?_ ?_) | ((with_reducible apply iEBlk); refine Ent.blk ?_ ?_) | ((with_reducible apply iEPure); refine Ent.pure ?_ ?_) | ((with_reducible apply iERdR); first | refine Ent.rdR ?_ | refine Ent.any ?_ | fail) | refine Ent.any ?_ | with_reducible exact Ent.refl | fail) | ((with_reducible apply iEq); with_reducible rfl) | fail)
  all_goals first | rfl | (exfalso; simp_all; done)
set_option maxRecDepth 100000 in
set_option maxHeartbeats 8000000 in
theorem as_nil (v : Value) : Spec Tryz.prog 64 [.nilIface, v] [] [] (fun _ : Unit => .bool false) (fun _ => []) (fun _ => True) := by
  refine Spec.mk Tryz.func64 rfl Tryz.ntmps64 rfl ?_
  intro w0 O hR hS0; clear hR hS0
  repeat' (first | ((with_reducible apply iOJ); first | ((with_reducible apply iOp); refine OJ.p ?_) | with_reducible apply OJ.nil | ((with_reducible apply iOg); first | refine OJ.guardY ?_ | refine OJ.guardN ?_ | refine OJ.guardNd ?_ | refine OJ.guardU ?_ | refine OJ.guardS (fun _ => ?_) (fun _ => ?_) | fail) | ((with_reducible apply iOstore); first | (refine OJ.as AS.store ?_; rintro _ _ rfl) | (refine OJ.as AS.storeA ?_; rintro _ _ rfl) | (refine OJ.as AS.storeAV ?_; rintro _ _ rfl) | (refine OJ.as AS.storeE ?_; rintro _ _ rfl) | (refine OJ.as AS.storeEA ?_; rintro _ _ rfl) | fail) | ((with_reducible apply iOcall); first | (refine OJ.as AS.append1 ?_; rintro _ _ rfl) | (refine OJ.as AS.append ?_; rintro _ _ rfl) | fail) | ((with_reducible apply iObox); first | (refine OJ.as AS.box1 ?_; rintro _ _ ⟨_, rfl, rfl⟩) | (refine OJ.as AS.boxA ?_; rintro _ _ ⟨_, rfl, rfl⟩) | fail) | ((with_reducible apply iOalloc); first | (refine OJ.as AS.alloc ?_; rintro _ _ ⟨_, rfl, rfl⟩) | fail) | ((with_reducible apply iObuildSlice); first | (refine OJ.as AS.buildSlice ?_; rintro _ _ ⟨_, rfl, rfl⟩) | fail) | ((with_reducible apply iOmakeSlice); first | (refine OJ.as AS.makeSlice ?_; rintro _ _ rfl) | fail) | ((with_reducible apply iOmakeMap); first | (refine OJ.as AS.makeMap ?_; rintro _ _ ⟨_, rfl, rfl⟩) | fail) | ((with_reducible apply iOmapEntry); first | (refine OJ.as AS.mapEntry ?_; rintro _ _ ⟨_, _, rfl, rfl⟩) | fail) | ((with_reducible apply iOentryStore); first | (refine OJ.as AS.entryStore ?_; rintro _ _ rfl) | fail) | refine OJ.unboxP fun _ => ?_ | fail) | ((with_reducible apply iJ); first | refine J.seq ?_ | refine J.region ?_ | refine J.block ?_ | refine J.skip ?_ | refine J.exit ?_ | refine J.condT ?_ | refine J.condF ?_ | refine J.cond (fun _ => ?_) (fun _ => ?_) | refine J.retB ?_ | fail) | ((with_reducible apply iJK); first | refine JK.code ?_ | refine JK.blk ?_ | refine JK.loop ?_ | refine JK.begin ?_ | refine JK.more ?_ | fail) | ((with_reducible apply iEnt); first | exact Ent.nil | ((with_reducible apply iERow); refine Ent.row ?_ ?_) | ((with_reducible apply iEBox); first | refine Ent.box ?_ ?_ | refine Ent.box2 ?_ ?_) | ((with_reducible apply iEBlk); refine Ent.blk ?_ ?_) | ((with_reducible apply iEPure); refine Ent.pure ?_ ?_) | ((with_reducible apply iERdR); first | refine Ent.rdR ?_ | refine Ent.any ?_ | fail) | refine Ent.any ?_ | with_reducible exact Ent.refl | fail) | ((with_reducible apply iEq); with_reducible rfl) | fail)
  all_goals rfl
set_option maxRecDepth 100000 in
set_option maxHeartbeats 8000000 in
theorem codeOf_nil : Spec Tryz.prog 32 [.nilIface] [] [] (fun _ : Unit => .int .i64 0) (fun _ => []) (fun _ => True) := by
  refine Spec.mk Tryz.func32 rfl Tryz.ntmps32 rfl ?_
  intro w0 O hR hS0; clear hR hS0
  repeat' (first | ((with_reducible apply iOJ); first | ((with_reducible apply iOp); refine OJ.p ?_) | with_reducible apply OJ.nil | ((with_reducible apply iOg); first | refine OJ.guardY ?_ | refine OJ.guardN ?_ | refine OJ.guardNd ?_ | refine OJ.guardU ?_ | refine OJ.guardS (fun _ => ?_) (fun _ => ?_) | fail) | ((with_reducible apply iOstore); first | (refine OJ.as AS.store ?_; rintro _ _ rfl) | (refine OJ.as AS.storeA ?_; rintro _ _ rfl) | (refine OJ.as AS.storeAV ?_; rintro _ _ rfl) | (refine OJ.as AS.storeE ?_; rintro _ _ rfl) | (refine OJ.as AS.storeEA ?_; rintro _ _ rfl) | fail) | ((with_reducible apply iOcall); first | (refine OJ.as AS.append1 ?_; rintro _ _ rfl) | (refine OJ.as AS.append ?_; rintro _ _ rfl) | (refine OJ.as (AS.call0 (as_nil _)) ?_; rotate_right; rintro _ _ ⟨y, hy, rfl, rfl⟩) | fail) | ((with_reducible apply iObox); first | (refine OJ.as AS.box1 ?_; rintro _ _ ⟨_, rfl, rfl⟩) | (refine OJ.as AS.boxA ?_; rintro _ _ ⟨_, rfl, rfl⟩) | fail) | ((with_reducible apply iOalloc); first | (refine OJ.as AS.alloc ?_; rintro _ _ ⟨_, rfl, rfl⟩) | fail) | ((with_reducible apply iObuildSlice); first | (refine OJ.as AS.buildSlice ?_; rintro _ _ ⟨_, rfl, rfl⟩) | fail) | ((with_reducible apply iOmakeSlice); first | (refine OJ.as AS.makeSlice ?_; rintro _ _ rfl) | fail) | ((with_reducible apply iOmakeMap); first | (refine OJ.as AS.makeMap ?_; rintro _ _ ⟨_, rfl, rfl⟩) | fail) | ((with_reducible apply iOmapEntry); first | (refine OJ.as AS.mapEntry ?_; rintro _ _ ⟨_, _, rfl, rfl⟩) | fail) | ((with_reducible apply iOentryStore); first | (refine OJ.as AS.entryStore ?_; rintro _ _ rfl) | fail) | refine OJ.unboxP fun _ => ?_ | fail) | ((with_reducible apply iJ); first | refine J.seq ?_ | refine J.region ?_ | refine J.block ?_ | refine J.skip ?_ | refine J.exit ?_ | refine J.condT ?_ | refine J.condF ?_ | refine J.cond (fun _ => ?_) (fun _ => ?_) | refine J.retI ?_ | fail) | ((with_reducible apply iJK); first | refine JK.code ?_ | refine JK.blk ?_ | refine JK.loop ?_ | refine JK.begin ?_ | refine JK.more ?_ | fail) | ((with_reducible apply iEnt); first | exact Ent.nil | ((with_reducible apply iERow); refine Ent.row ?_ ?_) | ((with_reducible apply iEBox); first | refine Ent.box ?_ ?_ | refine Ent.box2 ?_ ?_) | ((with_reducible apply iEBlk); refine Ent.blk ?_ ?_) | ((with_reducible apply iEPure); refine Ent.pure ?_ ?_) | ((with_reducible apply iERdR); first | refine Ent.rdR ?_ | refine Ent.any ?_ | fail) | refine Ent.any ?_ | with_reducible exact Ent.refl | fail) | ((with_reducible apply iEq); with_reducible rfl) | fail)
  all_goals first | rfl | (exfalso; simp_all; done)
set_option maxRecDepth 100000 in
set_option maxHeartbeats 8000000 in
theorem checkOk_c (p : Para) (v : Value) (ht : p.text.length ≤ 10000000) (hb : sCheck p = 0) (hsl : p.spans.length ≤ 1100000) : Spec Tryz.prog 11 [pv p v] [rd eSpan v p.spans, tabs] [] (fun _ : Unit => .int .i64 0) (fun _ => []) (fun _ => True) := by
  refine Spec.mk Tryz.func11 rfl Tryz.ntmps11 rfl ?_
  intro w0 O hR hS0
  have hr := hR _ List.mem_cons_self
  have hr2 := hR _ (List.mem_cons_of_mem _ List.mem_cons_self); clear hR hS0
  obtain ⟨xs, hx⟩ : ∃ xs, iGet p.text = some xs := by
    cases h : iGet p.text with
    | none => unfold sCheck at hb; rw [h] at hb; cases hb
    | some xs => exact ⟨xs, rfl⟩
  have hR := readOk_c p v xs ht hb hx hsl
  repeat' (first | ((with_reducible apply iOJ); first | ((with_reducible apply iOp); refine OJ.p ?_) | with_reducible apply OJ.nil | ((with_reducible apply iOg); first | refine OJ.guardY ?_ | refine OJ.guardN ?_ | refine OJ.guardNd ?_ | refine OJ.guardU ?_ | refine OJ.guardS (fun _ => ?_) (fun _ => ?_) | fail) | ((with_reducible apply iOstore); first | (refine OJ.as AS.store ?_; rintro _ _ rfl) | (refine OJ.as AS.storeA ?_; rintro _ _ rfl) | (refine OJ.as AS.storeAV ?_; rintro _ _ rfl) | (refine OJ.as AS.storeE ?_; rintro _ _ rfl) | (refine OJ.as AS.storeEA ?_; rintro _ _ rfl) | fail) | ((with_reducible apply iOcall); first | (refine OJ.as AS.append1 ?_; rintro _ _ rfl) | (refine OJ.as AS.append ?_; rintro _ _ rfl) | (refine OJ.as (AS.call3 (hR)) ?_; rotate_right; rintro _ _ ⟨y, hy, rfl, rfl⟩) | (refine OJ.as (AS.call0 (codeOf_nil)) ?_; rotate_right; rintro _ _ ⟨y, hy, rfl, rfl⟩) | fail) | ((with_reducible apply iObox); first | (refine OJ.as AS.box1 ?_; rintro _ _ ⟨_, rfl, rfl⟩) | (refine OJ.as AS.boxA ?_; rintro _ _ ⟨_, rfl, rfl⟩) | fail) | ((with_reducible apply iOalloc); first | (refine OJ.as AS.alloc ?_; rintro _ _ ⟨_, rfl, rfl⟩) | fail) | ((with_reducible apply iObuildSlice); first | (refine OJ.as AS.buildSlice ?_; rintro _ _ ⟨_, rfl, rfl⟩) | fail) | ((with_reducible apply iOmakeSlice); first | (refine OJ.as AS.makeSlice ?_; rintro _ _ rfl) | fail) | ((with_reducible apply iOmakeMap); first | (refine OJ.as AS.makeMap ?_; rintro _ _ ⟨_, rfl, rfl⟩) | fail) | ((with_reducible apply iOmapEntry); first | (refine OJ.as AS.mapEntry ?_; rintro _ _ ⟨_, _, rfl, rfl⟩) | fail) | ((with_reducible apply iOentryStore); first | (refine OJ.as AS.entryStore ?_; rintro _ _ rfl) | fail) | refine OJ.unboxP fun _ => ?_ | fail) | ((with_reducible apply iJ); first | refine J.seq ?_ | refine J.region ?_ | refine J.block ?_ | refine J.skip ?_ | refine J.exit ?_ | refine J.condT ?_ | refine J.condF ?_ | refine J.cond (fun _ => ?_) (fun _ => ?_) | refine J.retI ?_ | fail) | ((with_reducible apply iJK); first | refine JK.code ?_ | refine JK.blk ?_ | refine JK.loop ?_ | refine JK.begin ?_ | refine JK.more ?_ | fail) | ((with_reducible apply iEnt); first | exact Ent.nil | ((with_reducible apply iERow); refine Ent.row ?_ ?_) | ((with_reducible apply iEBox); first | refine Ent.box ?_ ?_ | refine Ent.box2 ?_ ?_) | ((with_reducible apply iEBlk); refine Ent.blk ?_ ?_) | ((with_reducible apply iEPure); refine Ent.pure ?_ ?_) | ((with_reducible apply iERdR); first | refine Ent.rdR ?_ | refine Ent.any ?_ | fail) | refine Ent.any ?_ | with_reducible exact Ent.refl | fail) | ((with_reducible apply iEq); with_reducible rfl) | fail)
  all_goals first | rfl | (exfalso; simp_all; done)
end Go.SL
