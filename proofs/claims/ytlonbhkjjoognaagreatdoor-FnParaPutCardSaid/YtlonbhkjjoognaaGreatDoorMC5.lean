/- Parts of the proof (joined by program). -/
import Derived.Test.YtlonbhkjjoognaaGreatDoorMC4
/- spec.l6Move -/
set_option linter.unusedVariables false
set_option linter.unusedSimpArgs false
namespace Go.SL
open Go.RowKit Go.Proofs
def sMoveLook (l : List Look) (a : Nat) : Look := match decide (0 < a) with
  | true => l.getD (a - 1) eLook.d
  | false => ⟨10, 0⟩
def sMove (l : List Look) (a : Nat) (n : Int) : List Look := match decide (n < 0) with
  | true => l.take a ++ l.drop ((a : Int) - n).toNat
  | false => l.take a ++ List.replicate n.toNat (sMoveLook l a) ++ l.drop a
set_option maxRecDepth 100000 in
set_option maxHeartbeats 8000000 in
theorem l6Move_c (v : Value) (l : List Look) (a : Nat) (n : Int) (hl : l.length ≤ 1000000) (ha : a ≤ l.length) (hn : -((l.length : Int) - a) ≤ n) (hn2 : n ≤ 1000000) : Spec Tryz.prog 49 [v, .int .i64 a, .int .i64 n] [rd eLook v l] [] (fun u : Value => u) (fun u => [row eLook 120 u (sMove l a n)]) (fun _ => True) := by
  refine Spec.mk Tryz.func49 rfl Tryz.ntmps49 rfl ?_
  intro w0 O hR hS0
  have hr := hR _ List.mem_cons_self; clear hR hS0
  repeat' (first | ((with_reducible apply iOJ); first | ((with_reducible apply iOp); refine OJ.p ?_) | with_reducible apply OJ.nil | ((with_reducible apply iOg); first | refine OJ.guardY ?_ | refine OJ.guardN ?_ | refine OJ.guardNd ?_ | refine OJ.guardU ?_ | refine OJ.guardS (fun _ => ?_) (fun _ => ?_) | fail) | ((with_reducible apply iOstore); first | (refine OJ.as AS.store ?_; rintro _ _ rfl) | (refine OJ.as AS.storeA ?_; rintro _ _ rfl) | (refine OJ.as AS.storeAV ?_; rintro _ _ rfl) | (refine OJ.as AS.storeE ?_; rintro _ _ rfl) | (refine OJ.as AS.storeEA ?_; rintro _ _ rfl) | (refine OJ.as AS.storeP ?_; rintro _ _ rfl) | fail) | ((with_reducible apply iOcall); first | (refine OJ.as AS.append1 ?_; rintro _ _ rfl) | (refine OJ.as AS.append ?_; rintro _ _ rfl) | fail) | ((with_reducible apply iObox); first | (refine OJ.as AS.box1 ?_; rintro _ _ ⟨_, rfl, rfl⟩) | (refine OJ.as AS.boxA ?_; rintro _ _ ⟨_, rfl, rfl⟩) | fail) | ((with_reducible apply iOalloc); first | (refine OJ.as AS.alloc ?_; rintro _ _ ⟨_, rfl, rfl⟩) | fail) | ((with_reducible apply iObuildSlice); first | (refine OJ.as AS.buildSlice ?_; rintro _ _ ⟨_, rfl, rfl⟩) | fail) | ((with_reducible apply iOmakeSlice); first | (refine OJ.as AS.makeSlice ?_; rintro _ _ rfl) | fail) | ((with_reducible apply iOmakeMap); first | (refine OJ.as AS.makeMap ?_; rintro _ _ ⟨_, rfl, rfl⟩) | fail) | ((with_reducible apply iOmapEntry); first | (refine OJ.as AS.mapEntry ?_; rintro _ _ ⟨_, _, rfl, rfl⟩) | fail) | ((with_reducible apply iOentryStore); first | (refine OJ.as AS.entryStore ?_; rintro _ _ rfl) | fail) | ((with_reducible apply iOinsert); first | (refine OJ.as AS.insert ?_; rintro _ _ rfl) | fail) | ((with_reducible apply iOmapUpdate); first | (refine OJ.as AS.mapUpdate ?_; rintro _ _ rfl) | fail) | refine OJ.unboxP fun _ => ?_ | fail) | ((with_reducible apply iJ); first | refine J.seq ?_ | refine J.region ?_ | refine J.block ?_ | refine J.skip ?_ | refine J.exit ?_ | refine J.condT ?_ | refine J.condF ?_ | refine J.cond (fun _ => ?_) (fun _ => ?_) | refine J.draw ?_ | refine J.ret (ends _ trivial rfl ?_) | fail) | ((with_reducible apply iJK); first | refine JK.code ?_ | refine JK.blk ?_ | refine JK.loop ?_ | refine JK.begin ?_ | refine JK.more ?_ | fail) | ((with_reducible apply iAJ); first | refine AJ.rebase ?_ | refine AJ.regain ?_ | refine AJ.take ?_ | refine AJ.takeY ?_ | refine AJ.takeN ?_ | refine AJ.takeNd ?_ | refine AJ.takeNS ?_ | refine AJ.takeU ?_ | refine AJ.sel ?_ | refine AJ.selY ?_ | refine AJ.sel2 ?_ ?_ | refine AJ.split (fun _ => ?_) (fun _ => ?_) | refine AJ.done ?_ | fail) | ((with_reducible apply iAO); first | ((with_reducible apply iAstore); first | (refine AO.as AS.store ?_; rotate_right; rintro _ _ rfl; refine AO.step ?_) | (refine AO.as AS.storeA ?_; rotate_right; rintro _ _ rfl; refine AO.step ?_) | (refine AO.as AS.storeAV ?_; rotate_right; rintro _ _ rfl; refine AO.step ?_) | (refine AO.as AS.storeE ?_; rotate_right; rintro _ _ rfl; refine AO.step ?_) | (refine AO.as AS.storeEA ?_; rotate_right; rintro _ _ rfl; refine AO.step ?_) | (refine AO.as AS.storeP ?_; rotate_right; rintro _ _ rfl; refine AO.step ?_) | fail) | ((with_reducible apply iAcall); first | (refine AO.as AS.append1 ?_; rotate_right; rintro _ _ rfl; refine AO.step ?_) | (refine AO.as AS.append ?_; rotate_right; rintro _ _ rfl; refine AO.step ?_) | fail) | ((with_reducible apply iAbox); first | (refine AO.as AS.box1 ?_; rotate_right; rintro _ _ ⟨_, rfl, rfl⟩; refine AO.step ?_) | (refine AO.as AS.boxA ?_; rotate_right; rintro _ _ ⟨_, rfl, rfl⟩; refine AO.step ?_) | fail) | ((with_reducible apply iAalloc); first | (refine AO.as AS.alloc ?_; rotate_right; rintro _ _ ⟨_, rfl, rfl⟩; refine AO.step ?_) | fail) | ((with_reducible apply iAbuildSlice); first | (refine AO.as AS.buildSlice ?_; rotate_right; rintro _ _ ⟨_, rfl, rfl⟩; refine AO.step ?_) | fail) | ((with_reducible apply iAmakeSlice); first | (refine AO.as AS.makeSlice ?_; rotate_right; rintro _ _ rfl; refine AO.step ?_) | fail) | ((with_reducible apply iAmakeMap); first | (refine AO.as AS.makeMap ?_; rotate_right; rintro _ _ ⟨_, rfl, rfl⟩; refine AO.step ?_) | fail) | ((with_reducible apply iAmapEntry); first | (refine AO.as AS.mapEntry ?_; rotate_right; rintro _ _ ⟨_, _, rfl, rfl⟩; refine AO.step ?_) | fail) | ((with_reducible apply iAentryStore); first | (refine AO.as AS.entryStore ?_; rotate_right; rintro _ _ rfl; refine AO.step ?_) | fail) | ((with_reducible apply iAinsert); first | (refine AO.as AS.insert ?_; rotate_right; rintro _ _ rfl; refine AO.step ?_) | fail) | ((with_reducible apply iAmapUpdate); first | (refine AO.as AS.mapUpdate ?_; rotate_right; rintro _ _ rfl; refine AO.step ?_) | fail) | fail) | ((with_reducible apply iEnt); first | exact Ent.nil | ((with_reducible apply iERow); refine Ent.row ?_ ?_) | ((with_reducible apply iEBox); first | refine Ent.box ?_ ?_ | refine Ent.box2 ?_ ?_) | ((with_reducible apply iEBlk); refine Ent.blk ?_ ?_) | ((with_reducible apply iEPure); refine Ent.pure ?_ ?_) | ((with_reducible apply iERdR); first | refine Ent.rdR ?_ | refine Ent.any ?_ | fail) | refine Ent.any ?_ | with_reducible exact Ent.refl | fail) | ((with_reducible apply iEq); with_reducible rfl) | fail)
  · simp [sMove, takeAll, *]
  · rename_i hn0 b0 u0 b u1 ha0 u2
    have ha1 : 0 < a := by omega
    refine J.loopV (fun j _ => j ≤ n.toNat) (fun j => n.toNat - j) (fun j u => [(9, .int .i64 (j : Nat)), (7, u), (8, .pointer (some ⟨b, 0, none⟩)), (0, v), (1, .int .i64 a), (2, .int .i64 n)]) (fun j u => [row eLook 120 u (l.take a ++ List.replicate j (l.getD ((a : Int) - 1).toNat eLook.d)), blk b (.cells #[.int .i64 (l.getD ((a : Int) - 1).toNat eLook.d).size, .int .i64 (l.getD ((a : Int) - 1).toNat eLook.d).mark] 120 (0, 0))]) 0 _ (Nat.zero_le _) ?_ (hL := by refine Ent.row ?_ ?_; (exact Ent.blkS Ent.nil); simp)
    intro j u hj ih
    repeat' (first | ((with_reducible apply iOJ); first | ((with_reducible apply iOp); refine OJ.p ?_) | with_reducible apply OJ.nil | ((with_reducible apply iOg); first | refine OJ.guardY ?_ | refine OJ.guardN ?_ | refine OJ.guardNd ?_ | refine OJ.guardU ?_ | refine OJ.guardS (fun _ => ?_) (fun _ => ?_) | fail) | ((with_reducible apply iOstore); first | (refine OJ.as AS.store ?_; rintro _ _ rfl) | (refine OJ.as AS.storeA ?_; rintro _ _ rfl) | (refine OJ.as AS.storeAV ?_; rintro _ _ rfl) | (refine OJ.as AS.storeE ?_; rintro _ _ rfl) | (refine OJ.as AS.storeEA ?_; rintro _ _ rfl) | (refine OJ.as AS.storeP ?_; rintro _ _ rfl) | fail) | ((with_reducible apply iOcall); first | (refine OJ.as AS.append1 ?_; rintro _ _ rfl) | (refine OJ.as AS.append ?_; rintro _ _ rfl) | fail) | ((with_reducible apply iObox); first | (refine OJ.as AS.box1 ?_; rintro _ _ ⟨_, rfl, rfl⟩) | (refine OJ.as AS.boxA ?_; rintro _ _ ⟨_, rfl, rfl⟩) | fail) | ((with_reducible apply iOalloc); first | (refine OJ.as AS.alloc ?_; rintro _ _ ⟨_, rfl, rfl⟩) | fail) | ((with_reducible apply iObuildSlice); first | (refine OJ.as AS.buildSlice ?_; rintro _ _ ⟨_, rfl, rfl⟩) | fail) | ((with_reducible apply iOmakeSlice); first | (refine OJ.as AS.makeSlice ?_; rintro _ _ rfl) | fail) | ((with_reducible apply iOmakeMap); first | (refine OJ.as AS.makeMap ?_; rintro _ _ ⟨_, rfl, rfl⟩) | fail) | ((with_reducible apply iOmapEntry); first | (refine OJ.as AS.mapEntry ?_; rintro _ _ ⟨_, _, rfl, rfl⟩) | fail) | ((with_reducible apply iOentryStore); first | (refine OJ.as AS.entryStore ?_; rintro _ _ rfl) | fail) | ((with_reducible apply iOinsert); first | (refine OJ.as AS.insert ?_; rintro _ _ rfl) | fail) | ((with_reducible apply iOmapUpdate); first | (refine OJ.as AS.mapUpdate ?_; rintro _ _ rfl) | fail) | refine OJ.unboxP fun _ => ?_ | fail) | ((with_reducible apply iJ); first | refine J.seq ?_ | refine J.region ?_ | refine J.block ?_ | refine J.skip ?_ | refine J.exit ?_ | refine J.condT ?_ | refine J.condF ?_ | refine J.cond (fun _ => ?_) (fun _ => ?_) | refine J.draw ?_ | refine J.ret (ends _ trivial rfl ?_) | fail) | ((with_reducible apply iJK); first | refine JK.code ?_ | refine JK.blk ?_ | refine JK.loop ?_ | refine JK.begin ?_ | refine JK.more ?_ | fail) | ((with_reducible apply iAJ); first | refine AJ.rebase ?_ | refine AJ.regain ?_ | refine AJ.take ?_ | refine AJ.takeY ?_ | refine AJ.takeN ?_ | refine AJ.takeNd ?_ | refine AJ.takeNS ?_ | refine AJ.takeU ?_ | refine AJ.sel ?_ | refine AJ.selY ?_ | refine AJ.sel2 ?_ ?_ | refine AJ.split (fun _ => ?_) (fun _ => ?_) | refine AJ.done ?_ | fail) | ((with_reducible apply iAO); first | ((with_reducible apply iAstore); first | (refine AO.as AS.store ?_; rotate_right; rintro _ _ rfl; refine AO.step ?_) | (refine AO.as AS.storeA ?_; rotate_right; rintro _ _ rfl; refine AO.step ?_) | (refine AO.as AS.storeAV ?_; rotate_right; rintro _ _ rfl; refine AO.step ?_) | (refine AO.as AS.storeE ?_; rotate_right; rintro _ _ rfl; refine AO.step ?_) | (refine AO.as AS.storeEA ?_; rotate_right; rintro _ _ rfl; refine AO.step ?_) | (refine AO.as AS.storeP ?_; rotate_right; rintro _ _ rfl; refine AO.step ?_) | fail) | ((with_reducible apply iAcall); first | (refine AO.as AS.append1 ?_; rotate_right; rintro _ _ rfl; refine AO.step ?_) | (refine AO.as AS.append ?_; rotate_right; rintro _ _ rfl; refine AO.step ?_) | fail) | ((with_reducible apply iAbox); first | (refine AO.as AS.box1 ?_; rotate_right; rintro _ _ ⟨_, rfl, rfl⟩; refine AO.step ?_) | (refine AO.as AS.boxA ?_; rotate_right; rintro _ _ ⟨_, rfl, rfl⟩; refine AO.step ?_) | fail) | ((with_reducible apply iAalloc); first | (refine AO.as AS.alloc ?_; rotate_right; rintro _ _ ⟨_, rfl, rfl⟩; refine AO.step ?_) | fail) | ((with_reducible apply iAbuildSlice); first | (refine AO.as AS.buildSlice ?_; rotate_right; rintro _ _ ⟨_, rfl, rfl⟩; refine AO.step ?_) | fail) | ((with_reducible apply iAmakeSlice); first | (refine AO.as AS.makeSlice ?_; rotate_right; rintro _ _ rfl; refine AO.step ?_) | fail) | ((with_reducible apply iAmakeMap); first | (refine AO.as AS.makeMap ?_; rotate_right; rintro _ _ ⟨_, rfl, rfl⟩; refine AO.step ?_) | fail) | ((with_reducible apply iAmapEntry); first | (refine AO.as AS.mapEntry ?_; rotate_right; rintro _ _ ⟨_, _, rfl, rfl⟩; refine AO.step ?_) | fail) | ((with_reducible apply iAentryStore); first | (refine AO.as AS.entryStore ?_; rotate_right; rintro _ _ rfl; refine AO.step ?_) | fail) | ((with_reducible apply iAinsert); first | (refine AO.as AS.insert ?_; rotate_right; rintro _ _ rfl; refine AO.step ?_) | fail) | ((with_reducible apply iAmapUpdate); first | (refine AO.as AS.mapUpdate ?_; rotate_right; rintro _ _ rfl; refine AO.step ?_) | fail) | fail) | ((with_reducible apply iJL); first | refine JL.useL (ih (j + 1) _ (by omega) (by omega)) ?_ | fail) | ((with_reducible apply iEnt); first | exact Ent.nil | ((with_reducible apply iERow); refine Ent.row ?_ ?_) | ((with_reducible apply iEBox); first | refine Ent.box ?_ ?_ | refine Ent.box2 ?_ ?_) | ((with_reducible apply iEBlk); refine Ent.blk ?_ ?_) | ((with_reducible apply iEPure); refine Ent.pure ?_ ?_) | ((with_reducible apply iERdR); first | refine Ent.rdR ?_ | refine Ent.any ?_ | fail) | refine Ent.any ?_ | with_reducible exact Ent.refl | fail) | ((with_reducible apply iEq); with_reducible rfl) | fail)
    · simp [List.replicate_succ']
    · simp [sMove, sMoveLook, takeAll, -List.getD_eq_getElem?_getD, toNat1, *, show j = n.toNat by omega]
  · rename_i hn0 b0 u1 b u2 ha0
    have ha1 : a = 0 := by omega
    refine J.loopV (fun j _ => j ≤ n.toNat) (fun j => n.toNat - j) (fun j u => [(9, .int .i64 (j : Nat)), (7, u), (8, .pointer (some ⟨b, 0, none⟩)), (0, v), (1, .int .i64 a), (2, .int .i64 n)]) (fun j u => [row eLook 120 u (l.take a ++ List.replicate j ((⟨10, 0⟩ : Look))), blk b (.cells #[.int .i64 ((⟨10, 0⟩ : Look)).size, .int .i64 ((⟨10, 0⟩ : Look)).mark] 120 (0, 0))]) 0 _ (Nat.zero_le _) ?_ (hL := by refine Ent.row ?_ ?_; (exact Ent.blkS Ent.nil); simp)
    intro j u hj ih
    repeat' (first | ((with_reducible apply iOJ); first | ((with_reducible apply iOp); refine OJ.p ?_) | with_reducible apply OJ.nil | ((with_reducible apply iOg); first | refine OJ.guardY ?_ | refine OJ.guardN ?_ | refine OJ.guardNd ?_ | refine OJ.guardU ?_ | refine OJ.guardS (fun _ => ?_) (fun _ => ?_) | fail) | ((with_reducible apply iOstore); first | (refine OJ.as AS.store ?_; rintro _ _ rfl) | (refine OJ.as AS.storeA ?_; rintro _ _ rfl) | (refine OJ.as AS.storeAV ?_; rintro _ _ rfl) | (refine OJ.as AS.storeE ?_; rintro _ _ rfl) | (refine OJ.as AS.storeEA ?_; rintro _ _ rfl) | (refine OJ.as AS.storeP ?_; rintro _ _ rfl) | fail) | ((with_reducible apply iOcall); first | (refine OJ.as AS.append1 ?_; rintro _ _ rfl) | (refine OJ.as AS.append ?_; rintro _ _ rfl) | fail) | ((with_reducible apply iObox); first | (refine OJ.as AS.box1 ?_; rintro _ _ ⟨_, rfl, rfl⟩) | (refine OJ.as AS.boxA ?_; rintro _ _ ⟨_, rfl, rfl⟩) | fail) | ((with_reducible apply iOalloc); first | (refine OJ.as AS.alloc ?_; rintro _ _ ⟨_, rfl, rfl⟩) | fail) | ((with_reducible apply iObuildSlice); first | (refine OJ.as AS.buildSlice ?_; rintro _ _ ⟨_, rfl, rfl⟩) | fail) | ((with_reducible apply iOmakeSlice); first | (refine OJ.as AS.makeSlice ?_; rintro _ _ rfl) | fail) | ((with_reducible apply iOmakeMap); first | (refine OJ.as AS.makeMap ?_; rintro _ _ ⟨_, rfl, rfl⟩) | fail) | ((with_reducible apply iOmapEntry); first | (refine OJ.as AS.mapEntry ?_; rintro _ _ ⟨_, _, rfl, rfl⟩) | fail) | ((with_reducible apply iOentryStore); first | (refine OJ.as AS.entryStore ?_; rintro _ _ rfl) | fail) | ((with_reducible apply iOinsert); first | (refine OJ.as AS.insert ?_; rintro _ _ rfl) | fail) | ((with_reducible apply iOmapUpdate); first | (refine OJ.as AS.mapUpdate ?_; rintro _ _ rfl) | fail) | refine OJ.unboxP fun _ => ?_ | fail) | ((with_reducible apply iJ); first | refine J.seq ?_ | refine J.region ?_ | refine J.block ?_ | refine J.skip ?_ | refine J.exit ?_ | refine J.condT ?_ | refine J.condF ?_ | refine J.cond (fun _ => ?_) (fun _ => ?_) | refine J.draw ?_ | refine J.ret (ends _ trivial rfl ?_) | fail) | ((with_reducible apply iJK); first | refine JK.code ?_ | refine JK.blk ?_ | refine JK.loop ?_ | refine JK.begin ?_ | refine JK.more ?_ | fail) | ((with_reducible apply iAJ); first | refine AJ.rebase ?_ | refine AJ.regain ?_ | refine AJ.take ?_ | refine AJ.takeY ?_ | refine AJ.takeN ?_ | refine AJ.takeNd ?_ | refine AJ.takeNS ?_ | refine AJ.takeU ?_ | refine AJ.sel ?_ | refine AJ.selY ?_ | refine AJ.sel2 ?_ ?_ | refine AJ.split (fun _ => ?_) (fun _ => ?_) | refine AJ.done ?_ | fail) | ((with_reducible apply iAO); first | ((with_reducible apply iAstore); first | (refine AO.as AS.store ?_; rotate_right; rintro _ _ rfl; refine AO.step ?_) | (refine AO.as AS.storeA ?_; rotate_right; rintro _ _ rfl; refine AO.step ?_) | (refine AO.as AS.storeAV ?_; rotate_right; rintro _ _ rfl; refine AO.step ?_) | (refine AO.as AS.storeE ?_; rotate_right; rintro _ _ rfl; refine AO.step ?_) | (refine AO.as AS.storeEA ?_; rotate_right; rintro _ _ rfl; refine AO.step ?_) | (refine AO.as AS.storeP ?_; rotate_right; rintro _ _ rfl; refine AO.step ?_) | fail) | ((with_reducible apply iAcall); first | (refine AO.as AS.append1 ?_; rotate_right; rintro _ _ rfl; refine AO.step ?_) | (refine AO.as AS.append ?_; rotate_right; rintro _ _ rfl; refine AO.step ?_) | fail) | ((with_reducible apply iAbox); first | (refine AO.as AS.box1 ?_; rotate_right; rintro _ _ ⟨_, rfl, rfl⟩; refine AO.step ?_) | (refine AO.as AS.boxA ?_; rotate_right; rintro _ _ ⟨_, rfl, rfl⟩; refine AO.step ?_) | fail) | ((with_reducible apply iAalloc); first | (refine AO.as AS.alloc ?_; rotate_right; rintro _ _ ⟨_, rfl, rfl⟩; refine AO.step ?_) | fail) | ((with_reducible apply iAbuildSlice); first | (refine AO.as AS.buildSlice ?_; rotate_right; rintro _ _ ⟨_, rfl, rfl⟩; refine AO.step ?_) | fail) | ((with_reducible apply iAmakeSlice); first | (refine AO.as AS.makeSlice ?_; rotate_right; rintro _ _ rfl; refine AO.step ?_) | fail) | ((with_reducible apply iAmakeMap); first | (refine AO.as AS.makeMap ?_; rotate_right; rintro _ _ ⟨_, rfl, rfl⟩; refine AO.step ?_) | fail) | ((with_reducible apply iAmapEntry); first | (refine AO.as AS.mapEntry ?_; rotate_right; rintro _ _ ⟨_, _, rfl, rfl⟩; refine AO.step ?_) | fail) | ((with_reducible apply iAentryStore); first | (refine AO.as AS.entryStore ?_; rotate_right; rintro _ _ rfl; refine AO.step ?_) | fail) | ((with_reducible apply iAinsert); first | (refine AO.as AS.insert ?_; rotate_right; rintro _ _ rfl; refine AO.step ?_) | fail) | ((with_reducible apply iAmapUpdate); first | (refine AO.as AS.mapUpdate ?_; rotate_right; rintro _ _ rfl; refine AO.step ?_) | fail) | fail) | ((with_reducible apply iJL); first | refine JL.useL (ih (j + 1) _ (by omega) (by omega)) ?_ | fail) | ((with_reducible apply iEnt); first | exact Ent.nil | ((with_reducible apply iERow); refine Ent.row ?_ ?_) | ((with_reducible apply iEBox); first | refine Ent.box ?_ ?_ | refine Ent.box2 ?_ ?_) | ((with_reducible apply iEBlk); refine Ent.blk ?_ ?_) | ((with_reducible apply iEPure); refine Ent.pure ?_ ?_) | ((with_reducible apply iERdR); first | refine Ent.rdR ?_ | refine Ent.any ?_ | fail) | refine Ent.any ?_ | with_reducible exact Ent.refl | fail) | ((with_reducible apply iEq); with_reducible rfl) | fail)
    · simp [List.replicate_succ']
    · simp [sMove, sMoveLook, takeAll, -List.getD_eq_getElem?_getD, toNat1, *, show j = n.toNat by omega]
end Go.SL

/- spec.SpansMove -/
set_option linter.unusedVariables false
set_option linter.unusedSimpArgs false
namespace Go.SL
open Go.RowKit Go.Proofs
theorem l6Looks_i (v : Value) (l : List Span) (c : Int) (h0 : 0 ≤ c) (h1 : c ≤ 1000000) : Spec Tryz.prog 50 [v, .int .i64 c] [rd eSpan v l] [] (fun u : Value => u) (fun u => [row eLook 120 u (sLooks l c.toNat)]) (fun _ => True) := by
  have h := l6Looks_c v l c.toNat (by omega)
  rwa [Int.toNat_of_nonneg h0] at h
theorem l6Move_i (v : Value) (l : List Look) (a n : Int) (h0 : 0 ≤ a) (hl : l.length ≤ 1000000) (ha : a ≤ l.length) (hn : -((l.length : Int) - a) ≤ n) (hn2 : n ≤ 1000000) : Spec Tryz.prog 49 [v, .int .i64 a, .int .i64 n] [rd eLook v l] [] (fun u : Value => u) (fun u => [row eLook 120 u (sMove l a.toNat n)]) (fun _ => True) := by
  have h := l6Move_c v l a.toNat n hl (by omega) (by omega) hn2
  rwa [Int.toNat_of_nonneg h0] at h
def sMoveOk (l : List Span) (c a n : Int) : Bool := sSpansOk l c && (inR a 0 c && inR n (w64 (0 - w64 (c - a))) (w64 (80 - c)))
def sSpansMove (l : List Span) (c a n : Int) : List Span := match sMoveOk l c a n with
  | true => sSpans (sMove (sLooks l c.toNat) a.toNat n)
  | false => []
theorem inR_eq {n lo hi : Int} : inR n lo hi = true ↔ lo ≤ n ∧ n ≤ hi := by simp [inR]
theorem ok_c {l : List Span} {c : Int} (h : sSpansOk l c = true) : 0 ≤ c ∧ c ≤ 80 := by
  simp only [sSpansOk, Bool.and_eq_true, inR_eq] at h
  exact h.2.2
theorem w64_in {n : Int} (h : -9223372036854775808 ≤ n ∧ n ≤ 9223372036854775807) : w64 n = n := IntWalk.i64_in n (by omega)
theorem ok_n {l : List Span} {c a n : Int} (h : sMoveOk l c a n = true) : (0 ≤ c ∧ c ≤ 80) ∧ (0 ≤ a ∧ a ≤ c) ∧ a - c ≤ n ∧ n ≤ 80 - c := by
  simp only [sMoveOk, Bool.and_eq_true, inR_eq] at h
  obtain ⟨h1, h2, h3⟩ := h
  have hc := ok_c h1
  rw [w64_in (n := c - a) (by omega), w64_in (by omega), w64_in (by omega)] at h3
  omega
theorem sMove_len {l : List Look} {a : Nat} {n : Int} (ha : a ≤ l.length) (hn : (a : Int) - l.length ≤ n) : ((sMove l a n).length : Int) = l.length + n := by
  unfold sMove
  split
  · rename_i h
    have := of_decide_eq_true h
    simp
    omega
  · rename_i h
    have := of_decide_eq_false h
    simp
    omega
set_option maxRecDepth 100000 in
set_option maxHeartbeats 8000000 in
theorem sSpansMove_c (v : Value) (l : List Span) (c a n : Int) : Spec Tryz.prog 25 [v, .int .i64 c, .int .i64 a, .int .i64 n] [rd eSpan v l] [] (fun u : Value => u) (fun u => [row eSpan 62 u (sSpansMove l c a n)]) (fun _ => True) := by
  refine Spec.mk Tryz.func25 rfl Tryz.ntmps25 rfl ?_
  intro w0 O hR hS0
  have hr := hR _ List.mem_cons_self; clear hR hS0
  cases hk : sMoveOk l c a n with
  | true =>
    have hb := ok_n hk
    have h1 : (sLooks l c.toNat).length = c.toNat := sLooks_len _ _
    have h2 := sMove_len (l := sLooks l c.toNat) (a := a.toNat) (n := n) (by omega) (by omega)
    have h3 : inR n (-(c - a)) (80 - c) = true := inR_eq.2 (by omega)
    have hk1 := hk
    simp only [sMoveOk, Bool.and_eq_true] at hk1
    repeat' (first | ((with_reducible apply iOJ); first | ((with_reducible apply iOp); refine OJ.p ?_) | with_reducible apply OJ.nil | ((with_reducible apply iOg); first | refine OJ.guardY ?_ | refine OJ.guardN ?_ | refine OJ.guardNd ?_ | refine OJ.guardU ?_ | refine OJ.guardS (fun _ => ?_) (fun _ => ?_) | fail) | ((with_reducible apply iOstore); first | (refine OJ.as AS.store ?_; rintro _ _ rfl) | (refine OJ.as AS.storeA ?_; rintro _ _ rfl) | (refine OJ.as AS.storeAV ?_; rintro _ _ rfl) | (refine OJ.as AS.storeE ?_; rintro _ _ rfl) | (refine OJ.as AS.storeEA ?_; rintro _ _ rfl) | (refine OJ.as AS.storeP ?_; rintro _ _ rfl) | fail) | ((with_reducible apply iOcall); first | (refine OJ.as AS.append1 ?_; rintro _ _ rfl) | (refine OJ.as AS.append ?_; rintro _ _ rfl) | (refine OJ.as (AS.call0 (SpansOk_c _ l _)) ?_; rotate_right; rintro _ _ ⟨y, hy, rfl, rfl⟩) | (refine OJ.as (AS.call0 (l1In_c _ _ _)) ?_; rotate_right; rintro _ _ ⟨y, hy, rfl, rfl⟩) | (refine OJ.as (AS.call1 (l6Looks_i _ l c (by omega) (by omega))) ?_; rotate_right; rintro _ _ ⟨y, hy, rfl, rfl⟩) | (refine OJ.as (AS.call1 (l6Move_i _ (sLooks l c.toNat) a n (by omega) (by omega) (by omega) (by omega) (by omega))) ?_; rotate_right; rintro _ _ ⟨y, hy, rfl, rfl⟩) | (refine OJ.as (AS.call1 (l6Spans_c _ (sMove (sLooks l c.toNat) a.toNat n) (by omega))) ?_; rotate_right; rintro _ _ ⟨y, hy, rfl, rfl⟩) | fail) | ((with_reducible apply iObox); first | (refine OJ.as AS.box1 ?_; rintro _ _ ⟨_, rfl, rfl⟩) | (refine OJ.as AS.boxA ?_; rintro _ _ ⟨_, rfl, rfl⟩) | fail) | ((with_reducible apply iOalloc); first | (refine OJ.as AS.alloc ?_; rintro _ _ ⟨_, rfl, rfl⟩) | fail) | ((with_reducible apply iObuildSlice); first | (refine OJ.as AS.buildSlice ?_; rintro _ _ ⟨_, rfl, rfl⟩) | fail) | ((with_reducible apply iOmakeSlice); first | (refine OJ.as AS.makeSlice ?_; rintro _ _ rfl) | fail) | ((with_reducible apply iOmakeMap); first | (refine OJ.as AS.makeMap ?_; rintro _ _ ⟨_, rfl, rfl⟩) | fail) | ((with_reducible apply iOmapEntry); first | (refine OJ.as AS.mapEntry ?_; rintro _ _ ⟨_, _, rfl, rfl⟩) | fail) | ((with_reducible apply iOentryStore); first | (refine OJ.as AS.entryStore ?_; rintro _ _ rfl) | fail) | ((with_reducible apply iOinsert); first | (refine OJ.as AS.insert ?_; rintro _ _ rfl) | fail) | ((with_reducible apply iOmapUpdate); first | (refine OJ.as AS.mapUpdate ?_; rintro _ _ rfl) | fail) | refine OJ.unboxP fun _ => ?_ | fail) | ((with_reducible apply iJ); first | refine J.seq ?_ | refine J.region ?_ | refine J.block ?_ | refine J.skip ?_ | refine J.exit ?_ | refine J.condT ?_ | refine J.condF ?_ | refine J.cond (fun _ => ?_) (fun _ => ?_) | refine J.draw ?_ | refine J.ret (ends _ trivial rfl ?_) | fail) | ((with_reducible apply iJK); first | refine JK.code ?_ | refine JK.blk ?_ | refine JK.loop ?_ | refine JK.begin ?_ | refine JK.more ?_ | fail) | ((with_reducible apply iAJ); first | refine AJ.rebase ?_ | refine AJ.regain ?_ | refine AJ.take ?_ | refine AJ.takeY ?_ | refine AJ.takeN ?_ | refine AJ.takeNd ?_ | refine AJ.takeNS ?_ | refine AJ.takeU ?_ | refine AJ.sel ?_ | refine AJ.selY ?_ | refine AJ.sel2 ?_ ?_ | refine AJ.split (fun _ => ?_) (fun _ => ?_) | refine AJ.done ?_ | fail) | ((with_reducible apply iAO); first | ((with_reducible apply iAstore); first | (refine AO.as AS.store ?_; rotate_right; rintro _ _ rfl; refine AO.step ?_) | (refine AO.as AS.storeA ?_; rotate_right; rintro _ _ rfl; refine AO.step ?_) | (refine AO.as AS.storeAV ?_; rotate_right; rintro _ _ rfl; refine AO.step ?_) | (refine AO.as AS.storeE ?_; rotate_right; rintro _ _ rfl; refine AO.step ?_) | (refine AO.as AS.storeEA ?_; rotate_right; rintro _ _ rfl; refine AO.step ?_) | (refine AO.as AS.storeP ?_; rotate_right; rintro _ _ rfl; refine AO.step ?_) | fail) | ((with_reducible apply iAcall); first | (refine AO.as AS.append1 ?_; rotate_right; rintro _ _ rfl; refine AO.step ?_) | (refine AO.as AS.append ?_; rotate_right; rintro _ _ rfl; refine AO.step ?_) | fail) | ((with_reducible apply iAbox); first | (refine AO.as AS.box1 ?_; rotate_right; rintro _ _ ⟨_, rfl, rfl⟩; refine AO.step ?_) | (refine AO.as AS.boxA ?_; rotate_right; rintro _ _ ⟨_, rfl, rfl⟩; refine AO.step ?_) | fail) | ((with_reducible apply iAalloc); first | (refine AO.as AS.alloc ?_; rotate_right; rintro _ _ ⟨_, rfl, rfl⟩; refine AO.step ?_) | fail) | ((with_reducible apply iAbuildSlice); first | (refine AO.as AS.buildSlice ?_; rotate_right; rintro _ _ ⟨_, rfl, rfl⟩; refine AO.step ?_) | fail) | ((with_reducible apply iAmakeSlice); first | (refine AO.as AS.makeSlice ?_; rotate_right; rintro _ _ rfl; refine AO.step ?_) | fail) | ((with_reducible apply iAmakeMap); first | (refine AO.as AS.makeMap ?_; rotate_right; rintro _ _ ⟨_, rfl, rfl⟩; refine AO.step ?_) | fail) | ((with_reducible apply iAmapEntry); first | (refine AO.as AS.mapEntry ?_; rotate_right; rintro _ _ ⟨_, _, rfl, rfl⟩; refine AO.step ?_) | fail) | ((with_reducible apply iAentryStore); first | (refine AO.as AS.entryStore ?_; rotate_right; rintro _ _ rfl; refine AO.step ?_) | fail) | ((with_reducible apply iAinsert); first | (refine AO.as AS.insert ?_; rotate_right; rintro _ _ rfl; refine AO.step ?_) | fail) | ((with_reducible apply iAmapUpdate); first | (refine AO.as AS.mapUpdate ?_; rotate_right; rintro _ _ rfl; refine AO.step ?_) | fail) | fail) | ((with_reducible apply iEnt); first | exact Ent.nil | ((with_reducible apply iERow); refine Ent.row ?_ ?_) | ((with_reducible apply iEBox); first | refine Ent.box ?_ ?_ | refine Ent.box2 ?_ ?_) | ((with_reducible apply iEBlk); refine Ent.blk ?_ ?_) | ((with_reducible apply iEPure); refine Ent.pure ?_ ?_) | ((with_reducible apply iERdR); first | refine Ent.rdR ?_ | refine Ent.any ?_ | fail) | refine Ent.any ?_ | with_reducible exact Ent.refl | fail) | ((with_reducible apply iEq); with_reducible rfl) | fail)
    all_goals clear hr
    all_goals first
      | (simp [sSpansMove, hk]; done)
      | (exfalso; simp_all; done)
  | false =>
    repeat' (first | ((with_reducible apply iOJ); first | ((with_reducible apply iOp); refine OJ.p ?_) | with_reducible apply OJ.nil | ((with_reducible apply iOg); first | refine OJ.guardY ?_ | refine OJ.guardN ?_ | refine OJ.guardNd ?_ | refine OJ.guardU ?_ | refine OJ.guardS (fun _ => ?_) (fun _ => ?_) | fail) | ((with_reducible apply iOstore); first | (refine OJ.as AS.store ?_; rintro _ _ rfl) | (refine OJ.as AS.storeA ?_; rintro _ _ rfl) | (refine OJ.as AS.storeAV ?_; rintro _ _ rfl) | (refine OJ.as AS.storeE ?_; rintro _ _ rfl) | (refine OJ.as AS.storeEA ?_; rintro _ _ rfl) | (refine OJ.as AS.storeP ?_; rintro _ _ rfl) | fail) | ((with_reducible apply iOcall); first | (refine OJ.as AS.append1 ?_; rintro _ _ rfl) | (refine OJ.as AS.append ?_; rintro _ _ rfl) | (refine OJ.as (AS.call0 (SpansOk_c _ l _)) ?_; rotate_right; rintro _ _ ⟨y, hy, rfl, rfl⟩) | (refine OJ.as (AS.call0 (l1In_c _ _ _)) ?_; rotate_right; rintro _ _ ⟨y, hy, rfl, rfl⟩) | fail) | ((with_reducible apply iObox); first | (refine OJ.as AS.box1 ?_; rintro _ _ ⟨_, rfl, rfl⟩) | (refine OJ.as AS.boxA ?_; rintro _ _ ⟨_, rfl, rfl⟩) | fail) | ((with_reducible apply iOalloc); first | (refine OJ.as AS.alloc ?_; rintro _ _ ⟨_, rfl, rfl⟩) | fail) | ((with_reducible apply iObuildSlice); first | (refine OJ.as AS.buildSlice ?_; rintro _ _ ⟨_, rfl, rfl⟩) | fail) | ((with_reducible apply iOmakeSlice); first | (refine OJ.as AS.makeSlice ?_; rintro _ _ rfl) | fail) | ((with_reducible apply iOmakeMap); first | (refine OJ.as AS.makeMap ?_; rintro _ _ ⟨_, rfl, rfl⟩) | fail) | ((with_reducible apply iOmapEntry); first | (refine OJ.as AS.mapEntry ?_; rintro _ _ ⟨_, _, rfl, rfl⟩) | fail) | ((with_reducible apply iOentryStore); first | (refine OJ.as AS.entryStore ?_; rintro _ _ rfl) | fail) | ((with_reducible apply iOinsert); first | (refine OJ.as AS.insert ?_; rintro _ _ rfl) | fail) | ((with_reducible apply iOmapUpdate); first | (refine OJ.as AS.mapUpdate ?_; rintro _ _ rfl) | fail) | refine OJ.unboxP fun _ => ?_ | fail) | ((with_reducible apply iJ); first | refine J.seq ?_ | refine J.region ?_ | refine J.block ?_ | refine J.skip ?_ | refine J.exit ?_ | refine J.condT ?_ | refine J.condF ?_ | refine J.cond (fun _ => ?_) (fun _ => ?_) | refine J.draw ?_ | refine J.ret (ends _ trivial rfl ?_) | fail) | ((with_reducible apply iJK); first | refine JK.code ?_ | refine JK.blk ?_ | refine JK.loop ?_ | refine JK.begin ?_ | refine JK.more ?_ | fail) | ((with_reducible apply iAJ); first | refine AJ.rebase ?_ | refine AJ.regain ?_ | refine AJ.take ?_ | refine AJ.takeY ?_ | refine AJ.takeN ?_ | refine AJ.takeNd ?_ | refine AJ.takeNS ?_ | refine AJ.takeU ?_ | refine AJ.sel ?_ | refine AJ.selY ?_ | refine AJ.sel2 ?_ ?_ | refine AJ.split (fun _ => ?_) (fun _ => ?_) | refine AJ.done ?_ | fail) | ((with_reducible apply iAO); first | ((with_reducible apply iAstore); first | (refine AO.as AS.store ?_; rotate_right; rintro _ _ rfl; refine AO.step ?_) | (refine AO.as AS.storeA ?_; rotate_right; rintro _ _ rfl; refine AO.step ?_) | (refine AO.as AS.storeAV ?_; rotate_right; rintro _ _ rfl; refine AO.step ?_) | (refine AO.as AS.storeE ?_; rotate_right; rintro _ _ rfl; refine AO.step ?_) | (refine AO.as AS.storeEA ?_; rotate_right; rintro _ _ rfl; refine AO.step ?_) | (refine AO.as AS.storeP ?_; rotate_right; rintro _ _ rfl; refine AO.step ?_) | fail) | ((with_reducible apply iAcall); first | (refine AO.as AS.append1 ?_; rotate_right; rintro _ _ rfl; refine AO.step ?_) | (refine AO.as AS.append ?_; rotate_right; rintro _ _ rfl; refine AO.step ?_) | fail) | ((with_reducible apply iAbox); first | (refine AO.as AS.box1 ?_; rotate_right; rintro _ _ ⟨_, rfl, rfl⟩; refine AO.step ?_) | (refine AO.as AS.boxA ?_; rotate_right; rintro _ _ ⟨_, rfl, rfl⟩; refine AO.step ?_) | fail) | ((with_reducible apply iAalloc); first | (refine AO.as AS.alloc ?_; rotate_right; rintro _ _ ⟨_, rfl, rfl⟩; refine AO.step ?_) | fail) | ((with_reducible apply iAbuildSlice); first | (refine AO.as AS.buildSlice ?_; rotate_right; rintro _ _ ⟨_, rfl, rfl⟩; refine AO.step ?_) | fail) | ((with_reducible apply iAmakeSlice); first | (refine AO.as AS.makeSlice ?_; rotate_right; rintro _ _ rfl; refine AO.step ?_) | fail) | ((with_reducible apply iAmakeMap); first | (refine AO.as AS.makeMap ?_; rotate_right; rintro _ _ ⟨_, rfl, rfl⟩; refine AO.step ?_) | fail) | ((with_reducible apply iAmapEntry); first | (refine AO.as AS.mapEntry ?_; rotate_right; rintro _ _ ⟨_, _, rfl, rfl⟩; refine AO.step ?_) | fail) | ((with_reducible apply iAentryStore); first | (refine AO.as AS.entryStore ?_; rotate_right; rintro _ _ rfl; refine AO.step ?_) | fail) | ((with_reducible apply iAinsert); first | (refine AO.as AS.insert ?_; rotate_right; rintro _ _ rfl; refine AO.step ?_) | fail) | ((with_reducible apply iAmapUpdate); first | (refine AO.as AS.mapUpdate ?_; rotate_right; rintro _ _ rfl; refine AO.step ?_) | fail) | fail) | ((with_reducible apply iEnt); first | exact Ent.nil | ((with_reducible apply iERow); refine Ent.row ?_ ?_) | ((with_reducible apply iEBox); first | refine Ent.box ?_ ?_ | refine Ent.box2 ?_ ?_) | ((with_reducible apply iEBlk); refine Ent.blk ?_ ?_) | ((with_reducible apply iEPure); refine Ent.pure ?_ ?_) | ((with_reducible apply iERdR); first | refine Ent.rdR ?_ | refine Ent.any ?_ | fail) | refine Ent.any ?_ | with_reducible exact Ent.refl | fail) | ((with_reducible apply iEq); with_reducible rfl) | fail)
    all_goals clear hr
    all_goals first
      | (simp [sSpansMove, hk]; done)
      | (exfalso; simp_all [sMoveOk, w64]; done)
end Go.SL

/- impl.looks.add -/
set_option linter.unusedVariables false
set_option linter.unusedSimpArgs false
namespace Go.SL
open Go.RowKit Go.Proofs
structure Stretch where
  look : Look
  many : Int
def eStretch : Enc Stretch where
  sz := 3
  f s := [.int .i64 s.look.size, .int .i64 s.look.mark, .int .i64 s.many]
  d := ⟨⟨0, 0⟩, 0⟩
  dec
    | [.int .i64 a, .int .i64 b, .int .i64 c] => some ⟨⟨a, b⟩, c⟩
    | _ => none
  pos := by decide
  len _ := rfl
  one x u hu := by simp at hu; rcases hu with h | h | h <;> (rw [h]; rfl)
  inv cs x h := by
    split at h
    · injection h with h; rw [← h]
    · cases h
instance : EncN 137 eStretch := ⟨trivial⟩
def addS (g : List Stretch) (x : Look) (n : Int) : List Stretch := match decide (n = 0) with
  | true => g
  | false => match decide (0 < g.length) && eqLk (g.getD (g.length - 1) eStretch.d).look x with
    | true => g.set (g.length - 1) ⟨(g.getD (g.length - 1) eStretch.d).look, w64 ((g.getD (g.length - 1) eStretch.d).many + n)⟩
    | false => g ++ [⟨x, n⟩]
set_option maxRecDepth 100000 in
set_option maxHeartbeats 4000000 in
theorem add_c (b : Nat) (g : List Stretch) (x : Look) (n : Int) (hg : g.length ≤ 1000000) : Spec Tryz.prog 57 [.pointer (some ⟨b, 0, none⟩), .agg #[.int .i64 x.size, .int .i64 x.mark], .int .i64 n]
    [] [boxR b 65 eStretch 137 g] (fun _ : Unit => .tuple #[]) (fun _ => [boxR b 65 eStretch 137 (addS g x n)]) (fun _ => True) := by
  refine Spec.mk Tryz.func57 rfl Tryz.ntmps57 rfl ?_
  intro w0 O hR hS0; clear hR hS0
  refine J.unbox fun v => ?_
  repeat' (first | ((with_reducible apply iOJ); first | ((with_reducible apply iOp); refine OJ.p ?_) | with_reducible apply OJ.nil | ((with_reducible apply iOg); first | refine OJ.guardY ?_ | refine OJ.guardN ?_ | refine OJ.guardNd ?_ | refine OJ.guardU ?_ | refine OJ.guardS (fun _ => ?_) (fun _ => ?_) | fail) | ((with_reducible apply iOstore); first | (refine OJ.as AS.store ?_; rintro _ _ rfl) | (refine OJ.as AS.storeA ?_; rintro _ _ rfl) | (refine OJ.as AS.storeAV ?_; rintro _ _ rfl) | (refine OJ.as AS.storeE ?_; rintro _ _ rfl) | (refine OJ.as AS.storeEA ?_; rintro _ _ rfl) | (refine OJ.as AS.storeP ?_; rintro _ _ rfl) | fail) | ((with_reducible apply iOcall); first | (refine OJ.as AS.append1 ?_; rintro _ _ rfl) | (refine OJ.as AS.append ?_; rintro _ _ rfl) | fail) | ((with_reducible apply iObox); first | (refine OJ.as AS.box1 ?_; rintro _ _ ⟨_, rfl, rfl⟩) | (refine OJ.as AS.boxA ?_; rintro _ _ ⟨_, rfl, rfl⟩) | fail) | ((with_reducible apply iOalloc); first | (refine OJ.as AS.alloc ?_; rintro _ _ ⟨_, rfl, rfl⟩) | fail) | ((with_reducible apply iObuildSlice); first | (refine OJ.as AS.buildSlice ?_; rintro _ _ ⟨_, rfl, rfl⟩) | fail) | ((with_reducible apply iOmakeSlice); first | (refine OJ.as AS.makeSlice ?_; rintro _ _ rfl) | fail) | ((with_reducible apply iOmakeMap); first | (refine OJ.as AS.makeMap ?_; rintro _ _ ⟨_, rfl, rfl⟩) | fail) | ((with_reducible apply iOmapEntry); first | (refine OJ.as AS.mapEntry ?_; rintro _ _ ⟨_, _, rfl, rfl⟩) | fail) | ((with_reducible apply iOentryStore); first | (refine OJ.as AS.entryStore ?_; rintro _ _ rfl) | fail) | ((with_reducible apply iOinsert); first | (refine OJ.as AS.insert ?_; rintro _ _ rfl) | fail) | ((with_reducible apply iOmapUpdate); first | (refine OJ.as AS.mapUpdate ?_; rintro _ _ rfl) | fail) | refine OJ.unboxP fun _ => ?_ | fail) | ((with_reducible apply iJ); first | refine J.seq ?_ | refine J.region ?_ | refine J.block ?_ | refine J.skip ?_ | refine J.exit ?_ | refine J.condT ?_ | refine J.condF ?_ | refine J.cond (fun _ => ?_) (fun _ => ?_) | refine J.draw ?_ | fail) | ((with_reducible apply iJK); first | refine JK.code ?_ | refine JK.blk ?_ | refine JK.loop ?_ | refine JK.begin ?_ | refine JK.more ?_ | refine JK.fin (ends () trivial rfl ?_) | fail) | ((with_reducible apply iAJ); first | refine AJ.rebase ?_ | refine AJ.regain ?_ | refine AJ.take ?_ | refine AJ.takeY ?_ | refine AJ.takeN ?_ | refine AJ.takeNd ?_ | refine AJ.takeNS ?_ | refine AJ.takeU ?_ | refine AJ.sel ?_ | refine AJ.selY ?_ | refine AJ.sel2 ?_ ?_ | refine AJ.split (fun _ => ?_) (fun _ => ?_) | refine AJ.done ?_ | fail) | ((with_reducible apply iAO); first | ((with_reducible apply iAstore); first | (refine AO.as AS.store ?_; rotate_right; rintro _ _ rfl; refine AO.step ?_) | (refine AO.as AS.storeA ?_; rotate_right; rintro _ _ rfl; refine AO.step ?_) | (refine AO.as AS.storeAV ?_; rotate_right; rintro _ _ rfl; refine AO.step ?_) | (refine AO.as AS.storeE ?_; rotate_right; rintro _ _ rfl; refine AO.step ?_) | (refine AO.as AS.storeEA ?_; rotate_right; rintro _ _ rfl; refine AO.step ?_) | (refine AO.as AS.storeP ?_; rotate_right; rintro _ _ rfl; refine AO.step ?_) | fail) | ((with_reducible apply iAcall); first | (refine AO.as AS.append1 ?_; rotate_right; rintro _ _ rfl; refine AO.step ?_) | (refine AO.as AS.append ?_; rotate_right; rintro _ _ rfl; refine AO.step ?_) | fail) | ((with_reducible apply iAbox); first | (refine AO.as AS.box1 ?_; rotate_right; rintro _ _ ⟨_, rfl, rfl⟩; refine AO.step ?_) | (refine AO.as AS.boxA ?_; rotate_right; rintro _ _ ⟨_, rfl, rfl⟩; refine AO.step ?_) | fail) | ((with_reducible apply iAalloc); first | (refine AO.as AS.alloc ?_; rotate_right; rintro _ _ ⟨_, rfl, rfl⟩; refine AO.step ?_) | fail) | ((with_reducible apply iAbuildSlice); first | (refine AO.as AS.buildSlice ?_; rotate_right; rintro _ _ ⟨_, rfl, rfl⟩; refine AO.step ?_) | fail) | ((with_reducible apply iAmakeSlice); first | (refine AO.as AS.makeSlice ?_; rotate_right; rintro _ _ rfl; refine AO.step ?_) | fail) | ((with_reducible apply iAmakeMap); first | (refine AO.as AS.makeMap ?_; rotate_right; rintro _ _ ⟨_, rfl, rfl⟩; refine AO.step ?_) | fail) | ((with_reducible apply iAmapEntry); first | (refine AO.as AS.mapEntry ?_; rotate_right; rintro _ _ ⟨_, _, rfl, rfl⟩; refine AO.step ?_) | fail) | ((with_reducible apply iAentryStore); first | (refine AO.as AS.entryStore ?_; rotate_right; rintro _ _ rfl; refine AO.step ?_) | fail) | ((with_reducible apply iAinsert); first | (refine AO.as AS.insert ?_; rotate_right; rintro _ _ rfl; refine AO.step ?_) | fail) | ((with_reducible apply iAmapUpdate); first | (refine AO.as AS.mapUpdate ?_; rotate_right; rintro _ _ rfl; refine AO.step ?_) | fail) | fail) | ((with_reducible apply iEnt); first | exact Ent.nil | ((with_reducible apply iERow); refine Ent.row ?_ ?_) | ((with_reducible apply iEBox); first | refine Ent.box ?_ ?_ | refine Ent.box2 ?_ ?_) | ((with_reducible apply iEBlk); refine Ent.blk ?_ ?_) | ((with_reducible apply iEPure); refine Ent.pure ?_ ?_) | ((with_reducible apply iERdR); first | refine Ent.rdR ?_ | refine Ent.any ?_ | fail) | refine Ent.any ?_ | with_reducible exact Ent.refl | fail) | ((with_reducible apply iEq); with_reducible rfl) | fail)
  all_goals try simp only [toNat1] at *
  · simp [addS, *]
  · have h4 : 0 < g.length := by omega
    simp [-List.getD_eq_getElem?_getD, toNat1, addS, eqLk, w64, *]
  · have h4 : 0 < g.length := by omega
    simp [-List.getD_eq_getElem?_getD, toNat1, addS, eqLk, w64, *]
  · have h4 : ¬ 0 < g.length := by omega
    simp [-List.getD_eq_getElem?_getD, toNat1, addS, *]
end Go.SL

/- impl.spanOk, impl.SpansOk, impl.plainLook -/
set_option linter.unusedVariables false
set_option linter.unusedSimpArgs false
namespace Go.SL
open Go.RowKit Go.Proofs
def iOk (s : Span) (n : Int) : Bool := decide (0 ≤ s.fr) && (decide (s.fr < n) && (decide (s.fr < s.to) && (decide (s.to ≤ n) && (decide (1 ≤ s.size) && (decide (s.size ≤ 40) && (decide (0 ≤ s.mark) && decide (s.mark ≤ 9)))))))
set_option maxRecDepth 100000 in
set_option maxHeartbeats 4000000 in
theorem iOk_c (s : Span) (n : Int) : Spec Tryz.prog 56 [.agg #[.int .i64 s.fr, .int .i64 s.to, .int .i64 s.size, .int .i64 s.mark], .int .i64 n] [] [] (fun _ : Unit => .bool (iOk s n)) (fun _ => []) (fun _ => True) := by
  refine Spec.mk Tryz.func56 rfl Tryz.ntmps56 rfl ?_
  intro w0 O hR hS0; clear hR hS0
  repeat' (first | ((with_reducible apply iOJ); first | ((with_reducible apply iOp); refine OJ.p ?_) | with_reducible apply OJ.nil | ((with_reducible apply iOg); first | refine OJ.guardY ?_ | refine OJ.guardN ?_ | refine OJ.guardNd ?_ | refine OJ.guardU ?_ | refine OJ.guardS (fun _ => ?_) (fun _ => ?_) | fail) | ((with_reducible apply iOstore); first | (refine OJ.as AS.store ?_; rintro _ _ rfl) | (refine OJ.as AS.storeA ?_; rintro _ _ rfl) | (refine OJ.as AS.storeAV ?_; rintro _ _ rfl) | (refine OJ.as AS.storeE ?_; rintro _ _ rfl) | (refine OJ.as AS.storeEA ?_; rintro _ _ rfl) | (refine OJ.as AS.storeP ?_; rintro _ _ rfl) | fail) | ((with_reducible apply iOcall); first | (refine OJ.as AS.append1 ?_; rintro _ _ rfl) | (refine OJ.as AS.append ?_; rintro _ _ rfl) | fail) | ((with_reducible apply iObox); first | (refine OJ.as AS.box1 ?_; rintro _ _ ⟨_, rfl, rfl⟩) | (refine OJ.as AS.boxA ?_; rintro _ _ ⟨_, rfl, rfl⟩) | fail) | ((with_reducible apply iOalloc); first | (refine OJ.as AS.alloc ?_; rintro _ _ ⟨_, rfl, rfl⟩) | fail) | ((with_reducible apply iObuildSlice); first | (refine OJ.as AS.buildSlice ?_; rintro _ _ ⟨_, rfl, rfl⟩) | fail) | ((with_reducible apply iOmakeSlice); first | (refine OJ.as AS.makeSlice ?_; rintro _ _ rfl) | fail) | ((with_reducible apply iOmakeMap); first | (refine OJ.as AS.makeMap ?_; rintro _ _ ⟨_, rfl, rfl⟩) | fail) | ((with_reducible apply iOmapEntry); first | (refine OJ.as AS.mapEntry ?_; rintro _ _ ⟨_, _, rfl, rfl⟩) | fail) | ((with_reducible apply iOentryStore); first | (refine OJ.as AS.entryStore ?_; rintro _ _ rfl) | fail) | ((with_reducible apply iOinsert); first | (refine OJ.as AS.insert ?_; rintro _ _ rfl) | fail) | ((with_reducible apply iOmapUpdate); first | (refine OJ.as AS.mapUpdate ?_; rintro _ _ rfl) | fail) | refine OJ.unboxP fun _ => ?_ | fail) | ((with_reducible apply iJ); first | refine J.seq ?_ | refine J.region ?_ | refine J.block ?_ | refine J.skip ?_ | refine J.exit ?_ | refine J.condT ?_ | refine J.condF ?_ | refine J.cond (fun _ => ?_) (fun _ => ?_) | refine J.retB ?_ | fail) | ((with_reducible apply iJK); first | refine JK.code ?_ | refine JK.blk ?_ | refine JK.loop ?_ | refine JK.begin ?_ | refine JK.more ?_ | fail) | ((with_reducible apply iEnt); first | exact Ent.nil | ((with_reducible apply iERow); refine Ent.row ?_ ?_) | ((with_reducible apply iEBox); first | refine Ent.box ?_ ?_ | refine Ent.box2 ?_ ?_) | ((with_reducible apply iEBlk); refine Ent.blk ?_ ?_) | ((with_reducible apply iEPure); refine Ent.pure ?_ ?_) | ((with_reducible apply iERdR); first | refine Ent.rdR ?_ | refine Ent.any ?_ | fail) | refine Ent.any ?_ | with_reducible exact Ent.refl | fail) | ((with_reducible apply iEq); with_reducible rfl) | fail)
  all_goals simp [iOk, *] <;> omega
def iAt (l : List Span) (n : Int) (i : Nat) : Bool := iOk (l.getD i eSpan.d) n && (decide (i = 0) || decide ((l.getD (i - 1) eSpan.d).to ≤ (l.getD i eSpan.d).fr))
def iSpansOk (l : List Span) (n : Int) : Bool := allI (iAt l n) (l.length - 0) 0 && (decide (0 ≤ n) && (decide (n ≤ 80) && decide (l.length ≤ 12)))
set_option maxRecDepth 100000 in
set_option maxHeartbeats 4000000 in
theorem iSpansOk_c (v : Value) (l : List Span) (n : Int) : Spec Tryz.prog 29 [v, .int .i64 n] [rd eSpan v l] [] (fun _ : Unit => .bool (iSpansOk l n)) (fun _ => []) (fun _ => True) := by
  refine Spec.mk Tryz.func29 rfl Tryz.ntmps29 rfl ?_
  intro w0 O hR hS0
  have hr := hR _ List.mem_cons_self; clear hR
  repeat' (first | ((with_reducible apply iOJ); first | ((with_reducible apply iOp); refine OJ.p ?_) | with_reducible apply OJ.nil | ((with_reducible apply iOg); first | refine OJ.guardY ?_ | refine OJ.guardN ?_ | refine OJ.guardNd ?_ | refine OJ.guardU ?_ | refine OJ.guardS (fun _ => ?_) (fun _ => ?_) | fail) | ((with_reducible apply iOstore); first | (refine OJ.as AS.store ?_; rintro _ _ rfl) | (refine OJ.as AS.storeA ?_; rintro _ _ rfl) | (refine OJ.as AS.storeAV ?_; rintro _ _ rfl) | (refine OJ.as AS.storeE ?_; rintro _ _ rfl) | (refine OJ.as AS.storeEA ?_; rintro _ _ rfl) | (refine OJ.as AS.storeP ?_; rintro _ _ rfl) | fail) | ((with_reducible apply iOcall); first | (refine OJ.as AS.append1 ?_; rintro _ _ rfl) | (refine OJ.as AS.append ?_; rintro _ _ rfl) | fail) | ((with_reducible apply iObox); first | (refine OJ.as AS.box1 ?_; rintro _ _ ⟨_, rfl, rfl⟩) | (refine OJ.as AS.boxA ?_; rintro _ _ ⟨_, rfl, rfl⟩) | fail) | ((with_reducible apply iOalloc); first | (refine OJ.as AS.alloc ?_; rintro _ _ ⟨_, rfl, rfl⟩) | fail) | ((with_reducible apply iObuildSlice); first | (refine OJ.as AS.buildSlice ?_; rintro _ _ ⟨_, rfl, rfl⟩) | fail) | ((with_reducible apply iOmakeSlice); first | (refine OJ.as AS.makeSlice ?_; rintro _ _ rfl) | fail) | ((with_reducible apply iOmakeMap); first | (refine OJ.as AS.makeMap ?_; rintro _ _ ⟨_, rfl, rfl⟩) | fail) | ((with_reducible apply iOmapEntry); first | (refine OJ.as AS.mapEntry ?_; rintro _ _ ⟨_, _, rfl, rfl⟩) | fail) | ((with_reducible apply iOentryStore); first | (refine OJ.as AS.entryStore ?_; rintro _ _ rfl) | fail) | ((with_reducible apply iOinsert); first | (refine OJ.as AS.insert ?_; rintro _ _ rfl) | fail) | ((with_reducible apply iOmapUpdate); first | (refine OJ.as AS.mapUpdate ?_; rintro _ _ rfl) | fail) | refine OJ.unboxP fun _ => ?_ | fail) | ((with_reducible apply iJ); first | refine J.seq ?_ | refine J.region ?_ | refine J.block ?_ | refine J.skip ?_ | refine J.exit ?_ | refine J.condT ?_ | refine J.condF ?_ | refine J.cond (fun _ => ?_) (fun _ => ?_) | fail) | ((with_reducible apply iJK); first | refine JK.code ?_ | refine JK.blk ?_ | refine JK.loop ?_ | refine JK.begin ?_ | refine JK.more ?_ | fail) | ((with_reducible apply iEnt); first | exact Ent.nil | ((with_reducible apply iERow); refine Ent.row ?_ ?_) | ((with_reducible apply iEBox); first | refine Ent.box ?_ ?_ | refine Ent.box2 ?_ ?_) | ((with_reducible apply iEBlk); refine Ent.blk ?_ ?_) | ((with_reducible apply iEPure); refine Ent.pure ?_ ?_) | ((with_reducible apply iERdR); first | refine Ent.rdR ?_ | refine Ent.any ?_ | fail) | refine Ent.any ?_ | with_reducible exact Ent.refl | fail) | ((with_reducible apply iEq); with_reducible rfl) | fail)
  refine J.loopI (fun i : Nat => i ≤ l.length ∧ iSpansOk l n = (allI (iAt l n) (l.length - i) i && (decide (0 ≤ n) && (decide (n ≤ 80) && decide (l.length ≤ 12))))) (fun i => l.length - i) (fun i => [(9, .int .i64 i), (8, .int .i64 l.length), (7, v), (0, v), (1, .int .i64 n)]) (fun _ => []) 0 ⟨Nat.zero_le _, rfl⟩ ?_
  rintro i ⟨hi, hm⟩ ih
  have hb := rd_bd (hr.h w0 hS0)
  repeat' (first | ((with_reducible apply iOJ); first | ((with_reducible apply iOp); refine OJ.p ?_) | with_reducible apply OJ.nil | ((with_reducible apply iOg); first | refine OJ.guardY ?_ | refine OJ.guardN ?_ | refine OJ.guardNd ?_ | refine OJ.guardU ?_ | refine OJ.guardS (fun _ => ?_) (fun _ => ?_) | fail) | ((with_reducible apply iOstore); first | (refine OJ.as AS.store ?_; rintro _ _ rfl) | (refine OJ.as AS.storeA ?_; rintro _ _ rfl) | (refine OJ.as AS.storeAV ?_; rintro _ _ rfl) | (refine OJ.as AS.storeE ?_; rintro _ _ rfl) | (refine OJ.as AS.storeEA ?_; rintro _ _ rfl) | (refine OJ.as AS.storeP ?_; rintro _ _ rfl) | fail) | ((with_reducible apply iOcall); first | (refine OJ.as AS.append1 ?_; rintro _ _ rfl) | (refine OJ.as AS.append ?_; rintro _ _ rfl) | fail) | ((with_reducible apply iObox); first | (refine OJ.as AS.box1 ?_; rintro _ _ ⟨_, rfl, rfl⟩) | (refine OJ.as AS.boxA ?_; rintro _ _ ⟨_, rfl, rfl⟩) | fail) | ((with_reducible apply iOalloc); first | (refine OJ.as AS.alloc ?_; rintro _ _ ⟨_, rfl, rfl⟩) | fail) | ((with_reducible apply iObuildSlice); first | (refine OJ.as AS.buildSlice ?_; rintro _ _ ⟨_, rfl, rfl⟩) | fail) | ((with_reducible apply iOmakeSlice); first | (refine OJ.as AS.makeSlice ?_; rintro _ _ rfl) | fail) | ((with_reducible apply iOmakeMap); first | (refine OJ.as AS.makeMap ?_; rintro _ _ ⟨_, rfl, rfl⟩) | fail) | ((with_reducible apply iOmapEntry); first | (refine OJ.as AS.mapEntry ?_; rintro _ _ ⟨_, _, rfl, rfl⟩) | fail) | ((with_reducible apply iOentryStore); first | (refine OJ.as AS.entryStore ?_; rintro _ _ rfl) | fail) | ((with_reducible apply iOinsert); first | (refine OJ.as AS.insert ?_; rintro _ _ rfl) | fail) | ((with_reducible apply iOmapUpdate); first | (refine OJ.as AS.mapUpdate ?_; rintro _ _ rfl) | fail) | refine OJ.unboxP fun _ => ?_ | fail) | ((with_reducible apply iJ); first | refine J.seq ?_ | refine J.region ?_ | refine J.block ?_ | refine J.skip ?_ | refine J.exit ?_ | refine J.condT ?_ | refine J.condF ?_ | refine J.cond (fun _ => ?_) (fun _ => ?_) | refine J.draw ?_ | refine J.retB (allI_off hm (by omega) ?_) | refine J.retB (allI_fin hm (by omega) ?_) | fail) | ((with_reducible apply iJK); first | refine JK.code ?_ | refine JK.blk ?_ | refine JK.loop ?_ | refine JK.begin ?_ | refine JK.more ?_ | fail) | ((with_reducible apply iAJ); first | refine AJ.rebase ?_ | refine AJ.regain ?_ | refine AJ.take ?_ | refine AJ.takeY ?_ | refine AJ.takeN ?_ | refine AJ.takeNd ?_ | refine AJ.takeNS ?_ | refine AJ.takeU ?_ | refine AJ.sel ?_ | refine AJ.selY ?_ | refine AJ.sel2 ?_ ?_ | refine AJ.split (fun _ => ?_) (fun _ => ?_) | refine AJ.done ?_ | fail) | ((with_reducible apply iAO); first | ((with_reducible apply iAstore); first | (refine AO.as AS.store ?_; rotate_right; rintro _ _ rfl; refine AO.step ?_) | (refine AO.as AS.storeA ?_; rotate_right; rintro _ _ rfl; refine AO.step ?_) | (refine AO.as AS.storeAV ?_; rotate_right; rintro _ _ rfl; refine AO.step ?_) | (refine AO.as AS.storeE ?_; rotate_right; rintro _ _ rfl; refine AO.step ?_) | (refine AO.as AS.storeEA ?_; rotate_right; rintro _ _ rfl; refine AO.step ?_) | (refine AO.as AS.storeP ?_; rotate_right; rintro _ _ rfl; refine AO.step ?_) | fail) | ((with_reducible apply iAcall); first | (refine AO.as AS.append1 ?_; rotate_right; rintro _ _ rfl; refine AO.step ?_) | (refine AO.as AS.append ?_; rotate_right; rintro _ _ rfl; refine AO.step ?_) | (refine AO.as (AS.call0 (iOk_c _ _)) ?_; rotate_right; rintro _ _ ⟨y, hy, rfl, rfl⟩; refine AO.step ?_) | fail) | ((with_reducible apply iAbox); first | (refine AO.as AS.box1 ?_; rotate_right; rintro _ _ ⟨_, rfl, rfl⟩; refine AO.step ?_) | (refine AO.as AS.boxA ?_; rotate_right; rintro _ _ ⟨_, rfl, rfl⟩; refine AO.step ?_) | fail) | ((with_reducible apply iAalloc); first | (refine AO.as AS.alloc ?_; rotate_right; rintro _ _ ⟨_, rfl, rfl⟩; refine AO.step ?_) | fail) | ((with_reducible apply iAbuildSlice); first | (refine AO.as AS.buildSlice ?_; rotate_right; rintro _ _ ⟨_, rfl, rfl⟩; refine AO.step ?_) | fail) | ((with_reducible apply iAmakeSlice); first | (refine AO.as AS.makeSlice ?_; rotate_right; rintro _ _ rfl; refine AO.step ?_) | fail) | ((with_reducible apply iAmakeMap); first | (refine AO.as AS.makeMap ?_; rotate_right; rintro _ _ ⟨_, rfl, rfl⟩; refine AO.step ?_) | fail) | ((with_reducible apply iAmapEntry); first | (refine AO.as AS.mapEntry ?_; rotate_right; rintro _ _ ⟨_, _, rfl, rfl⟩; refine AO.step ?_) | fail) | ((with_reducible apply iAentryStore); first | (refine AO.as AS.entryStore ?_; rotate_right; rintro _ _ rfl; refine AO.step ?_) | fail) | ((with_reducible apply iAinsert); first | (refine AO.as AS.insert ?_; rotate_right; rintro _ _ rfl; refine AO.step ?_) | fail) | ((with_reducible apply iAmapUpdate); first | (refine AO.as AS.mapUpdate ?_; rotate_right; rintro _ _ rfl; refine AO.step ?_) | fail) | fail) | ((with_reducible apply iJL); first | refine JL.use (ih (i + 1) ⟨by omega, allI_on hm (by omega) ?_⟩ (by omega)) | fail) | ((with_reducible apply iEnt); first | exact Ent.nil | ((with_reducible apply iERow); refine Ent.row ?_ ?_) | ((with_reducible apply iEBox); first | refine Ent.box ?_ ?_ | refine Ent.box2 ?_ ?_) | ((with_reducible apply iEBlk); refine Ent.blk ?_ ?_) | ((with_reducible apply iEPure); refine Ent.pure ?_ ?_) | ((with_reducible apply iERdR); first | refine Ent.rdR ?_ | refine Ent.any ?_ | fail) | refine Ent.any ?_ | with_reducible exact Ent.refl | fail) | ((with_reducible apply iEq); with_reducible rfl) | fail)
  all_goals clear ih hr hS0; try simp only [toNat1] at *
  all_goals simp [-List.getD_eq_getElem?_getD, toNat1, iAt, *] <;> omega
instance : EncN 101 eLook := ⟨trivial⟩
set_option maxRecDepth 100000 in
theorem plainLook_c : Spec Tryz.prog 58 [] [] [] (fun _ : Unit => .agg #[.int .i64 10, .int .i64 0]) (fun _ => []) (fun _ => True) := by
  refine Spec.mk Tryz.func58 rfl Tryz.ntmps58 rfl ?_
  intro w0 O hR hS0; clear hR hS0
  repeat' (first | ((with_reducible apply iOJ); first | ((with_reducible apply iOp); refine OJ.p ?_) | with_reducible apply OJ.nil | ((with_reducible apply iOg); first | refine OJ.guardY ?_ | refine OJ.guardN ?_ | refine OJ.guardNd ?_ | refine OJ.guardU ?_ | refine OJ.guardS (fun _ => ?_) (fun _ => ?_) | fail) | ((with_reducible apply iOstore); first | (refine OJ.as AS.store ?_; rintro _ _ rfl) | (refine OJ.as AS.storeA ?_; rintro _ _ rfl) | (refine OJ.as AS.storeAV ?_; rintro _ _ rfl) | (refine OJ.as AS.storeE ?_; rintro _ _ rfl) | (refine OJ.as AS.storeEA ?_; rintro _ _ rfl) | (refine OJ.as AS.storeP ?_; rintro _ _ rfl) | fail) | ((with_reducible apply iOcall); first | (refine OJ.as AS.append1 ?_; rintro _ _ rfl) | (refine OJ.as AS.append ?_; rintro _ _ rfl) | fail) | ((with_reducible apply iObox); first | (refine OJ.as AS.box1 ?_; rintro _ _ ⟨_, rfl, rfl⟩) | (refine OJ.as AS.boxA ?_; rintro _ _ ⟨_, rfl, rfl⟩) | fail) | ((with_reducible apply iOalloc); first | (refine OJ.as AS.alloc ?_; rintro _ _ ⟨_, rfl, rfl⟩) | fail) | ((with_reducible apply iObuildSlice); first | (refine OJ.as AS.buildSlice ?_; rintro _ _ ⟨_, rfl, rfl⟩) | fail) | ((with_reducible apply iOmakeSlice); first | (refine OJ.as AS.makeSlice ?_; rintro _ _ rfl) | fail) | ((with_reducible apply iOmakeMap); first | (refine OJ.as AS.makeMap ?_; rintro _ _ ⟨_, rfl, rfl⟩) | fail) | ((with_reducible apply iOmapEntry); first | (refine OJ.as AS.mapEntry ?_; rintro _ _ ⟨_, _, rfl, rfl⟩) | fail) | ((with_reducible apply iOentryStore); first | (refine OJ.as AS.entryStore ?_; rintro _ _ rfl) | fail) | ((with_reducible apply iOinsert); first | (refine OJ.as AS.insert ?_; rintro _ _ rfl) | fail) | ((with_reducible apply iOmapUpdate); first | (refine OJ.as AS.mapUpdate ?_; rintro _ _ rfl) | fail) | refine OJ.unboxP fun _ => ?_ | fail) | ((with_reducible apply iJ); first | refine J.seq ?_ | refine J.region ?_ | refine J.block ?_ | refine J.skip ?_ | refine J.exit ?_ | refine J.condT ?_ | refine J.condF ?_ | refine J.cond (fun _ => ?_) (fun _ => ?_) | refine J.retC (ends () trivial rfl ?_) | fail) | ((with_reducible apply iJK); first | refine JK.code ?_ | refine JK.blk ?_ | refine JK.loop ?_ | refine JK.begin ?_ | refine JK.more ?_ | fail) | ((with_reducible apply iEnt); first | exact Ent.nil | ((with_reducible apply iERow); refine Ent.row ?_ ?_) | ((with_reducible apply iEBox); first | refine Ent.box ?_ ?_ | refine Ent.box2 ?_ ?_) | ((with_reducible apply iEBlk); refine Ent.blk ?_ ?_) | ((with_reducible apply iEPure); refine Ent.pure ?_ ?_) | ((with_reducible apply iERdR); first | refine Ent.rdR ?_ | refine Ent.any ?_ | fail) | refine Ent.any ?_ | with_reducible exact Ent.refl | fail) | ((with_reducible apply iEq); with_reducible rfl) | fail)
end Go.SL

/- impl.looks.part, at -/
set_option linter.unusedVariables false
set_option linter.unusedSimpArgs false
namespace Go.SL
open Go.RowKit Go.Proofs
theorem addS_len (g : List Stretch) (x : Look) (n : Int) : (addS g x n).length ≤ g.length + 1 := by
  unfold addS
  split
  · omega
  · split <;> simp
def partN (a fr to : Int) (s : Stretch) : Int := max 0 (w64 (min (w64 (a + s.many)) to - max a fr))
def partS (fr to : Int) : List Stretch → Int → List Stretch → List Stretch
  | [], _, g => g
  | s :: l, a, g => partS fr to l (w64 (a + s.many)) (addS g s.look (partN a fr to s))
set_option maxRecDepth 100000 in
set_option maxHeartbeats 4000000 in
theorem part_c (b : Nat) (v : Value) (l g : List Stretch) (fr to : Int) (hg : g.length + l.length ≤ 1000000) : Spec Tryz.prog 71 [.pointer (some ⟨b, 0, none⟩), v, .int .i64 fr, .int .i64 to]
    [rd eStretch v l] [boxR b 65 eStretch 137 g] (fun _ : Unit => .tuple #[]) (fun _ => [boxR b 65 eStretch 137 (partS fr to l 0 g)]) (fun _ => True) := by
  refine Spec.mk Tryz.func71 rfl Tryz.ntmps71 rfl ?_
  intro w0 O hR hS0
  have hr := hR _ List.mem_cons_self; clear hR hS0
  repeat' (first | ((with_reducible apply iOJ); first | ((with_reducible apply iOp); refine OJ.p ?_) | with_reducible apply OJ.nil | ((with_reducible apply iOg); first | refine OJ.guardY ?_ | refine OJ.guardN ?_ | refine OJ.guardNd ?_ | refine OJ.guardU ?_ | refine OJ.guardS (fun _ => ?_) (fun _ => ?_) | fail) | ((with_reducible apply iOstore); first | (refine OJ.as AS.store ?_; rintro _ _ rfl) | (refine OJ.as AS.storeA ?_; rintro _ _ rfl) | (refine OJ.as AS.storeAV ?_; rintro _ _ rfl) | (refine OJ.as AS.storeE ?_; rintro _ _ rfl) | (refine OJ.as AS.storeEA ?_; rintro _ _ rfl) | (refine OJ.as AS.storeP ?_; rintro _ _ rfl) | fail) | ((with_reducible apply iOcall); first | (refine OJ.as AS.append1 ?_; rintro _ _ rfl) | (refine OJ.as AS.append ?_; rintro _ _ rfl) | fail) | ((with_reducible apply iObox); first | (refine OJ.as AS.box1 ?_; rintro _ _ ⟨_, rfl, rfl⟩) | (refine OJ.as AS.boxA ?_; rintro _ _ ⟨_, rfl, rfl⟩) | fail) | ((with_reducible apply iOalloc); first | (refine OJ.as AS.alloc ?_; rintro _ _ ⟨_, rfl, rfl⟩) | fail) | ((with_reducible apply iObuildSlice); first | (refine OJ.as AS.buildSlice ?_; rintro _ _ ⟨_, rfl, rfl⟩) | fail) | ((with_reducible apply iOmakeSlice); first | (refine OJ.as AS.makeSlice ?_; rintro _ _ rfl) | fail) | ((with_reducible apply iOmakeMap); first | (refine OJ.as AS.makeMap ?_; rintro _ _ ⟨_, rfl, rfl⟩) | fail) | ((with_reducible apply iOmapEntry); first | (refine OJ.as AS.mapEntry ?_; rintro _ _ ⟨_, _, rfl, rfl⟩) | fail) | ((with_reducible apply iOentryStore); first | (refine OJ.as AS.entryStore ?_; rintro _ _ rfl) | fail) | ((with_reducible apply iOinsert); first | (refine OJ.as AS.insert ?_; rintro _ _ rfl) | fail) | ((with_reducible apply iOmapUpdate); first | (refine OJ.as AS.mapUpdate ?_; rintro _ _ rfl) | fail) | refine OJ.unboxP fun _ => ?_ | fail) | ((with_reducible apply iJ); first | refine J.seq ?_ | refine J.region ?_ | refine J.block ?_ | refine J.skip ?_ | refine J.exit ?_ | refine J.condT ?_ | refine J.condF ?_ | refine J.cond (fun _ => ?_) (fun _ => ?_) | fail) | ((with_reducible apply iJK); first | refine JK.code ?_ | refine JK.blk ?_ | refine JK.loop ?_ | refine JK.begin ?_ | refine JK.more ?_ | fail) | ((with_reducible apply iEnt); first | exact Ent.nil | ((with_reducible apply iERow); refine Ent.row ?_ ?_) | ((with_reducible apply iEBox); first | refine Ent.box ?_ ?_ | refine Ent.box2 ?_ ?_) | ((with_reducible apply iEBlk); refine Ent.blk ?_ ?_) | ((with_reducible apply iEPure); refine Ent.pure ?_ ?_) | ((with_reducible apply iERdR); first | refine Ent.rdR ?_ | refine Ent.any ?_ | fail) | refine Ent.any ?_ | with_reducible exact Ent.refl | fail) | ((with_reducible apply iEq); with_reducible rfl) | fail)
  refine J.loopW (fun i (p : Int × List Stretch) _ => i ≤ l.length ∧ p.2.length + (l.length - i) ≤ 1000000 ∧ partS fr to l 0 g = partS fr to (l.drop i) p.1 p.2) (fun i => l.length - i)
    (fun i p _ => [(13, .int .i64 (i : Nat)), (12, .int .i64 l.length), (11, v), (8, .int .i64 p.1), (0, .pointer (some ⟨b, 0, none⟩)), (2, .int .i64 fr), (3, .int .i64 to)]) (fun _ p _ => [boxR b 65 eStretch 137 p.2]) 0 (0, g) undef ⟨Nat.zero_le _, hg, rfl⟩ ?_
  rintro i ⟨a, g'⟩ u ⟨hi, hl, hm⟩ ih
  have hl2 : g'.length ≤ 1000000 := by dsimp only at hl; omega
  repeat' (first | ((with_reducible apply iOJ); first | ((with_reducible apply iOp); refine OJ.p ?_) | with_reducible apply OJ.nil | ((with_reducible apply iOg); first | refine OJ.guardY ?_ | refine OJ.guardN ?_ | refine OJ.guardNd ?_ | refine OJ.guardU ?_ | refine OJ.guardS (fun _ => ?_) (fun _ => ?_) | fail) | ((with_reducible apply iOstore); first | (refine OJ.as AS.store ?_; rintro _ _ rfl) | (refine OJ.as AS.storeA ?_; rintro _ _ rfl) | (refine OJ.as AS.storeAV ?_; rintro _ _ rfl) | (refine OJ.as AS.storeE ?_; rintro _ _ rfl) | (refine OJ.as AS.storeEA ?_; rintro _ _ rfl) | (refine OJ.as AS.storeP ?_; rintro _ _ rfl) | fail) | ((with_reducible apply iOcall); first | (refine OJ.as AS.append1 ?_; rintro _ _ rfl) | (refine OJ.as AS.append ?_; rintro _ _ rfl) | (refine OJ.as (AS.call1 (add_c b g' (l.getD i eStretch.d).look _ hl2)) ?_; rotate_right; rintro _ _ ⟨y, hy, rfl, rfl⟩) | fail) | ((with_reducible apply iObox); first | (refine OJ.as AS.box1 ?_; rintro _ _ ⟨_, rfl, rfl⟩) | (refine OJ.as AS.boxA ?_; rintro _ _ ⟨_, rfl, rfl⟩) | fail) | ((with_reducible apply iOalloc); first | (refine OJ.as AS.alloc ?_; rintro _ _ ⟨_, rfl, rfl⟩) | fail) | ((with_reducible apply iObuildSlice); first | (refine OJ.as AS.buildSlice ?_; rintro _ _ ⟨_, rfl, rfl⟩) | fail) | ((with_reducible apply iOmakeSlice); first | (refine OJ.as AS.makeSlice ?_; rintro _ _ rfl) | fail) | ((with_reducible apply iOmakeMap); first | (refine OJ.as AS.makeMap ?_; rintro _ _ ⟨_, rfl, rfl⟩) | fail) | ((with_reducible apply iOmapEntry); first | (refine OJ.as AS.mapEntry ?_; rintro _ _ ⟨_, _, rfl, rfl⟩) | fail) | ((with_reducible apply iOentryStore); first | (refine OJ.as AS.entryStore ?_; rintro _ _ rfl) | fail) | ((with_reducible apply iOinsert); first | (refine OJ.as AS.insert ?_; rintro _ _ rfl) | fail) | ((with_reducible apply iOmapUpdate); first | (refine OJ.as AS.mapUpdate ?_; rintro _ _ rfl) | fail) | refine OJ.unboxP fun _ => ?_ | fail) | ((with_reducible apply iJ); first | refine J.seq ?_ | refine J.region ?_ | refine J.block ?_ | refine J.skip ?_ | refine J.exit ?_ | refine J.condT ?_ | refine J.condF ?_ | refine J.cond (fun _ => ?_) (fun _ => ?_) | refine J.draw ?_ | fail) | ((with_reducible apply iJK); first | refine JK.code ?_ | refine JK.blk ?_ | refine JK.loop ?_ | refine JK.begin ?_ | refine JK.more ?_ | refine JK.fin (ends () trivial rfl ?_) | fail) | ((with_reducible apply iAJ); first | refine AJ.rebase ?_ | refine AJ.regain ?_ | refine AJ.take ?_ | refine AJ.takeY ?_ | refine AJ.takeN ?_ | refine AJ.takeNd ?_ | refine AJ.takeNS ?_ | refine AJ.takeU ?_ | refine AJ.sel ?_ | refine AJ.selY ?_ | refine AJ.sel2 ?_ ?_ | refine AJ.split (fun _ => ?_) (fun _ => ?_) | refine AJ.done ?_ | fail) | ((with_reducible apply iAO); first | ((with_reducible apply iAstore); first | (refine AO.as AS.store ?_; rotate_right; rintro _ _ rfl; refine AO.step ?_) | (refine AO.as AS.storeA ?_; rotate_right; rintro _ _ rfl; refine AO.step ?_) | (refine AO.as AS.storeAV ?_; rotate_right; rintro _ _ rfl; refine AO.step ?_) | (refine AO.as AS.storeE ?_; rotate_right; rintro _ _ rfl; refine AO.step ?_) | (refine AO.as AS.storeEA ?_; rotate_right; rintro _ _ rfl; refine AO.step ?_) | (refine AO.as AS.storeP ?_; rotate_right; rintro _ _ rfl; refine AO.step ?_) | fail) | ((with_reducible apply iAcall); first | (refine AO.as AS.append1 ?_; rotate_right; rintro _ _ rfl; refine AO.step ?_) | (refine AO.as AS.append ?_; rotate_right; rintro _ _ rfl; refine AO.step ?_) | fail) | ((with_reducible apply iAbox); first | (refine AO.as AS.box1 ?_; rotate_right; rintro _ _ ⟨_, rfl, rfl⟩; refine AO.step ?_) | (refine AO.as AS.boxA ?_; rotate_right; rintro _ _ ⟨_, rfl, rfl⟩; refine AO.step ?_) | fail) | ((with_reducible apply iAalloc); first | (refine AO.as AS.alloc ?_; rotate_right; rintro _ _ ⟨_, rfl, rfl⟩; refine AO.step ?_) | fail) | ((with_reducible apply iAbuildSlice); first | (refine AO.as AS.buildSlice ?_; rotate_right; rintro _ _ ⟨_, rfl, rfl⟩; refine AO.step ?_) | fail) | ((with_reducible apply iAmakeSlice); first | (refine AO.as AS.makeSlice ?_; rotate_right; rintro _ _ rfl; refine AO.step ?_) | fail) | ((with_reducible apply iAmakeMap); first | (refine AO.as AS.makeMap ?_; rotate_right; rintro _ _ ⟨_, rfl, rfl⟩; refine AO.step ?_) | fail) | ((with_reducible apply iAmapEntry); first | (refine AO.as AS.mapEntry ?_; rotate_right; rintro _ _ ⟨_, _, rfl, rfl⟩; refine AO.step ?_) | fail) | ((with_reducible apply iAentryStore); first | (refine AO.as AS.entryStore ?_; rotate_right; rintro _ _ rfl; refine AO.step ?_) | fail) | ((with_reducible apply iAinsert); first | (refine AO.as AS.insert ?_; rotate_right; rintro _ _ rfl; refine AO.step ?_) | fail) | ((with_reducible apply iAmapUpdate); first | (refine AO.as AS.mapUpdate ?_; rotate_right; rintro _ _ rfl; refine AO.step ?_) | fail) | fail) | ((with_reducible apply iJL); first | refine JL.use (ih (i + 1) (w64 (a + (l.getD i eStretch.d).many), addS g' (l.getD i eStretch.d).look (partN a fr to (l.getD i eStretch.d))) undef ⟨by omega, ?_, ?_⟩ (by omega)) | fail) | ((with_reducible apply iEnt); first | exact Ent.nil | ((with_reducible apply iERow); refine Ent.row ?_ ?_) | ((with_reducible apply iEBox); first | refine Ent.box ?_ ?_ | refine Ent.box2 ?_ ?_) | ((with_reducible apply iEBlk); refine Ent.blk ?_ ?_) | ((with_reducible apply iEPure); refine Ent.pure ?_ ?_) | ((with_reducible apply iERdR); first | refine Ent.rdR ?_ | refine Ent.any ?_ | fail) | refine Ent.any ?_ | with_reducible exact Ent.refl | fail) | ((with_reducible apply iEq); with_reducible rfl) | fail)
  all_goals clear ih hr
  · have := addS_len g' (l.getD i eStretch.d).look (partN a fr to (l.getD i eStretch.d))
    dsimp only at hl ⊢
    omega
  · rw [hm, dropD (d := eStretch.d) (by omega)]
    rfl
  · rw [hm, List.drop_of_length_le (by omega)]
    rfl
def atS : List Stretch → Int → Look
  | [], _ => ⟨10, 0⟩
  | s :: l, k => match decide (k < s.many) with
    | true => s.look
    | false => atS l (w64 (k - s.many))
set_option maxRecDepth 100000 in
set_option maxHeartbeats 4000000 in
theorem at_c (v : Value) (l : List Stretch) (k : Int) : Spec Tryz.prog 72 [v, .int .i64 k] [rd eStretch v l] [] (fun _ : Unit => .agg #[.int .i64 (atS l k).size, .int .i64 (atS l k).mark]) (fun _ => []) (fun _ => True) := by
  refine Spec.mk Tryz.func72 rfl Tryz.ntmps72 rfl ?_
  intro w0 O hR hS0
  have hr := hR _ List.mem_cons_self; clear hR
  have hb := rd_bd (hr.h w0 hS0); clear hS0
  repeat' (first | ((with_reducible apply iOJ); first | ((with_reducible apply iOp); refine OJ.p ?_) | with_reducible apply OJ.nil | ((with_reducible apply iOg); first | refine OJ.guardY ?_ | refine OJ.guardN ?_ | refine OJ.guardNd ?_ | refine OJ.guardU ?_ | refine OJ.guardS (fun _ => ?_) (fun _ => ?_) | fail) | ((with_reducible apply iOstore); first | (refine OJ.as AS.store ?_; rintro _ _ rfl) | (refine OJ.as AS.storeA ?_; rintro _ _ rfl) | (refine OJ.as AS.storeAV ?_; rintro _ _ rfl) | (refine OJ.as AS.storeE ?_; rintro _ _ rfl) | (refine OJ.as AS.storeEA ?_; rintro _ _ rfl) | (refine OJ.as AS.storeP ?_; rintro _ _ rfl) | fail) | ((with_reducible apply iOcall); first | (refine OJ.as AS.append1 ?_; rintro _ _ rfl) | (refine OJ.as AS.append ?_; rintro _ _ rfl) | fail) | ((with_reducible apply iObox); first | (refine OJ.as AS.box1 ?_; rintro _ _ ⟨_, rfl, rfl⟩) | (refine OJ.as AS.boxA ?_; rintro _ _ ⟨_, rfl, rfl⟩) | fail) | ((with_reducible apply iOalloc); first | (refine OJ.as AS.alloc ?_; rintro _ _ ⟨_, rfl, rfl⟩) | fail) | ((with_reducible apply iObuildSlice); first | (refine OJ.as AS.buildSlice ?_; rintro _ _ ⟨_, rfl, rfl⟩) | fail) | ((with_reducible apply iOmakeSlice); first | (refine OJ.as AS.makeSlice ?_; rintro _ _ rfl) | fail) | ((with_reducible apply iOmakeMap); first | (refine OJ.as AS.makeMap ?_; rintro _ _ ⟨_, rfl, rfl⟩) | fail) | ((with_reducible apply iOmapEntry); first | (refine OJ.as AS.mapEntry ?_; rintro _ _ ⟨_, _, rfl, rfl⟩) | fail) | ((with_reducible apply iOentryStore); first | (refine OJ.as AS.entryStore ?_; rintro _ _ rfl) | fail) | ((with_reducible apply iOinsert); first | (refine OJ.as AS.insert ?_; rintro _ _ rfl) | fail) | ((with_reducible apply iOmapUpdate); first | (refine OJ.as AS.mapUpdate ?_; rintro _ _ rfl) | fail) | refine OJ.unboxP fun _ => ?_ | fail) | ((with_reducible apply iJ); first | refine J.seq ?_ | refine J.region ?_ | refine J.block ?_ | refine J.skip ?_ | refine J.exit ?_ | refine J.condT ?_ | refine J.condF ?_ | refine J.cond (fun _ => ?_) (fun _ => ?_) | fail) | ((with_reducible apply iJK); first | refine JK.code ?_ | refine JK.blk ?_ | refine JK.loop ?_ | refine JK.begin ?_ | refine JK.more ?_ | fail) | ((with_reducible apply iEnt); first | exact Ent.nil | ((with_reducible apply iERow); refine Ent.row ?_ ?_) | ((with_reducible apply iEBox); first | refine Ent.box ?_ ?_ | refine Ent.box2 ?_ ?_) | ((with_reducible apply iEBlk); refine Ent.blk ?_ ?_) | ((with_reducible apply iEPure); refine Ent.pure ?_ ?_) | ((with_reducible apply iERdR); first | refine Ent.rdR ?_ | refine Ent.any ?_ | fail) | refine Ent.any ?_ | with_reducible exact Ent.refl | fail) | ((with_reducible apply iEq); with_reducible rfl) | fail)
  rename_i b
  refine J.loopW (fun i (k' : Int) _ => i ≤ l.length ∧ atS l k = atS (l.drop i) k') (fun i => l.length - i)
    (fun i k' _ => [(9, .int .i64 (i : Nat)), (8, .int .i64 l.length), (7, v), (1, .int .i64 k'), (4, .pointer (some ⟨b, 0, none⟩))]) (fun _ _ _ => [blk b (.cells #[.int .i64 0, .int .i64 0] 101 (0, 0))]) 0 k undef ⟨Nat.zero_le _, rfl⟩ ?_
  rintro i k' u ⟨hi, hm⟩ ih
  repeat' (first | ((with_reducible apply iOJ); first | ((with_reducible apply iOp); refine OJ.p ?_) | with_reducible apply OJ.nil | ((with_reducible apply iOg); first | refine OJ.guardY ?_ | refine OJ.guardN ?_ | refine OJ.guardNd ?_ | refine OJ.guardU ?_ | refine OJ.guardS (fun _ => ?_) (fun _ => ?_) | fail) | ((with_reducible apply iOstore); first | (refine OJ.as AS.store ?_; rintro _ _ rfl) | (refine OJ.as AS.storeA ?_; rintro _ _ rfl) | (refine OJ.as AS.storeAV ?_; rintro _ _ rfl) | (refine OJ.as AS.storeE ?_; rintro _ _ rfl) | (refine OJ.as AS.storeEA ?_; rintro _ _ rfl) | (refine OJ.as AS.storeP ?_; rintro _ _ rfl) | fail) | ((with_reducible apply iOcall); first | (refine OJ.as AS.append1 ?_; rintro _ _ rfl) | (refine OJ.as AS.append ?_; rintro _ _ rfl) | (refine OJ.as (AS.call0 (plainLook_c)) ?_; rotate_right; rintro _ _ ⟨y, hy, rfl, rfl⟩) | fail) | ((with_reducible apply iObox); first | (refine OJ.as AS.box1 ?_; rintro _ _ ⟨_, rfl, rfl⟩) | (refine OJ.as AS.boxA ?_; rintro _ _ ⟨_, rfl, rfl⟩) | fail) | ((with_reducible apply iOalloc); first | (refine OJ.as AS.alloc ?_; rintro _ _ ⟨_, rfl, rfl⟩) | fail) | ((with_reducible apply iObuildSlice); first | (refine OJ.as AS.buildSlice ?_; rintro _ _ ⟨_, rfl, rfl⟩) | fail) | ((with_reducible apply iOmakeSlice); first | (refine OJ.as AS.makeSlice ?_; rintro _ _ rfl) | fail) | ((with_reducible apply iOmakeMap); first | (refine OJ.as AS.makeMap ?_; rintro _ _ ⟨_, rfl, rfl⟩) | fail) | ((with_reducible apply iOmapEntry); first | (refine OJ.as AS.mapEntry ?_; rintro _ _ ⟨_, _, rfl, rfl⟩) | fail) | ((with_reducible apply iOentryStore); first | (refine OJ.as AS.entryStore ?_; rintro _ _ rfl) | fail) | ((with_reducible apply iOinsert); first | (refine OJ.as AS.insert ?_; rintro _ _ rfl) | fail) | ((with_reducible apply iOmapUpdate); first | (refine OJ.as AS.mapUpdate ?_; rintro _ _ rfl) | fail) | refine OJ.unboxP fun _ => ?_ | fail) | ((with_reducible apply iJ); first | refine J.seq ?_ | refine J.region ?_ | refine J.block ?_ | refine J.skip ?_ | refine J.exit ?_ | refine J.condT ?_ | refine J.condF ?_ | refine J.cond (fun _ => ?_) (fun _ => ?_) | refine J.draw ?_ | refine J.retC (ends () trivial ?_ ?_) | fail) | ((with_reducible apply iJK); first | refine JK.code ?_ | refine JK.blk ?_ | refine JK.loop ?_ | refine JK.begin ?_ | refine JK.more ?_ | fail) | ((with_reducible apply iAJ); first | refine AJ.rebase ?_ | refine AJ.regain ?_ | refine AJ.take ?_ | refine AJ.takeY ?_ | refine AJ.takeN ?_ | refine AJ.takeNd ?_ | refine AJ.takeNS ?_ | refine AJ.takeU ?_ | refine AJ.sel ?_ | refine AJ.selY ?_ | refine AJ.sel2 ?_ ?_ | refine AJ.split (fun _ => ?_) (fun _ => ?_) | refine AJ.done ?_ | fail) | ((with_reducible apply iAO); first | ((with_reducible apply iAstore); first | (refine AO.as AS.store ?_; rotate_right; rintro _ _ rfl; refine AO.step ?_) | (refine AO.as AS.storeA ?_; rotate_right; rintro _ _ rfl; refine AO.step ?_) | (refine AO.as AS.storeAV ?_; rotate_right; rintro _ _ rfl; refine AO.step ?_) | (refine AO.as AS.storeE ?_; rotate_right; rintro _ _ rfl; refine AO.step ?_) | (refine AO.as AS.storeEA ?_; rotate_right; rintro _ _ rfl; refine AO.step ?_) | (refine AO.as AS.storeP ?_; rotate_right; rintro _ _ rfl; refine AO.step ?_) | fail) | ((with_reducible apply iAcall); first | (refine AO.as AS.append1 ?_; rotate_right; rintro _ _ rfl; refine AO.step ?_) | (refine AO.as AS.append ?_; rotate_right; rintro _ _ rfl; refine AO.step ?_) | fail) | ((with_reducible apply iAbox); first | (refine AO.as AS.box1 ?_; rotate_right; rintro _ _ ⟨_, rfl, rfl⟩; refine AO.step ?_) | (refine AO.as AS.boxA ?_; rotate_right; rintro _ _ ⟨_, rfl, rfl⟩; refine AO.step ?_) | fail) | ((with_reducible apply iAalloc); first | (refine AO.as AS.alloc ?_; rotate_right; rintro _ _ ⟨_, rfl, rfl⟩; refine AO.step ?_) | fail) | ((with_reducible apply iAbuildSlice); first | (refine AO.as AS.buildSlice ?_; rotate_right; rintro _ _ ⟨_, rfl, rfl⟩; refine AO.step ?_) | fail) | ((with_reducible apply iAmakeSlice); first | (refine AO.as AS.makeSlice ?_; rotate_right; rintro _ _ rfl; refine AO.step ?_) | fail) | ((with_reducible apply iAmakeMap); first | (refine AO.as AS.makeMap ?_; rotate_right; rintro _ _ ⟨_, rfl, rfl⟩; refine AO.step ?_) | fail) | ((with_reducible apply iAmapEntry); first | (refine AO.as AS.mapEntry ?_; rotate_right; rintro _ _ ⟨_, _, rfl, rfl⟩; refine AO.step ?_) | fail) | ((with_reducible apply iAentryStore); first | (refine AO.as AS.entryStore ?_; rotate_right; rintro _ _ rfl; refine AO.step ?_) | fail) | ((with_reducible apply iAinsert); first | (refine AO.as AS.insert ?_; rotate_right; rintro _ _ rfl; refine AO.step ?_) | fail) | ((with_reducible apply iAmapUpdate); first | (refine AO.as AS.mapUpdate ?_; rotate_right; rintro _ _ rfl; refine AO.step ?_) | fail) | fail) | ((with_reducible apply iJL); first | refine JL.use (ih (i + 1) (w64 (k' - (l.getD i eStretch.d).many)) undef ⟨by omega, ?_⟩ (by omega)) | fail) | ((with_reducible apply iEnt); first | exact Ent.nil | ((with_reducible apply iERow); refine Ent.row ?_ ?_) | ((with_reducible apply iEBox); first | refine Ent.box ?_ ?_ | refine Ent.box2 ?_ ?_) | ((with_reducible apply iEBlk); refine Ent.blk ?_ ?_) | ((with_reducible apply iEPure); refine Ent.pure ?_ ?_) | ((with_reducible apply iERdR); first | refine Ent.rdR ?_ | refine Ent.any ?_ | fail) | refine Ent.any ?_ | with_reducible exact Ent.refl | fail) | ((with_reducible apply iEq); with_reducible rfl) | fail)
  all_goals clear ih hr
  · rw [hm, dropD (d := eStretch.d) (by omega)]
    simp [-List.getD_eq_getElem?_getD, toNat1, atS, slc, *]
  · rw [hm, dropD (d := eStretch.d) (by omega)]
    simp [-List.getD_eq_getElem?_getD, toNat1, atS, *]
  · rw [hm, List.drop_of_length_le (by omega)]
    rfl
end Go.SL

/- impl.looksOf -/
set_option linter.unusedVariables false
set_option linter.unusedSimpArgs false
namespace Go.SL
open Go.RowKit Go.Proofs
def lookS (s : Span) : Look := ⟨s.size, s.mark⟩
def lof : List Span → Int → List Stretch → Int × List Stretch
  | [], a, g => (a, g)
  | s :: l, a, g => lof l s.to (addS (addS g ⟨10, 0⟩ (w64 (s.fr - a))) (lookS s) (w64 (s.to - s.fr)))
def looksOf (l : List Span) (c : Int) : List Stretch := addS (lof l 0 []).2 ⟨10, 0⟩ (w64 (c - (lof l 0 []).1))
theorem lof_len (l : List Span) : ∀ (a : Int) (g : List Stretch), (lof l a g).2.length ≤ g.length + 2 * l.length := by
  induction l with
  | nil => intro a g; simp [lof]
  | cons s l ih =>
    intro a g
    have h1 := ih s.to (addS (addS g ⟨10, 0⟩ (w64 (s.fr - a))) (lookS s) (w64 (s.to - s.fr)))
    have h2 := addS_len (addS g ⟨10, 0⟩ (w64 (s.fr - a))) (lookS s) (w64 (s.to - s.fr))
    have h3 := addS_len g ⟨10, 0⟩ (w64 (s.fr - a))
    simp only [lof, List.length_cons]
    omega
set_option maxRecDepth 100000 in
set_option maxHeartbeats 4000000 in
theorem looksOf_c (v : Value) (l : List Span) (c : Int) (hl : l.length ≤ 10000) : Spec Tryz.prog 30 [v, .int .i64 c] [rd eSpan v l] [] (fun u : Value => u) (fun u => [row eStretch 137 u (looksOf l c)]) (fun _ => True) := by
  refine Spec.mk Tryz.func30 rfl Tryz.ntmps30 rfl ?_
  intro w0 O hR hS0
  have hr := hR _ List.mem_cons_self; clear hR hS0
  repeat' (first | ((with_reducible apply iOJ); first | ((with_reducible apply iOp); refine OJ.p ?_) | with_reducible apply OJ.nil | ((with_reducible apply iOg); first | refine OJ.guardY ?_ | refine OJ.guardN ?_ | refine OJ.guardNd ?_ | refine OJ.guardU ?_ | refine OJ.guardS (fun _ => ?_) (fun _ => ?_) | fail) | ((with_reducible apply iOstore); first | (refine OJ.as AS.store ?_; rintro _ _ rfl) | (refine OJ.as AS.storeA ?_; rintro _ _ rfl) | (refine OJ.as AS.storeAV ?_; rintro _ _ rfl) | (refine OJ.as AS.storeE ?_; rintro _ _ rfl) | (refine OJ.as AS.storeEA ?_; rintro _ _ rfl) | (refine OJ.as AS.storeP ?_; rintro _ _ rfl) | fail) | ((with_reducible apply iOcall); first | (refine OJ.as AS.append1 ?_; rintro _ _ rfl) | (refine OJ.as AS.append ?_; rintro _ _ rfl) | fail) | ((with_reducible apply iObox); first | (refine OJ.as AS.box1 ?_; rintro _ _ ⟨_, rfl, rfl⟩) | (refine OJ.as AS.boxA ?_; rintro _ _ ⟨_, rfl, rfl⟩) | fail) | ((with_reducible apply iOalloc); first | (refine OJ.as AS.alloc ?_; rintro _ _ ⟨_, rfl, rfl⟩) | fail) | ((with_reducible apply iObuildSlice); first | (refine OJ.as AS.buildSlice ?_; rintro _ _ ⟨_, rfl, rfl⟩) | fail) | ((with_reducible apply iOmakeSlice); first | (refine OJ.as AS.makeSlice ?_; rintro _ _ rfl) | fail) | ((with_reducible apply iOmakeMap); first | (refine OJ.as AS.makeMap ?_; rintro _ _ ⟨_, rfl, rfl⟩) | fail) | ((with_reducible apply iOmapEntry); first | (refine OJ.as AS.mapEntry ?_; rintro _ _ ⟨_, _, rfl, rfl⟩) | fail) | ((with_reducible apply iOentryStore); first | (refine OJ.as AS.entryStore ?_; rintro _ _ rfl) | fail) | ((with_reducible apply iOinsert); first | (refine OJ.as AS.insert ?_; rintro _ _ rfl) | fail) | ((with_reducible apply iOmapUpdate); first | (refine OJ.as AS.mapUpdate ?_; rintro _ _ rfl) | fail) | refine OJ.unboxP fun _ => ?_ | fail) | ((with_reducible apply iJ); first | refine J.seq ?_ | refine J.region ?_ | refine J.block ?_ | refine J.skip ?_ | refine J.exit ?_ | refine J.condT ?_ | refine J.condF ?_ | refine J.cond (fun _ => ?_) (fun _ => ?_) | fail) | ((with_reducible apply iJK); first | refine JK.code ?_ | refine JK.blk ?_ | refine JK.loop ?_ | refine JK.begin ?_ | refine JK.more ?_ | fail) | ((with_reducible apply iEnt); first | exact Ent.nil | ((with_reducible apply iERow); refine Ent.row ?_ ?_) | ((with_reducible apply iEBox); first | refine Ent.box ?_ ?_ | refine Ent.box2 ?_ ?_) | ((with_reducible apply iEBlk); refine Ent.blk ?_ ?_) | ((with_reducible apply iEPure); refine Ent.pure ?_ ?_) | ((with_reducible apply iERdR); first | refine Ent.rdR ?_ | refine Ent.any ?_ | fail) | refine Ent.any ?_ | with_reducible exact Ent.refl | fail) | ((with_reducible apply iEq); with_reducible rfl) | fail)
  rename_i b
  refine J.loopW (fun i (p : Int × List Stretch) _ => i ≤ l.length ∧ p.2.length ≤ 2 * i ∧ lof l 0 [] = lof (l.drop i) p.1 p.2) (fun i => l.length - i)
    (fun i p _ => [(11, .int .i64 (i : Nat)), (10, .int .i64 l.length), (9, v), (6, .int .i64 p.1), (5, .pointer (some ⟨b, 0, none⟩)), (1, .int .i64 c)]) (fun _ p _ => [boxR b 65 eStretch 137 p.2]) 0 (0, []) undef ⟨Nat.zero_le _, Nat.zero_le _, rfl⟩ ?_
  rintro i ⟨a, g⟩ u ⟨hi, hg, hm⟩ ih
  have hg1 : g.length ≤ 1000000 := by dsimp only at hg; omega
  have hg2 : (addS g ⟨10, 0⟩ (w64 ((l.getD i eSpan.d).fr - a))).length ≤ 1000000 := by have := addS_len g ⟨10, 0⟩ (w64 ((l.getD i eSpan.d).fr - a)); dsimp only at hg; omega
  repeat' (first | ((with_reducible apply iOJ); first | ((with_reducible apply iOp); refine OJ.p ?_) | with_reducible apply OJ.nil | ((with_reducible apply iOg); first | refine OJ.guardY ?_ | refine OJ.guardN ?_ | refine OJ.guardNd ?_ | refine OJ.guardU ?_ | refine OJ.guardS (fun _ => ?_) (fun _ => ?_) | fail) | ((with_reducible apply iOstore); first | (refine OJ.as AS.store ?_; rintro _ _ rfl) | (refine OJ.as AS.storeA ?_; rintro _ _ rfl) | (refine OJ.as AS.storeAV ?_; rintro _ _ rfl) | (refine OJ.as AS.storeE ?_; rintro _ _ rfl) | (refine OJ.as AS.storeEA ?_; rintro _ _ rfl) | (refine OJ.as AS.storeP ?_; rintro _ _ rfl) | fail) | ((with_reducible apply iOcall); first | (refine OJ.as AS.append1 ?_; rintro _ _ rfl) | (refine OJ.as AS.append ?_; rintro _ _ rfl) | (refine OJ.as (AS.call0 (plainLook_c)) ?_; rotate_right; rintro _ _ ⟨y, hy, rfl, rfl⟩) | (refine OJ.as (AS.call1 (add_c b (addS g ⟨10, 0⟩ (w64 ((l.getD i eSpan.d).fr - a))) (lookS (l.getD i eSpan.d)) _ hg2)) ?_; rotate_right; rintro _ _ ⟨y, hy, rfl, rfl⟩) | (refine OJ.as (AS.call1 (add_c b g ⟨10, 0⟩ _ hg1)) ?_; rotate_right; rintro _ _ ⟨y, hy, rfl, rfl⟩) | fail) | ((with_reducible apply iObox); first | (refine OJ.as AS.box1 ?_; rintro _ _ ⟨_, rfl, rfl⟩) | (refine OJ.as AS.boxA ?_; rintro _ _ ⟨_, rfl, rfl⟩) | fail) | ((with_reducible apply iOalloc); first | (refine OJ.as AS.alloc ?_; rintro _ _ ⟨_, rfl, rfl⟩) | fail) | ((with_reducible apply iObuildSlice); first | (refine OJ.as AS.buildSlice ?_; rintro _ _ ⟨_, rfl, rfl⟩) | fail) | ((with_reducible apply iOmakeSlice); first | (refine OJ.as AS.makeSlice ?_; rintro _ _ rfl) | fail) | ((with_reducible apply iOmakeMap); first | (refine OJ.as AS.makeMap ?_; rintro _ _ ⟨_, rfl, rfl⟩) | fail) | ((with_reducible apply iOmapEntry); first | (refine OJ.as AS.mapEntry ?_; rintro _ _ ⟨_, _, rfl, rfl⟩) | fail) | ((with_reducible apply iOentryStore); first | (refine OJ.as AS.entryStore ?_; rintro _ _ rfl) | fail) | ((with_reducible apply iOinsert); first | (refine OJ.as AS.insert ?_; rintro _ _ rfl) | fail) | ((with_reducible apply iOmapUpdate); first | (refine OJ.as AS.mapUpdate ?_; rintro _ _ rfl) | fail) | refine OJ.unboxP fun _ => ?_ | fail) | ((with_reducible apply iJ); first | refine J.seq ?_ | refine J.region ?_ | refine J.block ?_ | refine J.skip ?_ | refine J.exit ?_ | refine J.condT ?_ | refine J.condF ?_ | refine J.cond (fun _ => ?_) (fun _ => ?_) | refine J.draw ?_ | refine J.ret (ends _ trivial rfl ?_) | fail) | ((with_reducible apply iJK); first | refine JK.code ?_ | refine JK.blk ?_ | refine JK.loop ?_ | refine JK.begin ?_ | refine JK.more ?_ | fail) | ((with_reducible apply iAJ); first | refine AJ.rebase ?_ | refine AJ.regain ?_ | refine AJ.take ?_ | refine AJ.takeY ?_ | refine AJ.takeN ?_ | refine AJ.takeNd ?_ | refine AJ.takeNS ?_ | refine AJ.takeU ?_ | refine AJ.sel ?_ | refine AJ.selY ?_ | refine AJ.sel2 ?_ ?_ | refine AJ.split (fun _ => ?_) (fun _ => ?_) | refine AJ.done ?_ | fail) | ((with_reducible apply iAO); first | ((with_reducible apply iAstore); first | (refine AO.as AS.store ?_; rotate_right; rintro _ _ rfl; refine AO.step ?_) | (refine AO.as AS.storeA ?_; rotate_right; rintro _ _ rfl; refine AO.step ?_) | (refine AO.as AS.storeAV ?_; rotate_right; rintro _ _ rfl; refine AO.step ?_) | (refine AO.as AS.storeE ?_; rotate_right; rintro _ _ rfl; refine AO.step ?_) | (refine AO.as AS.storeEA ?_; rotate_right; rintro _ _ rfl; refine AO.step ?_) | (refine AO.as AS.storeP ?_; rotate_right; rintro _ _ rfl; refine AO.step ?_) | fail) | ((with_reducible apply iAcall); first | (refine AO.as AS.append1 ?_; rotate_right; rintro _ _ rfl; refine AO.step ?_) | (refine AO.as AS.append ?_; rotate_right; rintro _ _ rfl; refine AO.step ?_) | (refine AO.as (AS.call0 (plainLook_c)) ?_; rotate_right; rintro _ _ ⟨y, hy, rfl, rfl⟩; refine AO.step ?_) | (refine AO.as (AS.call1 (add_c b g ⟨10, 0⟩ _ hg1)) ?_; rotate_right; rintro _ _ ⟨y, hy, rfl, rfl⟩; refine AO.step ?_) | fail) | ((with_reducible apply iAbox); first | (refine AO.as AS.box1 ?_; rotate_right; rintro _ _ ⟨_, rfl, rfl⟩; refine AO.step ?_) | (refine AO.as AS.boxA ?_; rotate_right; rintro _ _ ⟨_, rfl, rfl⟩; refine AO.step ?_) | fail) | ((with_reducible apply iAalloc); first | (refine AO.as AS.alloc ?_; rotate_right; rintro _ _ ⟨_, rfl, rfl⟩; refine AO.step ?_) | fail) | ((with_reducible apply iAbuildSlice); first | (refine AO.as AS.buildSlice ?_; rotate_right; rintro _ _ ⟨_, rfl, rfl⟩; refine AO.step ?_) | fail) | ((with_reducible apply iAmakeSlice); first | (refine AO.as AS.makeSlice ?_; rotate_right; rintro _ _ rfl; refine AO.step ?_) | fail) | ((with_reducible apply iAmakeMap); first | (refine AO.as AS.makeMap ?_; rotate_right; rintro _ _ ⟨_, rfl, rfl⟩; refine AO.step ?_) | fail) | ((with_reducible apply iAmapEntry); first | (refine AO.as AS.mapEntry ?_; rotate_right; rintro _ _ ⟨_, _, rfl, rfl⟩; refine AO.step ?_) | fail) | ((with_reducible apply iAentryStore); first | (refine AO.as AS.entryStore ?_; rotate_right; rintro _ _ rfl; refine AO.step ?_) | fail) | ((with_reducible apply iAinsert); first | (refine AO.as AS.insert ?_; rotate_right; rintro _ _ rfl; refine AO.step ?_) | fail) | ((with_reducible apply iAmapUpdate); first | (refine AO.as AS.mapUpdate ?_; rotate_right; rintro _ _ rfl; refine AO.step ?_) | fail) | fail) | ((with_reducible apply iJL); first | refine JL.use (ih (i + 1) ((l.getD i eSpan.d).to, addS (addS g ⟨10, 0⟩ (w64 ((l.getD i eSpan.d).fr - a))) (lookS (l.getD i eSpan.d)) (w64 ((l.getD i eSpan.d).to - (l.getD i eSpan.d).fr))) undef ⟨by omega, ?_, ?_⟩ (by omega)) | fail) | ((with_reducible apply iEnt); first | exact Ent.nil | ((with_reducible apply iERow); refine Ent.row ?_ ?_) | ((with_reducible apply iEBox); first | refine Ent.box ?_ ?_ | refine Ent.box2 ?_ ?_) | ((with_reducible apply iEBlk); refine Ent.blk ?_ ?_) | ((with_reducible apply iEPure); refine Ent.pure ?_ ?_) | ((with_reducible apply iERdR); first | refine Ent.rdR ?_ | refine Ent.any ?_ | fail) | refine Ent.any ?_ | with_reducible exact Ent.refl | fail) | ((with_reducible apply iEq); with_reducible rfl) | fail)
  all_goals clear hr ih
  · have h1 := addS_len (addS g ⟨10, 0⟩ (w64 ((l.getD i eSpan.d).fr - a))) (lookS (l.getD i eSpan.d)) (w64 ((l.getD i eSpan.d).to - (l.getD i eSpan.d).fr))
    have h2 := addS_len g ⟨10, 0⟩ (w64 ((l.getD i eSpan.d).fr - a))
    dsimp only at hg ⊢
    omega
  · rw [hm, dropD (d := eSpan.d) (by omega)]
    rfl
  · rw [looksOf, hm, List.drop_of_length_le (by omega)]
    rfl
end Go.SL

/- The plain law of spans: what impl's stretches say is what spec's looks say. -/
set_option linter.unusedVariables false
set_option linter.unusedSimpArgs false
namespace Go.SL
open Go.RowKit Go.Proofs
/-- The letters of stretches, one by one. -/
def ex (g : List Stretch) : List Look := g.flatMap fun s => List.replicate s.many.toNat s.look
def WFs : List Stretch → Prop
  | [] => True
  | [s] => 0 < s.many
  | s :: t :: r => 0 < s.many ∧ eqLk t.look s.look = false ∧ WFs (t :: r)
def pr (g : List Stretch) : List (Look × Nat) := g.map fun s => (s.look, s.many.toNat)
theorem groups_rep (x : Look) (l : List Look) : ∀ n, groups (List.replicate n x ++ l) = pushN x n (groups l)
  | 0 => rfl
  | n + 1 => by
    have h : ∀ n g, pushN x n (push x g) = push x (pushN x n g) := by
      intro n
      induction n with
      | zero => intro g; rfl
      | succ n ih => intro g; exact ih _
    rw [List.replicate_succ, List.cons_append]
    simp only [groups, pushN]
    rw [groups_rep x l n, h]
theorem groups_ex : ∀ (g : List Stretch), WFs g → groups (ex g) = pr g
  | [], _ => rfl
  | [s], h => by
    simp only [ex, List.flatMap_cons, List.flatMap_nil, pr, List.map_cons, List.map_nil]
    rw [groups_rep]
    exact pushN_end (by simp only [WFs] at h; omega)
  | s :: t :: r, h => by
    obtain ⟨h1, h2, h3⟩ := h
    have ih := groups_ex (t :: r) h3
    simp only [ex, pr, List.flatMap_cons, List.map_cons] at ih ⊢
    rw [groups_rep, ih]
    exact pushN_other (by omega) h2
theorem ex_append (g h : List Stretch) : ex (g ++ h) = ex g ++ ex h := by simp [ex]
theorem wf_snoc : ∀ (g : List Stretch) (s : Stretch), WFs g → 0 < s.many → (∀ t, g.getLast? = some t → eqLk s.look t.look = false) → WFs (g ++ [s])
  | [], s, _, hs, _ => hs
  | [t], s, h, hs, hl => ⟨h, hl t rfl, hs⟩
  | a :: b :: r, s, h, hs, hl => ⟨h.1, h.2.1, wf_snoc (b :: r) s h.2.2 hs (fun t ht => hl t (by simpa using ht))⟩
theorem wf_init : ∀ (g : List Stretch) (s : Stretch), WFs (g ++ [s]) → WFs g ∧ 0 < s.many ∧ (∀ t, g.getLast? = some t → eqLk s.look t.look = false)
  | [], s, h => ⟨trivial, h, fun t ht => by simp at ht⟩
  | [t], s, h => ⟨h.1, h.2.2, fun u hu => by simp at hu; rw [← hu]; exact h.2.1⟩
  | a :: b :: r, s, h => by
    obtain ⟨h1, h2, h3⟩ := wf_init (b :: r) s h.2.2
    exact ⟨⟨h.1, h.2.1, h1⟩, h2, fun t ht => h3 t (by simpa using ht)⟩
theorem eqLk_comm (a b : Look) : eqLk a b = eqLk b a := by
  unfold eqLk
  rw [show (a.size == b.size) = (b.size == a.size) from Bool.beq_comm, show (a.mark == b.mark) = (b.mark == a.mark) from Bool.beq_comm]
theorem add_snoc (g : List Stretch) (s : Stretch) (x : Look) (n : Int) (hn : n ≠ 0) : addS (g ++ [s]) x n = match eqLk s.look x with
    | true => g ++ [⟨s.look, w64 (s.many + n)⟩]
    | false => g ++ [s, ⟨x, n⟩] := by
  have h1 : (g ++ [s]).getD ((g ++ [s]).length - 1) eStretch.d = s := by simp [List.getD_eq_getElem?_getD]
  have h2 : decide (0 < (g ++ [s]).length) = true := by simp
  unfold addS
  rw [decide_eq_false hn, h1, h2, Bool.true_and]
  cases eqLk s.look x with
  | true =>
    simp only [List.length_append, List.length_cons, List.length_nil, Nat.zero_add, Nat.add_sub_cancel]
    rw [List.set_append_right _ _ (Nat.le_refl _), Nat.sub_self]
    rfl
  | false => simp
theorem addS_ok {g : List Stretch} {x : Look} {n : Int} (hw : WFs g) (h0 : 0 ≤ n) (hb : ((ex g).length : Int) + n ≤ 1000000) : WFs (addS g x n) ∧ ex (addS g x n) = ex g ++ List.replicate n.toNat x := by
  by_cases hn : n = 0
  · subst hn
    simp [addS, hw]
  rcases List.eq_nil_or_concat g with rfl | ⟨g', s, rfl⟩
  · have : addS [] x n = [⟨x, n⟩] := by simp [addS, hn]
    rw [this]
    exact ⟨by simp only [WFs]; omega, by simp [ex]⟩
  rw [List.concat_eq_append] at *
  obtain ⟨h1, h2, h3⟩ := wf_init g' s hw
  have hb' : s.many + n ≤ 1000000 := by
    rw [ex_append] at hb
    simp [ex] at hb
    omega
  rw [add_snoc g' s x n hn]
  cases he : eqLk s.look x with
  | true =>
    have hx := eqLk_eq he
    subst hx
    have hw64 : w64 (s.many + n) = s.many + n := w64_in (by omega)
    refine ⟨wf_snoc g' _ h1 (by show 0 < w64 _; rw [hw64]; omega) h3, ?_⟩
    rw [ex_append, ex_append, List.append_assoc]
    congr 1
    simp only [ex, List.flatMap_cons, List.flatMap_nil, List.append_nil, hw64]
    rw [show (s.many + n).toNat = s.many.toNat + n.toNat by omega, ← List.replicate_append_replicate]
  | false =>
    refine ⟨?_, ?_⟩
    · show WFs (g' ++ [s, ⟨x, n⟩])
      rw [show g' ++ [s, ⟨x, n⟩] = (g' ++ [s]) ++ [⟨x, n⟩] by simp]
      refine wf_snoc _ _ hw (by show 0 < n; omega) fun t ht => ?_
      simp at ht
      rw [← ht, eqLk_comm]
      exact he
    · show ex (g' ++ [s, ⟨x, n⟩]) = _
      simp [ex_append, ex]
/-- Stretches of letters, all in number. -/
def Pos (l : List Stretch) : Prop := ∀ s ∈ l, 0 < s.many
theorem WFs.pos : ∀ {g : List Stretch}, WFs g → Pos g
  | [], _, _, h => by cases h
  | [s], h, u, hu => by rw [List.mem_singleton.1 hu]; exact h
  | s :: t :: r, h, u, hu => by
    rcases List.mem_cons.1 hu with rfl | hu
    · exact h.1
    · exact WFs.pos h.2.2 u hu
theorem rep_slice (x : Look) (m T F : Nat) : ((List.replicate m x).take T).drop F = List.replicate (min m T - F) x := by
  rw [List.take_replicate, List.drop_replicate, Nat.min_comm]
theorem partS_ok {fr to : Int} : ∀ (l : List Stretch) (a : Int) (g : List Stretch), Pos l → 0 ≤ a → a + (ex l).length ≤ 100000 → ((ex g).length : Int) + (ex l).length ≤ 100000 → 0 ≤ fr → fr ≤ 100000 → 0 ≤ to → to ≤ 100000 → WFs g →
    WFs (partS fr to l a g) ∧ ex (partS fr to l a g) = ex g ++ ((ex l).take (to - a).toNat).drop (fr - a).toNat
  | [], a, g, _, _, _, _, _, _, _, _, hw => ⟨hw, by simp [partS, ex]⟩
  | s :: l, a, g, hp, ha, hl, hg, h1, h2, h3, h4, hw => by
    have hs := hp s List.mem_cons_self
    have hex : ex (s :: l) = List.replicate s.many.toNat s.look ++ ex l := rfl
    have hlen : ((ex (s :: l)).length : Int) = s.many + (ex l).length := by rw [hex]; simp; omega
    rw [hlen] at hl hg
    have e1 : w64 (a + s.many) = a + s.many := w64_in (by omega)
    have hN : partN a fr to s = max 0 (min (a + s.many) to - max a fr) := by
      unfold partN
      rw [e1, w64_in (by omega)]
    have hN0 : 0 ≤ partN a fr to s ∧ partN a fr to s ≤ s.many := by rw [hN]; omega
    obtain ⟨q1, q2⟩ := addS_ok (x := s.look) (n := partN a fr to s) hw hN0.1 (by omega)
    have hlen2 : ((ex (addS g s.look (partN a fr to s))).length : Int) = (ex g).length + partN a fr to s := by rw [q2]; simp; omega
    obtain ⟨r1, r2⟩ := partS_ok l (a + s.many) (addS g s.look (partN a fr to s)) (fun u hu => hp u (List.mem_cons_of_mem _ hu)) (by omega) (by omega) (by omega) h1 h2 h3 h4 q1
    have e2 : partS fr to (s :: l) a g = partS fr to l (a + s.many) (addS g s.look (partN a fr to s)) := by simp only [partS, e1]
    rw [e2]
    refine ⟨r1, ?_⟩
    rw [r2, q2, hex, List.take_append, List.drop_append, List.length_take, List.length_replicate, rep_slice, List.append_assoc]
    congr 2
    · congr 1
      rw [hN]; omega
    · by_cases hT : s.many.toNat ≤ (to - a).toNat
      · rw [show (to - a).toNat - s.many.toNat = (to - (a + s.many)).toNat by omega, show (fr - a).toNat - min (to - a).toNat s.many.toNat = (fr - (a + s.many)).toNat by omega]
      · rw [show (to - a).toNat - s.many.toNat = 0 by omega, show (to - (a + s.many)).toNat = 0 by omega]
        simp
/-! how letters look -/
/-- Spans one behind the other, from b on. -/
def chain (b : Int) : List Span → Prop
  | [] => True
  | s :: l => b ≤ s.fr ∧ s.fr < s.to ∧ chain s.to l
theorem chain_low : ∀ {l : List Span} {b c : Int}, chain b l → c ≤ b → chain c l
  | [], _, _, _, _ => trivial
  | _ :: _, _, _, h, hc => ⟨Int.le_trans hc h.1, h.2⟩
theorem sAtL_low : ∀ {l : List Span} {b i : Int}, chain b l → (∀ s ∈ l, s.to ≤ 1000000) → 0 ≤ b → i < b → sAtL i l = (10, 0)
  | [], _, _, _, _, _, _ => rfl
  | s :: l, b, i, h, hb, h0, hi => by
    obtain ⟨h1, h2, h3⟩ := h
    have hs := hb s List.mem_cons_self
    have : inR i s.fr (w64 (s.to - 1)) = false := by
      rw [w64_in (by omega)]
      simp [inR]; omega
    simp only [sAtL, this]
    exact sAtL_low h3 (fun u hu => hb u (List.mem_cons_of_mem _ hu)) (by omega) (by omega)
theorem lookOf_out {s : Span} {l : List Span} {i : Nat} (h1 : s.to ≤ 1000000) (h0 : 0 ≤ s.fr) (h2 : s.fr < s.to) (hi : s.to ≤ i) : lookOf (s :: l) i = lookOf l i := by
  have : inR (i : Int) s.fr (w64 (s.to - 1)) = false := by
    rw [w64_in (by omega)]
    simp [inR]; omega
  simp only [lookOf, sAtL, this]
theorem lookOf_in {s : Span} {l : List Span} {i : Nat} (h1 : s.to ≤ 1000000) (h0 : 0 ≤ s.fr) (h2 : s.fr ≤ i) (hi : (i : Int) < s.to) : lookOf (s :: l) i = lookS s := by
  have : inR (i : Int) s.fr (w64 (s.to - 1)) = true := by
    rw [w64_in (by omega)]
    simp [inR]; omega
  simp only [lookOf, sAtL, this, lookS]
theorem lookOf_low {l : List Span} {b : Int} {i : Nat} (h : chain b l) (hb : ∀ s ∈ l, s.to ≤ 1000000) (h0 : 0 ≤ b) (hi : (i : Int) < b) : lookOf l i = ⟨10, 0⟩ := by
  simp only [lookOf, sAtL_low h hb h0 hi]
theorem sLooks_add (L : List Span) (a n : Nat) (x : Look) (h : ∀ i, a ≤ i → i < a + n → lookOf L i = x) : sLooks L (a + n) = sLooks L a ++ List.replicate n x := by
  induction n with
  | zero => simp
  | succ n ih =>
    rw [← Nat.add_assoc, sLooks_succ, ih (fun i h1 h2 => h i h1 (by omega)), h (a + n) (by omega) (by omega), List.replicate_succ', List.append_assoc]
theorem lof_ok (L : List Span) (c : Int) (hc : c ≤ 100000) : ∀ (l : List Span) (a : Int) (g : List Stretch), chain a l → (∀ s ∈ l, s.to ≤ c) → 0 ≤ a → a ≤ c → (∀ i : Nat, a ≤ i → lookOf L i = lookOf l i) → WFs g → ex g = sLooks L a.toNat →
    WFs (lof l a g).2 ∧ ex (lof l a g).2 = sLooks L (lof l a g).1.toNat ∧ 0 ≤ (lof l a g).1 ∧ (lof l a g).1 ≤ c ∧ (∀ i : Nat, (lof l a g).1 ≤ i → lookOf L i = ⟨10, 0⟩)
  | [], a, g, _, _, h0, hac, hL, hw, he => ⟨hw, he, h0, hac, fun i hi => hL i hi⟩
  | s :: l, a, g, hch, hb, h0, hac, hL, hw, he => by
    obtain ⟨h1, h2, h3⟩ := hch
    have hs := hb s List.mem_cons_self
    have hbl : ∀ u ∈ s :: l, u.to ≤ 1000000 := fun u hu => by have := hb u hu; omega
    have hlen : (ex g).length = a.toNat := by rw [he, sLooks_len]
    have w1 : w64 (s.fr - a) = s.fr - a := w64_in (by omega)
    have w2 : w64 (s.to - s.fr) = s.to - s.fr := w64_in (by omega)
    obtain ⟨p1, p2⟩ := addS_ok (x := ⟨10, 0⟩) (n := s.fr - a) hw (by omega) (by omega)
    have p3 : ex (addS g ⟨10, 0⟩ (s.fr - a)) = sLooks L s.fr.toNat := by
      rw [p2, he, show s.fr.toNat = a.toNat + (s.fr - a).toNat by omega]
      exact (sLooks_add L _ _ _ fun i hi1 hi2 => by
        rw [hL i (by omega)]
        exact lookOf_low (b := s.fr) ⟨Int.le_refl _, h2, h3⟩ hbl (by omega) (by omega)).symm
    have hlen2 : (ex (addS g ⟨10, 0⟩ (s.fr - a))).length = s.fr.toNat := by rw [p3, sLooks_len]
    obtain ⟨q1, q2⟩ := addS_ok (x := lookS s) (n := s.to - s.fr) p1 (by omega) (by omega)
    have q3 : ex (addS (addS g ⟨10, 0⟩ (s.fr - a)) (lookS s) (s.to - s.fr)) = sLooks L s.to.toNat := by
      rw [q2, p3, show s.to.toNat = s.fr.toNat + (s.to - s.fr).toNat by omega]
      exact (sLooks_add L _ _ _ fun i hi1 hi2 => by
        rw [hL i (by omega)]
        exact lookOf_in (by omega) (by omega) (by omega) (by omega)).symm
    have := lof_ok L c hc l s.to _ h3 (fun u hu => hb u (List.mem_cons_of_mem _ hu)) (by omega) hs (fun i hi => by rw [hL i (by omega)]; exact lookOf_out (by omega) (by omega) h2 hi) q1 q3
    simp only [lof, w1, w2]
    exact this
theorem allI_all {f : Nat → Bool} : ∀ {m i : Nat}, allI f m i = true → ∀ j, i ≤ j → j < i + m → f j = true
  | 0, i, _, j, h1, h2 => by omega
  | m + 1, i, h, j, h1, h2 => by
    simp only [allI, Bool.and_eq_true] at h
    by_cases e : j = i
    · rw [e]; exact h.1
    · exact allI_all h.2 j (by omega) (by omega)
theorem all_allI {f : Nat → Bool} : ∀ {m i : Nat}, (∀ j, i ≤ j → j < i + m → f j = true) → allI f m i = true
  | 0, _, _ => rfl
  | m + 1, i, h => by
    simp only [allI, Bool.and_eq_true]
    exact ⟨h i (Nat.le_refl _) (by omega), all_allI fun j h1 h2 => h j (by omega) (by omega)⟩
theorem chain_of {n : Int} (hn : 0 ≤ n ∧ n ≤ 100000) : ∀ (l : List Span) (b : Int), (∀ i, i < l.length → 0 ≤ (l.getD i eSpan.d).fr ∧ (l.getD i eSpan.d).fr < (l.getD i eSpan.d).to ∧ (l.getD i eSpan.d).to ≤ n ∧ (0 < i → (l.getD (i - 1) eSpan.d).to ≤ (l.getD i eSpan.d).fr)) → (∀ s l', l = s :: l' → b ≤ s.fr) → chain b l ∧ ∀ s ∈ l, s.to ≤ n
  | [], b, _, _ => ⟨trivial, fun _ h => by cases h⟩
  | s :: l, b, h, hb => by
    have h0 := h 0 (by simp)
    simp only [List.getD_cons_zero] at h0
    obtain ⟨p, q⟩ := chain_of hn l s.to (fun i hi => by
      have := h (i + 1) (by simpa using hi)
      simp only [List.getD_cons_succ] at this
      refine ⟨this.1, this.2.1, this.2.2.1, fun hp => ?_⟩
      have h4 := this.2.2.2 (by omega)
      rw [show i + 1 - 1 = (i - 1) + 1 by omega, List.getD_cons_succ] at h4
      exact h4) (fun u l' e => by
      subst e
      have := (h 1 (by simp)).2.2.2 (by omega)
      simpa using this)
    exact ⟨⟨hb s l rfl, h0.2.1, p⟩, fun u hu => by
      rcases List.mem_cons.1 hu with rfl | hu
      · exact h0.2.2.1
      · exact q u hu⟩
theorem sl6Ok_in {s : Span} {n : Int} (hn : 0 ≤ n ∧ n ≤ 100000) : sl6Ok s n = iOk s n := by
  by_cases h : 0 ≤ s.fr ∧ s.fr < n
  · have e1 : w64 (n - 1) = n - 1 := w64_in (by omega)
    have e2 : w64 (s.fr + 1) = s.fr + 1 := w64_in (by omega)
    simp only [sl6Ok, iOk, inR, e1, e2]
    rw [Bool.eq_iff_iff]
    simp only [Bool.and_eq_true, decide_eq_true_eq]
    omega
  · have e1 : w64 (n - 1) = n - 1 := w64_in (by omega)
    rw [Bool.eq_iff_iff]
    simp only [sl6Ok, iOk, inR, e1, Bool.and_eq_true, decide_eq_true_eq]
    omega
theorem SpansOk_eq (l : List Span) (n : Int) : iSpansOk l n = sSpansOk l n := by
  by_cases hn : 0 ≤ n ∧ n ≤ 80
  · have e : iAt l n = sAt l n := by
      funext i
      simp only [iAt, sAt, sl6Ok_in (s := l.getD i eSpan.d) (n := n) (by omega)]
    simp only [iSpansOk, sSpansOk, e, inR]
    rw [Bool.eq_iff_iff]
    simp only [Bool.and_eq_true, decide_eq_true_eq]
    constructor <;> (rintro ⟨h1, h2⟩; exact ⟨h1, by omega⟩)
  · have h1 : iSpansOk l n = false := by
      cases h : iSpansOk l n with
      | false => rfl
      | true =>
        simp only [iSpansOk, Bool.and_eq_true, decide_eq_true_eq] at h
        omega
    have h2 : sSpansOk l n = false := by
      cases h : sSpansOk l n with
      | false => rfl
      | true => exact absurd (ok_c h) hn
    rw [h1, h2]
theorem chain_ok {l : List Span} {n : Int} (h : sSpansOk l n = true) : chain 0 l ∧ ∀ s ∈ l, s.to ≤ n := by
  have hn := ok_c h
  simp only [sSpansOk, Bool.and_eq_true] at h
  refine chain_of (by omega) l 0 (fun i hi => ?_) (fun s l' e => ?_)
  · have := allI_all h.1 i (Nat.zero_le _) (by omega)
    simp only [sAt, sl6Ok_in (s := l.getD i eSpan.d) (n := n) (by omega), iOk, Bool.and_eq_true, Bool.or_eq_true, decide_eq_true_eq] at this
    omega
  · subst e
    have := allI_all h.1 0 (Nat.le_refl _) (by simp)
    simp only [sAt, List.getD_cons_zero, sl6Ok_in (s := s) (n := n) (by omega), iOk, Bool.and_eq_true, Bool.or_eq_true, decide_eq_true_eq] at this
    omega
theorem looksOf_ok {l : List Span} {c : Int} (h : sSpansOk l c = true) : WFs (looksOf l c) ∧ ex (looksOf l c) = sLooks l c.toNat := by
  have hn := ok_c h
  obtain ⟨h1, h2⟩ := chain_ok h
  obtain ⟨p1, p2, p3, p4, p5⟩ := lof_ok l c (by omega) l 0 [] h1 h2 (by omega) hn.1 (fun _ _ => rfl) trivial rfl
  have hlen : (ex (lof l 0 []).2).length = (lof l 0 []).1.toNat := by rw [p2, sLooks_len]
  have w1 : w64 (c - (lof l 0 []).1) = c - (lof l 0 []).1 := w64_in (by omega)
  unfold looksOf
  rw [w1]
  obtain ⟨q1, q2⟩ := addS_ok (x := ⟨10, 0⟩) (n := c - (lof l 0 []).1) p1 (by omega) (by omega)
  refine ⟨q1, ?_⟩
  rw [q2, p2]
  generalize (lof l 0 []).1 = a at *
  rw [show c.toNat = a.toNat + (c - a).toNat by omega]
  exact (sLooks_add l _ _ _ fun i hi _ => p5 i (by omega)).symm
/-- impl.looks.spans, as a list. -/
def iSp : Int → List Stretch → List Span
  | _, [] => []
  | a, s :: l => match eqLk s.look ⟨10, 0⟩ with
    | true => iSp (w64 (a + s.many)) l
    | false => ⟨a, w64 (a + s.many), s.look.size, s.look.mark⟩ :: iSp (w64 (a + s.many)) l
theorem iSp_eq : ∀ (l : List Stretch) (a : Nat), Pos l → (a : Int) + (ex l).length ≤ 100000 → iSp a l = spansOf a (pr l)
  | [], _, _, _ => rfl
  | s :: l, a, hp, hb => by
    have hs := hp s List.mem_cons_self
    have hlen : ((ex (s :: l)).length : Int) = s.many + (ex l).length := by simp [ex]; omega
    rw [hlen] at hb
    have e1 : w64 ((a : Int) + s.many) = ((a + s.many.toNat : Nat) : Int) := by rw [w64_in (by omega)]; omega
    have ih := iSp_eq l (a + s.many.toNat) (fun u hu => hp u (List.mem_cons_of_mem _ hu)) (by omega)
    simp only [iSp, pr, List.map_cons, spansOf, e1]
    rw [ih]
    have : eqLk s.look ⟨10, 0⟩ = (decide (s.look.size = 10) && decide (s.look.mark = 0)) := by simp [eqLk, Bool.beq_eq_decide_eq]
    rw [this]
    cases (decide (s.look.size = 10) && decide (s.look.mark = 0)) <;> rfl
theorem iSp_spans {g : List Stretch} (h : WFs g) (hb : (ex g).length ≤ 100000) : iSp 0 g = sSpans (ex g) := by
  unfold sSpans
  rw [groups_ex g h]
  exact iSp_eq g 0 h.pos (by omega)
theorem atS_eq : ∀ (l : List Stretch) (k : Nat), Pos l → k ≤ 100000 → (ex l).length ≤ 100000 → atS l (k : Int) = (ex l).getD k ⟨10, 0⟩
  | [], k, _, _, _ => by simp [atS, ex]
  | s :: l, k, hp, hk0, hb => by
    have hs := hp s List.mem_cons_self
    have hex : ex (s :: l) = List.replicate s.many.toNat s.look ++ ex l := rfl
    have hlen : ((ex (s :: l)).length : Int) = s.many + (ex l).length := by rw [hex]; simp; omega
    simp only [atS]
    rw [hex]
    by_cases hk : (k : Int) < s.many
    · rw [decide_eq_true hk]
      simp only [List.getD_eq_getElem?_getD]
      rw [List.getElem?_append_left (by simp; omega), List.getElem?_replicate, if_pos (by omega)]
      rfl
    · rw [decide_eq_false hk]
      simp only
      rw [w64_in (by omega), show (k : Int) - s.many = ((k - s.many.toNat : Nat) : Int) by omega, atS_eq l _ (fun u hu => hp u (List.mem_cons_of_mem _ hu)) (by omega) (by omega)]
      simp only [List.getD_eq_getElem?_getD]
      rw [List.getElem?_append_right (by simp; omega)]
      simp
def iMoveOk (l : List Span) (c a n : Int) : Bool := iSpansOk l c && (decide (0 ≤ a) && (decide (a ≤ c) && (decide (n ≤ w64 (80 - c)) && decide (w64 (a - c) ≤ n))))
def iMoveG (was : List Stretch) (a n : Int) : List Stretch := match decide (0 < n) with
  | true => addS (partS 0 a was 0 []) (match decide (0 < a) with
    | true => atS was (w64 (a - 1))
    | false => ⟨10, 0⟩) n
  | false => partS 0 a was 0 []
def iMove (was : List Stretch) (c a n : Int) : List Stretch := partS (w64 (a - min n 0)) c was 0 (iMoveG was a n)
def iSpansMove (l : List Span) (c a n : Int) : List Span := match iMoveOk l c a n with
  | true => iSp 0 (iMove (looksOf l c) c a n)
  | false => []
theorem iMoveOk_eq (l : List Span) (c a n : Int) : iMoveOk l c a n = sMoveOk l c a n := by
  unfold iMoveOk sMoveOk
  rw [SpansOk_eq]
  cases h : sSpansOk l c with
  | false => rfl
  | true =>
    have hc := ok_c h
    by_cases ha : 0 ≤ a ∧ a ≤ c
    · rw [w64_in (n := c - a) (by omega), w64_in (n := 0 - (c - a)) (by omega), w64_in (n := 80 - c) (by omega), w64_in (n := a - c) (by omega)]
      rw [Bool.true_and, Bool.true_and, Bool.eq_iff_iff]
      simp only [inR, Bool.and_eq_true, decide_eq_true_eq]
      omega
    · rw [Bool.true_and, Bool.true_and, Bool.eq_iff_iff]
      simp only [inR, Bool.and_eq_true, decide_eq_true_eq]
      omega
theorem iMoveG_ok {l : List Span} {c a n : Int} (h : sMoveOk l c a n = true) : WFs (iMoveG (looksOf l c) a n) ∧ ex (iMoveG (looksOf l c) a n) = (sLooks l c.toNat).take a.toNat ++ List.replicate n.toNat (sMoveLook (sLooks l c.toNat) a.toNat) := by
  have hn := ok_n h
  have hs : sSpansOk l c = true := by simp only [sMoveOk, Bool.and_eq_true] at h; exact h.1
  obtain ⟨h1, h2⟩ := looksOf_ok hs
  have hlen : (ex (looksOf l c)).length = c.toNat := by rw [h2, sLooks_len]
  obtain ⟨p1, p2⟩ := partS_ok (fr := 0) (to := a) (looksOf l c) 0 [] h1.pos (by omega) (by omega) (by simp [ex] at *; omega) (by omega) (by omega) (by omega) (by omega) trivial
  have p3 : ex (partS 0 a (looksOf l c) 0 []) = (sLooks l c.toNat).take a.toNat := by
    rw [p2, h2]
    simp [ex]
  have hl3 : ((ex (partS 0 a (looksOf l c) 0 [])).length : Int) = a := by rw [p3, List.length_take, sLooks_len]; omega
  unfold iMoveG
  by_cases hp : 0 < n
  · rw [decide_eq_true hp]
    simp only
    have hx : (match decide (0 < a) with | true => atS (looksOf l c) (w64 (a - 1)) | false => ⟨10, 0⟩) = sMoveLook (sLooks l c.toNat) a.toNat := by
      by_cases ha : 0 < a
      · have : 0 < a.toNat := by omega
        simp only [sMoveLook, decide_eq_true ha, decide_eq_true this]
        rw [w64_in (by omega), show a - 1 = ((a.toNat - 1 : Nat) : Int) by omega, atS_eq _ _ h1.pos (by omega) (by omega), h2]
        have hl : a.toNat - 1 < (sLooks l c.toNat).length := by rw [sLooks_len]; omega
        simp [List.getD_eq_getElem?_getD, List.getElem?_eq_getElem hl]
      · have : ¬ 0 < a.toNat := by omega
        simp only [sMoveLook, decide_eq_false ha, decide_eq_false this]
    rw [hx]
    obtain ⟨q1, q2⟩ := addS_ok (x := sMoveLook (sLooks l c.toNat) a.toNat) (n := n) p1 (by omega) (by omega)
    exact ⟨q1, by rw [q2, p3]⟩
  · rw [decide_eq_false hp]
    refine ⟨p1, ?_⟩
    rw [p3, show n.toNat = 0 by omega]
    simp
theorem iSpansMove_eq (l : List Span) (c a n : Int) : iSpansMove l c a n = sSpansMove l c a n := by
  unfold iSpansMove sSpansMove
  rw [iMoveOk_eq]
  cases h : sMoveOk l c a n with
  | false => rfl
  | true =>
    have hn := ok_n h
    have hs : sSpansOk l c = true := by simp only [sMoveOk, Bool.and_eq_true] at h; exact h.1
    obtain ⟨h1, h2⟩ := looksOf_ok hs
    have hlen : (ex (looksOf l c)).length = c.toNat := by rw [h2, sLooks_len]
    obtain ⟨g1, g2⟩ := iMoveG_ok h
    have hlg : ((ex (iMoveG (looksOf l c) a n)).length : Int) = a + n.toNat := by rw [g2]; simp [sLooks_len]; omega
    have e1 : w64 (a - min n 0) = a - min n 0 := w64_in (by omega)
    obtain ⟨p1, p2⟩ := partS_ok (fr := a - min n 0) (to := c) (looksOf l c) 0 (iMoveG (looksOf l c) a n) h1.pos (by omega) (by omega) (by omega) (by omega) (by omega) (by omega) (by omega) g1
    have p3 : ex (iMove (looksOf l c) c a n) = sMove (sLooks l c.toNat) a.toNat n := by
      unfold iMove
      rw [e1, p2, g2, h2, Int.sub_zero, Int.sub_zero]
      rw [List.take_of_length_le (i := c.toNat) (by rw [sLooks_len]; exact Nat.le_refl _)]
      unfold sMove
      by_cases hp : n < 0
      · rw [decide_eq_true hp, show n.toNat = 0 by omega, show a - min n 0 = a - n by omega, show ((a.toNat : Int) - n).toNat = (a - n).toNat by omega]
        simp
      · rw [decide_eq_false hp, show (a - min n 0).toNat = a.toNat by omega]
    have hl3 : (ex (iMove (looksOf l c) c a n)).length ≤ 100000 := by
      have := sMove_len (l := sLooks l c.toNat) (a := a.toNat) (n := n) (by rw [sLooks_len]; omega) (by rw [sLooks_len]; omega)
      rw [sLooks_len] at this
      rw [p3]; omega
    have hw : WFs (iMove (looksOf l c) c a n) := by unfold iMove; rw [e1]; exact p1
    simp only
    rw [iSp_spans hw hl3, p3]
end Go.SL

/- impl.looks.spans, its iterator; slices.AppendSeq, slices.Collect; impl.looks.plain -/
set_option linter.unusedVariables false
set_option linter.unusedSimpArgs false
namespace Go.SL
open Go.RowKit Go.Proofs
def vSpan (s : Span) : Value := .agg #[.int .i64 s.fr, .int .i64 s.to, .int .i64 s.size, .int .i64 s.mark]
set_option maxRecDepth 100000 in
set_option maxHeartbeats 4000000 in
theorem spansIt (b : Nat) (v : Value) (l : List Stretch) : IterSpec Tryz.prog 81 [.pointer (some ⟨b, 0, none⟩)] [rd eStretch v l, holds b (.cells #[v] 65 (0, 0))] [] ((iSp 0 l).map fun s => [vSpan s]) := by
  refine IterSpec.mk' Tryz.func81 rfl Tryz.ntmps81 rfl ?_
  intro w0 O y Iy Ix hR hY
  have hr : ∀ k, Rd w0 O [Iy k] (rd eStretch v l) := fun k => (hR k).h _ List.mem_cons_self
  have hc : ∀ k, Rd w0 O [Iy k] (holds b (.cells #[v] 65 (0, 0))) := fun k => (hR k).h _ (List.mem_cons_of_mem _ List.mem_cons_self)
  clear hR
  have hr1 := hr 0
  have hc1 := hc 0
  repeat' (first | ((with_reducible apply iOJ); first | ((with_reducible apply iOp); refine OJ.p ?_) | with_reducible apply OJ.nil | ((with_reducible apply iOg); first | refine OJ.guardY ?_ | refine OJ.guardN ?_ | refine OJ.guardNd ?_ | refine OJ.guardU ?_ | refine OJ.guardS (fun _ => ?_) (fun _ => ?_) | fail) | ((with_reducible apply iOstore); first | (refine OJ.as AS.store ?_; rintro _ _ rfl) | (refine OJ.as AS.storeA ?_; rintro _ _ rfl) | (refine OJ.as AS.storeAV ?_; rintro _ _ rfl) | (refine OJ.as AS.storeE ?_; rintro _ _ rfl) | (refine OJ.as AS.storeEA ?_; rintro _ _ rfl) | (refine OJ.as AS.storeP ?_; rintro _ _ rfl) | fail) | ((with_reducible apply iOcall); first | (refine OJ.as AS.append1 ?_; rintro _ _ rfl) | (refine OJ.as AS.append ?_; rintro _ _ rfl) | fail) | ((with_reducible apply iObox); first | (refine OJ.as AS.box1 ?_; rintro _ _ ⟨_, rfl, rfl⟩) | (refine OJ.as AS.boxA ?_; rintro _ _ ⟨_, rfl, rfl⟩) | fail) | ((with_reducible apply iOalloc); first | (refine OJ.as AS.alloc ?_; rintro _ _ ⟨_, rfl, rfl⟩) | fail) | ((with_reducible apply iObuildSlice); first | (refine OJ.as AS.buildSlice ?_; rintro _ _ ⟨_, rfl, rfl⟩) | fail) | ((with_reducible apply iOmakeSlice); first | (refine OJ.as AS.makeSlice ?_; rintro _ _ rfl) | fail) | ((with_reducible apply iOmakeMap); first | (refine OJ.as AS.makeMap ?_; rintro _ _ ⟨_, rfl, rfl⟩) | fail) | ((with_reducible apply iOmapEntry); first | (refine OJ.as AS.mapEntry ?_; rintro _ _ ⟨_, _, rfl, rfl⟩) | fail) | ((with_reducible apply iOentryStore); first | (refine OJ.as AS.entryStore ?_; rintro _ _ rfl) | fail) | ((with_reducible apply iOinsert); first | (refine OJ.as AS.insert ?_; rintro _ _ rfl) | fail) | ((with_reducible apply iOmapUpdate); first | (refine OJ.as AS.mapUpdate ?_; rintro _ _ rfl) | fail) | refine OJ.unboxP fun _ => ?_ | fail) | ((with_reducible apply iJ); first | refine J.seq ?_ | refine J.region ?_ | refine J.block ?_ | refine J.skip ?_ | refine J.exit ?_ | refine J.condT ?_ | refine J.condF ?_ | refine J.cond (fun _ => ?_) (fun _ => ?_) | fail) | ((with_reducible apply iJK); first | refine JK.code ?_ | refine JK.blk ?_ | refine JK.loop ?_ | refine JK.begin ?_ | refine JK.more ?_ | fail) | ((with_reducible apply iEnt); first | exact Ent.nil | ((with_reducible apply iERow); refine Ent.row ?_ ?_) | ((with_reducible apply iEBox); first | refine Ent.box ?_ ?_ | refine Ent.box2 ?_ ?_) | ((with_reducible apply iEBlk); refine Ent.blk ?_ ?_) | ((with_reducible apply iEPure); refine Ent.pure ?_ ?_) | ((with_reducible apply iERdR); first | refine Ent.rdR ?_ | refine Ent.any ?_ | fail) | refine Ent.any ?_ | with_reducible exact Ent.refl | fail) | ((with_reducible apply iEq); with_reducible rfl) | fail)
  clear hr1 hc1
  refine J.loopW (fun i (p : Int × Nat) _ => i ≤ l.length ∧ ∃ done : List Span, done.length = p.2 ∧ iSp 0 l = done ++ iSp p.1 (l.drop i)) (fun i => l.length - i)
    (fun i p _ => [(8, .int .i64 (i : Nat)), (7, .int .i64 l.length), (6, v), (3, .int .i64 p.1), (0, yv y), (1, .pointer (some ⟨b, 0, none⟩))]) (fun _ p _ => [Iy p.2]) 0 (0, 0) undef ⟨Nat.zero_le _, [], rfl, rfl⟩ ?_
  rintro i ⟨a, n⟩ u ⟨hi, done, hn, hm⟩ ih
  dsimp only at hn hm
  have hr1 := hr n
  have hc1 := hc n
  refine J.know (R := rd eStretch v l) fun w hw => ?_
  have hb := rd_bd hw
  clear hw w
  have hx : i < l.length → eqLk (l.getD i eStretch.d).look ⟨10, 0⟩ = false → ((iSp 0 l).map fun s => [vSpan s])[n]? = some [vSpan ⟨a, w64 (a + (l.getD i eStretch.d).many), (l.getD i eStretch.d).look.size, (l.getD i eStretch.d).look.mark⟩] := fun h1 h2 => by
    rw [hm, dropD (d := eStretch.d) h1, iSp, h2, ← hn]
    simp
  repeat' (first | ((with_reducible apply iOJ); first | ((with_reducible apply iOp); refine OJ.p ?_) | with_reducible apply OJ.nil | ((with_reducible apply iOg); first | refine OJ.guardY ?_ | refine OJ.guardN ?_ | refine OJ.guardNd ?_ | refine OJ.guardU ?_ | refine OJ.guardS (fun _ => ?_) (fun _ => ?_) | fail) | ((with_reducible apply iOstore); first | (refine OJ.as AS.store ?_; rintro _ _ rfl) | (refine OJ.as AS.storeA ?_; rintro _ _ rfl) | (refine OJ.as AS.storeAV ?_; rintro _ _ rfl) | (refine OJ.as AS.storeE ?_; rintro _ _ rfl) | (refine OJ.as AS.storeEA ?_; rintro _ _ rfl) | (refine OJ.as AS.storeP ?_; rintro _ _ rfl) | fail) | ((with_reducible apply iOcall); first | (refine OJ.as AS.append1 ?_; rintro _ _ rfl) | (refine OJ.as AS.append ?_; rintro _ _ rfl) | fail) | ((with_reducible apply iObox); first | (refine OJ.as AS.box1 ?_; rintro _ _ ⟨_, rfl, rfl⟩) | (refine OJ.as AS.boxA ?_; rintro _ _ ⟨_, rfl, rfl⟩) | fail) | ((with_reducible apply iOalloc); first | (refine OJ.as AS.alloc ?_; rintro _ _ ⟨_, rfl, rfl⟩) | fail) | ((with_reducible apply iObuildSlice); first | (refine OJ.as AS.buildSlice ?_; rintro _ _ ⟨_, rfl, rfl⟩) | fail) | ((with_reducible apply iOmakeSlice); first | (refine OJ.as AS.makeSlice ?_; rintro _ _ rfl) | fail) | ((with_reducible apply iOmakeMap); first | (refine OJ.as AS.makeMap ?_; rintro _ _ ⟨_, rfl, rfl⟩) | fail) | ((with_reducible apply iOmapEntry); first | (refine OJ.as AS.mapEntry ?_; rintro _ _ ⟨_, _, rfl, rfl⟩) | fail) | ((with_reducible apply iOentryStore); first | (refine OJ.as AS.entryStore ?_; rintro _ _ rfl) | fail) | ((with_reducible apply iOinsert); first | (refine OJ.as AS.insert ?_; rintro _ _ rfl) | fail) | ((with_reducible apply iOmapUpdate); first | (refine OJ.as AS.mapUpdate ?_; rintro _ _ rfl) | fail) | refine OJ.unboxP fun _ => ?_ | fail) | ((with_reducible apply iJ); first | refine J.seq ?_ | refine J.region ?_ | refine J.block ?_ | refine J.skip ?_ | refine J.exit ?_ | refine J.condT ?_ | refine J.condF ?_ | refine J.cond (fun _ => ?_) (fun _ => ?_) | refine J.draw ?_ | refine J.ret (iendsX n (Ent.any Ent.nil)) | fail) | ((with_reducible apply iJK); first | refine JK.code ?_ | refine JK.blk ?_ | refine JK.loop ?_ | refine JK.begin ?_ | refine JK.more ?_ | refine JK.fin (iends ?_) | fail) | ((with_reducible apply iAJ); first | refine AJ.rebase ?_ | refine AJ.regain ?_ | refine AJ.take ?_ | refine AJ.takeY ?_ | refine AJ.takeN ?_ | refine AJ.takeNd ?_ | refine AJ.takeNS ?_ | refine AJ.takeU ?_ | refine AJ.sel ?_ | refine AJ.selY ?_ | refine AJ.sel2 ?_ ?_ | refine AJ.split (fun _ => ?_) (fun _ => ?_) | refine AJ.done ?_ | fail) | ((with_reducible apply iAO); first | ((with_reducible apply iAstore); first | (refine AO.as AS.store ?_; rotate_right; rintro _ _ rfl; refine AO.step ?_) | (refine AO.as AS.storeA ?_; rotate_right; rintro _ _ rfl; refine AO.step ?_) | (refine AO.as AS.storeAV ?_; rotate_right; rintro _ _ rfl; refine AO.step ?_) | (refine AO.as AS.storeE ?_; rotate_right; rintro _ _ rfl; refine AO.step ?_) | (refine AO.as AS.storeEA ?_; rotate_right; rintro _ _ rfl; refine AO.step ?_) | (refine AO.as AS.storeP ?_; rotate_right; rintro _ _ rfl; refine AO.step ?_) | fail) | ((with_reducible apply iAcall); first | (refine AO.as AS.append1 ?_; rotate_right; rintro _ _ rfl; refine AO.step ?_) | (refine AO.as AS.append ?_; rotate_right; rintro _ _ rfl; refine AO.step ?_) | (refine AO.as (AS.call0 (plainLook_c)) ?_; rotate_right; rintro _ _ ⟨y, hy, rfl, rfl⟩; refine AO.step ?_) | (refine AO.as (AS.yield (hY _ _ (hx (by omega) (by simp only [eqLk]; assumption)))) ?_; rotate_right; rintro _ _ (⟨rfl, rfl⟩ | ⟨rfl, rfl⟩) <;> refine AO.step ?_) | fail) | ((with_reducible apply iAbox); first | (refine AO.as AS.box1 ?_; rotate_right; rintro _ _ ⟨_, rfl, rfl⟩; refine AO.step ?_) | (refine AO.as AS.boxA ?_; rotate_right; rintro _ _ ⟨_, rfl, rfl⟩; refine AO.step ?_) | fail) | ((with_reducible apply iAalloc); first | (refine AO.as AS.alloc ?_; rotate_right; rintro _ _ ⟨_, rfl, rfl⟩; refine AO.step ?_) | fail) | ((with_reducible apply iAbuildSlice); first | (refine AO.as AS.buildSlice ?_; rotate_right; rintro _ _ ⟨_, rfl, rfl⟩; refine AO.step ?_) | fail) | ((with_reducible apply iAmakeSlice); first | (refine AO.as AS.makeSlice ?_; rotate_right; rintro _ _ rfl; refine AO.step ?_) | fail) | ((with_reducible apply iAmakeMap); first | (refine AO.as AS.makeMap ?_; rotate_right; rintro _ _ ⟨_, rfl, rfl⟩; refine AO.step ?_) | fail) | ((with_reducible apply iAmapEntry); first | (refine AO.as AS.mapEntry ?_; rotate_right; rintro _ _ ⟨_, _, rfl, rfl⟩; refine AO.step ?_) | fail) | ((with_reducible apply iAentryStore); first | (refine AO.as AS.entryStore ?_; rotate_right; rintro _ _ rfl; refine AO.step ?_) | fail) | ((with_reducible apply iAinsert); first | (refine AO.as AS.insert ?_; rotate_right; rintro _ _ rfl; refine AO.step ?_) | fail) | ((with_reducible apply iAmapUpdate); first | (refine AO.as AS.mapUpdate ?_; rotate_right; rintro _ _ rfl; refine AO.step ?_) | fail) | fail) | ((with_reducible apply iJL); first | refine JL.use (ih (i + 1) (w64 (a + (l.getD i eStretch.d).many), n + 1) undef ⟨by omega, done ++ [⟨a, w64 (a + (l.getD i eStretch.d).many), (l.getD i eStretch.d).look.size, (l.getD i eStretch.d).look.mark⟩], ?_, ?_⟩ (by omega)) | refine JL.use (ih (i + 1) (w64 (a + (l.getD i eStretch.d).many), n) undef ⟨by omega, done, ?_, ?_⟩ (by omega)) | fail) | ((with_reducible apply iEnt); first | exact Ent.nil | ((with_reducible apply iERow); refine Ent.row ?_ ?_) | ((with_reducible apply iEBox); first | refine Ent.box ?_ ?_ | refine Ent.box2 ?_ ?_) | ((with_reducible apply iEBlk); refine Ent.blk ?_ ?_) | ((with_reducible apply iEPure); refine Ent.pure ?_ ?_) | ((with_reducible apply iERdR); first | refine Ent.rdR ?_ | refine Ent.any ?_ | fail) | refine Ent.any ?_ | with_reducible exact Ent.refl | fail) | ((with_reducible apply iEq); with_reducible rfl) | fail)
  all_goals clear ih hY hr hc hr1 hc1
  · simp [hn]
  · have h2 : eqLk (l.getD i eStretch.d).look ⟨10, 0⟩ = false := by simp only [eqLk]; assumption
    rw [hm, dropD (d := eStretch.d) (by omega), iSp, h2]
    simp
  · exact hn
  · have h2 : eqLk (l.getD i eStretch.d).look ⟨10, 0⟩ = true := by simp only [eqLk]; assumption
    rw [hm, dropD (d := eStretch.d) (by omega), iSp, h2]
  · have : (List.map (fun s => [vSpan s]) (iSp 0 l)).length = n := by rw [hm, List.drop_of_length_le (by omega)]; simp [iSp, hn]
    rw [this]
    exact Ent.any Ent.nil
end Go.SL

/- slices.AppendSeq, slices.Collect over spans; impl.looks.spans, impl.looks.plain -/
set_option linter.unusedVariables false
set_option linter.unusedSimpArgs false
namespace Go.SL
open Go.RowKit Go.Proofs
set_option maxRecDepth 100000 in
set_option maxHeartbeats 4000000 in
theorem spanSeq_c (gf : FuncId) [FnB Tryz.prog gf] (lb : List Value) (Rs : List (World → Prop)) (xs acc : List Span) (sv : Value) (hI : IterSpec Tryz.prog gf lb Rs [] (xs.map fun s => [vSpan s])) (hn : acc.length + xs.length ≤ 1000000) :
    Spec Tryz.prog 80 [sv, .func (.func gf) #[] lb.toArray] Rs [row eSpan 62 sv acc] (fun u : Value => u) (fun u => [row eSpan 62 u (acc ++ xs)]) (fun _ => True) := by
  refine Spec.mkM Tryz.func80 rfl Tryz.ntmps80 rfl ?_
  intro w0 O hR hS0
  clear hS0
  repeat' (first | ((with_reducible apply iOJ); first | ((with_reducible apply iOp); refine OJ.p ?_) | with_reducible apply OJ.nil | ((with_reducible apply iOg); first | refine OJ.guardY ?_ | refine OJ.guardN ?_ | refine OJ.guardNd ?_ | refine OJ.guardU ?_ | refine OJ.guardS (fun _ => ?_) (fun _ => ?_) | fail) | ((with_reducible apply iOstore); first | (refine OJ.as AS.store ?_; rintro _ _ rfl) | (refine OJ.as AS.storeA ?_; rintro _ _ rfl) | (refine OJ.as AS.storeAV ?_; rintro _ _ rfl) | (refine OJ.as AS.storeE ?_; rintro _ _ rfl) | (refine OJ.as AS.storeEA ?_; rintro _ _ rfl) | (refine OJ.as AS.storeP ?_; rintro _ _ rfl) | fail) | ((with_reducible apply iOcall); first | (refine OJ.as AS.append1 ?_; rintro _ _ rfl) | (refine OJ.as AS.append ?_; rintro _ _ rfl) | fail) | ((with_reducible apply iObox); first | (refine OJ.as AS.box1 ?_; rintro _ _ ⟨_, rfl, rfl⟩) | (refine OJ.as AS.boxA ?_; rintro _ _ ⟨_, rfl, rfl⟩) | fail) | ((with_reducible apply iOalloc); first | (refine OJ.as AS.alloc ?_; rintro _ _ ⟨_, rfl, rfl⟩) | fail) | ((with_reducible apply iObuildSlice); first | (refine OJ.as AS.buildSlice ?_; rintro _ _ ⟨_, rfl, rfl⟩) | fail) | ((with_reducible apply iOmakeSlice); first | (refine OJ.as AS.makeSlice ?_; rintro _ _ rfl) | fail) | ((with_reducible apply iOmakeMap); first | (refine OJ.as AS.makeMap ?_; rintro _ _ ⟨_, rfl, rfl⟩) | fail) | ((with_reducible apply iOmapEntry); first | (refine OJ.as AS.mapEntry ?_; rintro _ _ ⟨_, _, rfl, rfl⟩) | fail) | ((with_reducible apply iOentryStore); first | (refine OJ.as AS.entryStore ?_; rintro _ _ rfl) | fail) | ((with_reducible apply iOinsert); first | (refine OJ.as AS.insert ?_; rintro _ _ rfl) | fail) | ((with_reducible apply iOmapUpdate); first | (refine OJ.as AS.mapUpdate ?_; rintro _ _ rfl) | fail) | refine OJ.unboxP fun _ => ?_ | fail) | ((with_reducible apply iJ); first | refine J.seq ?_ | refine J.region ?_ | refine J.block ?_ | refine J.skip ?_ | refine J.exit ?_ | refine J.condT ?_ | refine J.condF ?_ | refine J.cond (fun _ => ?_) (fun _ => ?_) | fail) | ((with_reducible apply iJK); first | refine JK.code ?_ | refine JK.blk ?_ | refine JK.loop ?_ | refine JK.begin ?_ | refine JK.more ?_ | fail) | ((with_reducible apply iEnt); first | exact Ent.nil | ((with_reducible apply iERow); refine Ent.row ?_ ?_) | ((with_reducible apply iEBox); first | refine Ent.box ?_ ?_ | refine Ent.box2 ?_ ?_) | ((with_reducible apply iEBlk); refine Ent.blk ?_ ?_) | ((with_reducible apply iEPure); refine Ent.pure ?_ ?_) | ((with_reducible apply iERdR); first | refine Ent.rdR ?_ | refine Ent.any ?_ | fail) | refine Ent.any ?_ | with_reducible exact Ent.refl | fail) | ((with_reducible apply iEq); with_reducible rfl) | fail)
  rename_i b
  refine J.range (fun k => [boxR b 23 eSpan 62 (acc ++ xs.take k)]) (fun _ _ => [noR]) hI (fun k => ⟨fun R h => Rd.base (hR R h)⟩) (fun a ha => by obtain ⟨s, _, rfl⟩ := List.mem_map.1 ha; rfl) ?_ ?_ ?_ (hL := by refine Ent.box2 Ent.nil ?_; simp)
  · intro l rc fr k a ha
    obtain ⟨s, hs, rfl⟩ : ∃ s, xs[k]? = some s ∧ a = [vSpan s] := by
      rw [List.getElem?_map] at ha
      obtain ⟨s, h1, h2⟩ := Option.map_eq_some_iff.1 ha
      exact ⟨s, h1, h2.symm⟩
    have hk := (List.getElem?_eq_some_iff.1 hs).1
    have htl : (xs.take k).length ≤ xs.length := by rw [List.length_take]; omega
    repeat' (first | ((with_reducible apply iOJ); first | ((with_reducible apply iOp); refine OJ.p ?_) | with_reducible apply OJ.nil | ((with_reducible apply iOg); first | refine OJ.guardY ?_ | refine OJ.guardN ?_ | refine OJ.guardNd ?_ | refine OJ.guardU ?_ | refine OJ.guardS (fun _ => ?_) (fun _ => ?_) | fail) | ((with_reducible apply iOstore); first | (refine OJ.as AS.store ?_; rintro _ _ rfl) | (refine OJ.as AS.storeA ?_; rintro _ _ rfl) | (refine OJ.as AS.storeAV ?_; rintro _ _ rfl) | (refine OJ.as AS.storeE ?_; rintro _ _ rfl) | (refine OJ.as AS.storeEA ?_; rintro _ _ rfl) | (refine OJ.as AS.storeP ?_; rintro _ _ rfl) | fail) | ((with_reducible apply iOcall); first | (refine OJ.as AS.append1 ?_; rintro _ _ rfl) | (refine OJ.as AS.append ?_; rintro _ _ rfl) | fail) | ((with_reducible apply iObox); first | (refine OJ.as AS.box1 ?_; rintro _ _ ⟨_, rfl, rfl⟩) | (refine OJ.as AS.boxA ?_; rintro _ _ ⟨_, rfl, rfl⟩) | fail) | ((with_reducible apply iOalloc); first | (refine OJ.as AS.alloc ?_; rintro _ _ ⟨_, rfl, rfl⟩) | fail) | ((with_reducible apply iObuildSlice); first | (refine OJ.as AS.buildSlice ?_; rintro _ _ ⟨_, rfl, rfl⟩) | fail) | ((with_reducible apply iOmakeSlice); first | (refine OJ.as AS.makeSlice ?_; rintro _ _ rfl) | fail) | ((with_reducible apply iOmakeMap); first | (refine OJ.as AS.makeMap ?_; rintro _ _ ⟨_, rfl, rfl⟩) | fail) | ((with_reducible apply iOmapEntry); first | (refine OJ.as AS.mapEntry ?_; rintro _ _ ⟨_, _, rfl, rfl⟩) | fail) | ((with_reducible apply iOentryStore); first | (refine OJ.as AS.entryStore ?_; rintro _ _ rfl) | fail) | ((with_reducible apply iOinsert); first | (refine OJ.as AS.insert ?_; rintro _ _ rfl) | fail) | ((with_reducible apply iOmapUpdate); first | (refine OJ.as AS.mapUpdate ?_; rintro _ _ rfl) | fail) | refine OJ.unboxP fun _ => ?_ | fail) | ((with_reducible apply iJ); first | refine J.seq ?_ | refine J.region ?_ | refine J.block ?_ | refine J.skip ?_ | refine J.exit ?_ | refine J.condT ?_ | refine J.condF ?_ | refine J.cond (fun _ => ?_) (fun _ => ?_) | fail) | ((with_reducible apply iJK); first | refine JK.code ?_ | refine JK.blk ?_ | refine JK.loop ?_ | refine JK.begin ?_ | refine JK.more ?_ | fail) | ((with_reducible apply iEnt); first | exact Ent.nil | ((with_reducible apply iERow); refine Ent.row ?_ ?_) | ((with_reducible apply iEBox); first | refine Ent.box ?_ ?_ | refine Ent.box2 ?_ ?_) | ((with_reducible apply iEBlk); refine Ent.blk ?_ ?_) | ((with_reducible apply iEPure); refine Ent.pure ?_ ?_) | ((with_reducible apply iERdR); first | refine Ent.rdR ?_ | refine Ent.any ?_ | fail) | refine Ent.any ?_ | with_reducible exact Ent.refl | fail) | ((with_reducible apply iEq); with_reducible rfl) | fail)
    rw [List.append_assoc, List.take_add_one, hs]
    rfl
  · intro D
    repeat' (first | ((with_reducible apply iOJ); first | ((with_reducible apply iOp); refine OJ.p ?_) | with_reducible apply OJ.nil | ((with_reducible apply iOg); first | refine OJ.guardY ?_ | refine OJ.guardN ?_ | refine OJ.guardNd ?_ | refine OJ.guardU ?_ | refine OJ.guardS (fun _ => ?_) (fun _ => ?_) | fail) | ((with_reducible apply iOstore); first | (refine OJ.as AS.store ?_; rintro _ _ rfl) | (refine OJ.as AS.storeA ?_; rintro _ _ rfl) | (refine OJ.as AS.storeAV ?_; rintro _ _ rfl) | (refine OJ.as AS.storeE ?_; rintro _ _ rfl) | (refine OJ.as AS.storeEA ?_; rintro _ _ rfl) | (refine OJ.as AS.storeP ?_; rintro _ _ rfl) | fail) | ((with_reducible apply iOcall); first | (refine OJ.as AS.append1 ?_; rintro _ _ rfl) | (refine OJ.as AS.append ?_; rintro _ _ rfl) | fail) | ((with_reducible apply iObox); first | (refine OJ.as AS.box1 ?_; rintro _ _ ⟨_, rfl, rfl⟩) | (refine OJ.as AS.boxA ?_; rintro _ _ ⟨_, rfl, rfl⟩) | fail) | ((with_reducible apply iOalloc); first | (refine OJ.as AS.alloc ?_; rintro _ _ ⟨_, rfl, rfl⟩) | fail) | ((with_reducible apply iObuildSlice); first | (refine OJ.as AS.buildSlice ?_; rintro _ _ ⟨_, rfl, rfl⟩) | fail) | ((with_reducible apply iOmakeSlice); first | (refine OJ.as AS.makeSlice ?_; rintro _ _ rfl) | fail) | ((with_reducible apply iOmakeMap); first | (refine OJ.as AS.makeMap ?_; rintro _ _ ⟨_, rfl, rfl⟩) | fail) | ((with_reducible apply iOmapEntry); first | (refine OJ.as AS.mapEntry ?_; rintro _ _ ⟨_, _, rfl, rfl⟩) | fail) | ((with_reducible apply iOentryStore); first | (refine OJ.as AS.entryStore ?_; rintro _ _ rfl) | fail) | ((with_reducible apply iOinsert); first | (refine OJ.as AS.insert ?_; rintro _ _ rfl) | fail) | ((with_reducible apply iOmapUpdate); first | (refine OJ.as AS.mapUpdate ?_; rintro _ _ rfl) | fail) | refine OJ.unboxP fun _ => ?_ | fail) | ((with_reducible apply iJ); first | refine J.seq ?_ | refine J.region ?_ | refine J.block ?_ | refine J.skip ?_ | refine J.exit ?_ | refine J.condT ?_ | refine J.condF ?_ | refine J.cond (fun _ => ?_) (fun _ => ?_) | refine J.retM (ends _ trivial rfl ?_) | fail) | ((with_reducible apply iJK); first | refine JK.code ?_ | refine JK.blk ?_ | refine JK.loop ?_ | refine JK.begin ?_ | refine JK.more ?_ | fail) | ((with_reducible apply iEnt); first | exact Ent.nil | ((with_reducible apply iERow); refine Ent.row ?_ ?_) | ((with_reducible apply iEBox); first | refine Ent.box ?_ ?_ | refine Ent.box2 ?_ ?_) | ((with_reducible apply iEBlk); refine Ent.blk ?_ ?_) | ((with_reducible apply iEPure); refine Ent.pure ?_ ?_) | ((with_reducible apply iERdR); first | refine Ent.rdR ?_ | refine Ent.any ?_ | fail) | refine Ent.any ?_ | with_reducible exact Ent.refl | fail) | ((with_reducible apply iEq); with_reducible rfl) | fail)
    rw [List.length_map, List.take_length]
  · intro D j c
    exact J.no
set_option maxRecDepth 100000 in
set_option maxHeartbeats 4000000 in
theorem spanColl_c (gf : FuncId) [FnB Tryz.prog gf] (lb : List Value) (Rs : List (World → Prop)) (xs : List Span) (hI : IterSpec Tryz.prog gf lb Rs [] (xs.map fun s => [vSpan s])) (hn : xs.length ≤ 1000000) :
    Spec Tryz.prog 59 [.func (.func gf) #[] lb.toArray] Rs [] (fun u : Value => u) (fun u => [row eSpan 62 u xs]) (fun _ => True) := by
  refine Spec.mk Tryz.func59 rfl Tryz.ntmps59 rfl ?_
  intro w0 O hR hS0
  clear hS0
  repeat' (first | ((with_reducible apply iOJ); first | ((with_reducible apply iOp); refine OJ.p ?_) | with_reducible apply OJ.nil | ((with_reducible apply iOg); first | refine OJ.guardY ?_ | refine OJ.guardN ?_ | refine OJ.guardNd ?_ | refine OJ.guardU ?_ | refine OJ.guardS (fun _ => ?_) (fun _ => ?_) | fail) | ((with_reducible apply iOstore); first | (refine OJ.as AS.store ?_; rintro _ _ rfl) | (refine OJ.as AS.storeA ?_; rintro _ _ rfl) | (refine OJ.as AS.storeAV ?_; rintro _ _ rfl) | (refine OJ.as AS.storeE ?_; rintro _ _ rfl) | (refine OJ.as AS.storeEA ?_; rintro _ _ rfl) | (refine OJ.as AS.storeP ?_; rintro _ _ rfl) | fail) | ((with_reducible apply iOcall); first | (refine OJ.as AS.append1 ?_; rintro _ _ rfl) | (refine OJ.as AS.append ?_; rintro _ _ rfl) | (refine OJ.as (AS.call1 (spanSeq_c gf lb Rs xs [] _ hI (by simpa using hn)) (hR := ⟨fun R h => Rd.base (hR R h)⟩)) ?_; rintro _ _ ⟨y, hy, rfl, rfl⟩) | fail) | ((with_reducible apply iObox); first | (refine OJ.as AS.box1 ?_; rintro _ _ ⟨_, rfl, rfl⟩) | (refine OJ.as AS.boxA ?_; rintro _ _ ⟨_, rfl, rfl⟩) | fail) | ((with_reducible apply iOalloc); first | (refine OJ.as AS.alloc ?_; rintro _ _ ⟨_, rfl, rfl⟩) | fail) | ((with_reducible apply iObuildSlice); first | (refine OJ.as AS.buildSlice ?_; rintro _ _ ⟨_, rfl, rfl⟩) | fail) | ((with_reducible apply iOmakeSlice); first | (refine OJ.as AS.makeSlice ?_; rintro _ _ rfl) | fail) | ((with_reducible apply iOmakeMap); first | (refine OJ.as AS.makeMap ?_; rintro _ _ ⟨_, rfl, rfl⟩) | fail) | ((with_reducible apply iOmapEntry); first | (refine OJ.as AS.mapEntry ?_; rintro _ _ ⟨_, _, rfl, rfl⟩) | fail) | ((with_reducible apply iOentryStore); first | (refine OJ.as AS.entryStore ?_; rintro _ _ rfl) | fail) | ((with_reducible apply iOinsert); first | (refine OJ.as AS.insert ?_; rintro _ _ rfl) | fail) | ((with_reducible apply iOmapUpdate); first | (refine OJ.as AS.mapUpdate ?_; rintro _ _ rfl) | fail) | refine OJ.unboxP fun _ => ?_ | fail) | ((with_reducible apply iJ); first | refine J.seq ?_ | refine J.region ?_ | refine J.block ?_ | refine J.skip ?_ | refine J.exit ?_ | refine J.condT ?_ | refine J.condF ?_ | refine J.cond (fun _ => ?_) (fun _ => ?_) | refine J.ret (ends _ trivial rfl ?_) | fail) | ((with_reducible apply iJK); first | refine JK.code ?_ | refine JK.blk ?_ | refine JK.loop ?_ | refine JK.begin ?_ | refine JK.more ?_ | fail) | ((with_reducible apply iEnt); first | exact Ent.nil | ((with_reducible apply iERow); refine Ent.row ?_ ?_) | ((with_reducible apply iEBox); first | refine Ent.box ?_ ?_ | refine Ent.box2 ?_ ?_) | ((with_reducible apply iEBlk); refine Ent.blk ?_ ?_) | ((with_reducible apply iEPure); refine Ent.pure ?_ ?_) | ((with_reducible apply iERdR); first | refine Ent.rdR ?_ | refine Ent.any ?_ | fail) | refine Ent.any ?_ | with_reducible exact Ent.refl | fail) | ((with_reducible apply iEq); with_reducible rfl) | fail)
  all_goals rfl
theorem iSp_len : ∀ (l : List Stretch) (a : Int), (iSp a l).length ≤ l.length
  | [], _ => Nat.le_refl _
  | s :: l, a => by
    have := iSp_len l (w64 (a + s.many))
    simp only [iSp]
    split <;> simp <;> omega
set_option maxRecDepth 100000 in
set_option maxHeartbeats 4000000 in
theorem spans_c (v : Value) (l : List Stretch) : Spec Tryz.prog 60 [v] [rd eStretch v l] [] (fun b : Nat => .func (.func 81) #[] #[.pointer (some ⟨b, 0, none⟩)]) (fun b => [blk b (.cells #[v] 65 (0, 0))]) (fun _ => True) := by
  refine Spec.mk Tryz.func60 rfl Tryz.ntmps60 rfl ?_
  intro w0 O hR hS0
  have hr := hR _ List.mem_cons_self; clear hR hS0
  repeat' (first | ((with_reducible apply iOJ); first | ((with_reducible apply iOp); refine OJ.p ?_) | with_reducible apply OJ.nil | ((with_reducible apply iOg); first | refine OJ.guardY ?_ | refine OJ.guardN ?_ | refine OJ.guardNd ?_ | refine OJ.guardU ?_ | refine OJ.guardS (fun _ => ?_) (fun _ => ?_) | fail) | ((with_reducible apply iOstore); first | (refine OJ.as AS.store ?_; rintro _ _ rfl) | (refine OJ.as AS.storeA ?_; rintro _ _ rfl) | (refine OJ.as AS.storeAV ?_; rintro _ _ rfl) | (refine OJ.as AS.storeE ?_; rintro _ _ rfl) | (refine OJ.as AS.storeEA ?_; rintro _ _ rfl) | (refine OJ.as AS.storeP ?_; rintro _ _ rfl) | fail) | ((with_reducible apply iOcall); first | (refine OJ.as AS.append1 ?_; rintro _ _ rfl) | (refine OJ.as AS.append ?_; rintro _ _ rfl) | fail) | ((with_reducible apply iObox); first | (refine OJ.as AS.box1 ?_; rintro _ _ ⟨_, rfl, rfl⟩) | (refine OJ.as AS.boxA ?_; rintro _ _ ⟨_, rfl, rfl⟩) | fail) | ((with_reducible apply iOalloc); first | (refine OJ.as AS.alloc ?_; rintro _ _ ⟨_, rfl, rfl⟩) | fail) | ((with_reducible apply iObuildSlice); first | (refine OJ.as AS.buildSlice ?_; rintro _ _ ⟨_, rfl, rfl⟩) | fail) | ((with_reducible apply iOmakeSlice); first | (refine OJ.as AS.makeSlice ?_; rintro _ _ rfl) | fail) | ((with_reducible apply iOmakeMap); first | (refine OJ.as AS.makeMap ?_; rintro _ _ ⟨_, rfl, rfl⟩) | fail) | ((with_reducible apply iOmapEntry); first | (refine OJ.as AS.mapEntry ?_; rintro _ _ ⟨_, _, rfl, rfl⟩) | fail) | ((with_reducible apply iOentryStore); first | (refine OJ.as AS.entryStore ?_; rintro _ _ rfl) | fail) | ((with_reducible apply iOinsert); first | (refine OJ.as AS.insert ?_; rintro _ _ rfl) | fail) | ((with_reducible apply iOmapUpdate); first | (refine OJ.as AS.mapUpdate ?_; rintro _ _ rfl) | fail) | refine OJ.unboxP fun _ => ?_ | fail) | ((with_reducible apply iJ); first | refine J.seq ?_ | refine J.region ?_ | refine J.block ?_ | refine J.skip ?_ | refine J.exit ?_ | refine J.condT ?_ | refine J.condF ?_ | refine J.cond (fun _ => ?_) (fun _ => ?_) | refine J.ret (ends _ trivial rfl ?_) | fail) | ((with_reducible apply iJK); first | refine JK.code ?_ | refine JK.blk ?_ | refine JK.loop ?_ | refine JK.begin ?_ | refine JK.more ?_ | fail) | ((with_reducible apply iEnt); first | exact Ent.nil | ((with_reducible apply iERow); refine Ent.row ?_ ?_) | ((with_reducible apply iEBox); first | refine Ent.box ?_ ?_ | refine Ent.box2 ?_ ?_) | ((with_reducible apply iEBlk); refine Ent.blk ?_ ?_) | ((with_reducible apply iEPure); refine Ent.pure ?_ ?_) | ((with_reducible apply iERdR); first | refine Ent.rdR ?_ | refine Ent.any ?_ | fail) | refine Ent.any ?_ | with_reducible exact Ent.refl | fail) | ((with_reducible apply iEq); with_reducible rfl) | fail)
set_option maxRecDepth 100000 in
set_option maxHeartbeats 4000000 in
theorem plain_c (v : Value) (l : List Stretch) (hl : l.length ≤ 1000000) : Spec Tryz.prog 31 [v] [rd eStretch v l] [] (fun u : Value => u) (fun u => [row eSpan 62 u (iSp 0 l)]) (fun _ => True) := by
  refine Spec.mk Tryz.func31 rfl Tryz.ntmps31 rfl ?_
  intro w0 O hR hS0
  have hr := hR _ List.mem_cons_self; clear hR hS0
  have hll := iSp_len l 0
  repeat' (first | ((with_reducible apply iOJ); first | ((with_reducible apply iOp); refine OJ.p ?_) | with_reducible apply OJ.nil | ((with_reducible apply iOg); first | refine OJ.guardY ?_ | refine OJ.guardN ?_ | refine OJ.guardNd ?_ | refine OJ.guardU ?_ | refine OJ.guardS (fun _ => ?_) (fun _ => ?_) | fail) | ((with_reducible apply iOstore); first | (refine OJ.as AS.store ?_; rintro _ _ rfl) | (refine OJ.as AS.storeA ?_; rintro _ _ rfl) | (refine OJ.as AS.storeAV ?_; rintro _ _ rfl) | (refine OJ.as AS.storeE ?_; rintro _ _ rfl) | (refine OJ.as AS.storeEA ?_; rintro _ _ rfl) | (refine OJ.as AS.storeP ?_; rintro _ _ rfl) | fail) | ((with_reducible apply iOcall); first | (refine OJ.as AS.append1 ?_; rintro _ _ rfl) | (refine OJ.as AS.append ?_; rintro _ _ rfl) | (refine OJ.as (AS.call1 (spans_c v l)) ?_; rotate_right; rintro _ _ ⟨y, hy, rfl, rfl⟩) | (refine OJ.as (AS.call1 (spanColl_c 81 [.pointer (some ⟨y, 0, none⟩)] _ _ (spansIt y v l) (by omega))) ?_; rotate_right; rintro _ _ ⟨y, hy, rfl, rfl⟩) | fail) | ((with_reducible apply iObox); first | (refine OJ.as AS.box1 ?_; rintro _ _ ⟨_, rfl, rfl⟩) | (refine OJ.as AS.boxA ?_; rintro _ _ ⟨_, rfl, rfl⟩) | fail) | ((with_reducible apply iOalloc); first | (refine OJ.as AS.alloc ?_; rintro _ _ ⟨_, rfl, rfl⟩) | fail) | ((with_reducible apply iObuildSlice); first | (refine OJ.as AS.buildSlice ?_; rintro _ _ ⟨_, rfl, rfl⟩) | fail) | ((with_reducible apply iOmakeSlice); first | (refine OJ.as AS.makeSlice ?_; rintro _ _ rfl) | fail) | ((with_reducible apply iOmakeMap); first | (refine OJ.as AS.makeMap ?_; rintro _ _ ⟨_, rfl, rfl⟩) | fail) | ((with_reducible apply iOmapEntry); first | (refine OJ.as AS.mapEntry ?_; rintro _ _ ⟨_, _, rfl, rfl⟩) | fail) | ((with_reducible apply iOentryStore); first | (refine OJ.as AS.entryStore ?_; rintro _ _ rfl) | fail) | ((with_reducible apply iOinsert); first | (refine OJ.as AS.insert ?_; rintro _ _ rfl) | fail) | ((with_reducible apply iOmapUpdate); first | (refine OJ.as AS.mapUpdate ?_; rintro _ _ rfl) | fail) | refine OJ.unboxP fun _ => ?_ | fail) | ((with_reducible apply iJ); first | refine J.seq ?_ | refine J.region ?_ | refine J.block ?_ | refine J.skip ?_ | refine J.exit ?_ | refine J.condT ?_ | refine J.condF ?_ | refine J.cond (fun _ => ?_) (fun _ => ?_) | refine J.ret (ends _ trivial rfl ?_) | fail) | ((with_reducible apply iJK); first | refine JK.code ?_ | refine JK.blk ?_ | refine JK.loop ?_ | refine JK.begin ?_ | refine JK.more ?_ | fail) | ((with_reducible apply iEnt); first | exact Ent.nil | ((with_reducible apply iERow); refine Ent.row ?_ ?_) | ((with_reducible apply iEBox); first | refine Ent.box ?_ ?_ | refine Ent.box2 ?_ ?_) | ((with_reducible apply iEBlk); refine Ent.blk ?_ ?_) | ((with_reducible apply iEPure); refine Ent.pure ?_ ?_) | ((with_reducible apply iERdR); first | refine Ent.rdR ?_ | refine Ent.any ?_ | fail) | refine Ent.any ?_ | with_reducible exact Ent.refl | fail) | ((with_reducible apply iEq); with_reducible rfl) | fail)


end Go.SL

/- impl.SpansMove -/
set_option linter.unusedVariables false
set_option linter.unusedSimpArgs false
namespace Go.SL
open Go.RowKit Go.Proofs
theorem addS_pos_len (g : List Stretch) (x : Look) (n : Int) : (addS g x n).length ≤ g.length + 1 := addS_len g x n
theorem partS_len (fr to : Int) : ∀ (l : List Stretch) (a : Int) (g : List Stretch), (partS fr to l a g).length ≤ g.length + l.length
  | [], _, _ => by simp [partS]
  | s :: l, a, g => by
    have h1 := partS_len fr to l (w64 (a + s.many)) (addS g s.look (partN a fr to s))
    have h2 := addS_len g s.look (partN a fr to s)
    simp only [partS, List.length_cons]
    omega
theorem looksOf_len (l : List Span) (c : Int) : (looksOf l c).length ≤ 2 * l.length + 1 := by
  have h1 := lof_len l 0 []
  have h2 := addS_len (lof l 0 []).2 ⟨10, 0⟩ (w64 (c - (lof l 0 []).1))
  simp only [List.length_nil] at h1
  unfold looksOf
  omega
theorem iMove_no {l : List Span} {c a n : Int} (h : iSpansOk l c = false ∨ a < 0 ∨ c < a ∨ w64 (80 - c) < n ∨ n < w64 (a - c)) : iSpansMove l c a n = [] := by
  have hk : iMoveOk l c a n = false := by
    rw [Bool.eq_false_iff]
    simp only [iMoveOk, ne_eq, Bool.and_eq_true, decide_eq_true_eq]
    rintro ⟨q1, q2, q3, q4, q5⟩
    rcases h with h | h | h | h | h
    · rw [q1] at h; cases h
    all_goals omega
  simp only [iSpansMove, hk]
theorem iMove_yes {l : List Span} {c a n : Int} (h : iSpansOk l c = true) (h1 : ¬ a < 0) (h2 : ¬ c < a) (h3 : ¬ w64 (80 - c) < n) (h4 : ¬ n < w64 (a - c)) : iSpansMove l c a n = iSp 0 (iMove (looksOf l c) c a n) := by
  have hk : iMoveOk l c a n = true := by
    simp only [iMoveOk, Bool.and_eq_true, decide_eq_true_eq]
    exact ⟨h, by omega, by omega, by omega, by omega⟩
  simp only [iSpansMove, hk]
set_option maxRecDepth 100000 in
set_option maxHeartbeats 8000000 in
theorem iSpansMove_c (v : Value) (l : List Span) (c a n : Int) (hl : l.length ≤ 10000) : Spec Tryz.prog 46 [v, .int .i64 c, .int .i64 a, .int .i64 n] [rd eSpan v l] [] (fun u : Value => u) (fun u => [row eSpan 62 u (iSpansMove l c a n)]) (fun _ => True) := by
  refine Spec.mk Tryz.func46 rfl Tryz.ntmps46 rfl ?_
  intro w0 O hR hS0
  have hr := hR _ List.mem_cons_self; clear hR hS0
  have h0 := looksOf_len l c
  obtain ⟨M, hM⟩ : ∃ M, looksOf l c = M := ⟨_, rfl⟩
  have hlo := looksOf_c v l c hl
  rw [hM] at h0 hlo
  have h1 := partS_len 0 a M 0 []
  simp only [List.length_nil] at h1
  have h2 := addS_len (partS 0 a M 0 []) (atS M (IntKind.i64.wrap (a - 1))) n
  have h3 := addS_len (partS 0 a M 0 []) ⟨10, 0⟩ n
  have h4 : ∀ g fr, g.length ≤ 50000 → (partS fr c M 0 g).length ≤ 1000000 := fun g fr hg => by
    have := partS_len fr c M 0 g
    omega
  repeat' (first | ((with_reducible apply iOJ); first | ((with_reducible apply iOp); refine OJ.p ?_) | with_reducible apply OJ.nil | ((with_reducible apply iOg); first | refine OJ.guardY ?_ | refine OJ.guardN ?_ | refine OJ.guardNd ?_ | refine OJ.guardU ?_ | refine OJ.guardS (fun _ => ?_) (fun _ => ?_) | fail) | ((with_reducible apply iOstore); first | (refine OJ.as AS.store ?_; rintro _ _ rfl) | (refine OJ.as AS.storeA ?_; rintro _ _ rfl) | (refine OJ.as AS.storeAV ?_; rintro _ _ rfl) | (refine OJ.as AS.storeE ?_; rintro _ _ rfl) | (refine OJ.as AS.storeEA ?_; rintro _ _ rfl) | (refine OJ.as AS.storeP ?_; rintro _ _ rfl) | fail) | ((with_reducible apply iOcall); first | (refine OJ.as AS.append1 ?_; rintro _ _ rfl) | (refine OJ.as AS.append ?_; rintro _ _ rfl) | (refine OJ.as (AS.call0 (iSpansOk_c _ l _)) ?_; rotate_right; rintro _ _ ⟨y, hy, rfl, rfl⟩) | (refine OJ.as (AS.call1 (hlo)) ?_; rotate_right; rintro _ _ ⟨y, hy, rfl, rfl⟩) | (refine OJ.as (AS.call1 (part_c _ _ M [] 0 a (by simp; omega))) ?_; rotate_right; rintro _ _ ⟨y, hy, rfl, rfl⟩) | (refine OJ.as (AS.call0 (plainLook_c)) ?_; rotate_right; rintro _ _ ⟨y, hy, rfl, rfl⟩) | (refine OJ.as (AS.call0 (at_c _ M _)) ?_; rotate_right; rintro _ _ ⟨y, hy, rfl, rfl⟩) | (refine OJ.as (AS.call1 (add_c _ (partS 0 a M 0 []) (atS M _) n (by omega))) ?_; rotate_right; rintro _ _ ⟨y, hy, rfl, rfl⟩) | (refine OJ.as (AS.call1 (add_c _ (partS 0 a M 0 []) ⟨10, 0⟩ n (by omega))) ?_; rotate_right; rintro _ _ ⟨y, hy, rfl, rfl⟩) | (refine OJ.as (AS.call1 (part_c _ _ M _ _ c ?_)) ?_; rotate_right; rintro _ _ ⟨y, hy, rfl, rfl⟩) | (refine OJ.as (AS.call1 (plain_c _ (partS _ c M 0 _) ?_)) ?_; rotate_right; rintro _ _ ⟨y, hy, rfl, rfl⟩) | fail) | ((with_reducible apply iObox); first | (refine OJ.as AS.box1 ?_; rintro _ _ ⟨_, rfl, rfl⟩) | (refine OJ.as AS.boxA ?_; rintro _ _ ⟨_, rfl, rfl⟩) | fail) | ((with_reducible apply iOalloc); first | (refine OJ.as AS.alloc ?_; rintro _ _ ⟨_, rfl, rfl⟩) | fail) | ((with_reducible apply iObuildSlice); first | (refine OJ.as AS.buildSlice ?_; rintro _ _ ⟨_, rfl, rfl⟩) | fail) | ((with_reducible apply iOmakeSlice); first | (refine OJ.as AS.makeSlice ?_; rintro _ _ rfl) | fail) | ((with_reducible apply iOmakeMap); first | (refine OJ.as AS.makeMap ?_; rintro _ _ ⟨_, rfl, rfl⟩) | fail) | ((with_reducible apply iOmapEntry); first | (refine OJ.as AS.mapEntry ?_; rintro _ _ ⟨_, _, rfl, rfl⟩) | fail) | ((with_reducible apply iOentryStore); first | (refine OJ.as AS.entryStore ?_; rintro _ _ rfl) | fail) | ((with_reducible apply iOinsert); first | (refine OJ.as AS.insert ?_; rintro _ _ rfl) | fail) | ((with_reducible apply iOmapUpdate); first | (refine OJ.as AS.mapUpdate ?_; rintro _ _ rfl) | fail) | refine OJ.unboxP fun _ => ?_ | fail) | ((with_reducible apply iJ); first | refine J.seq ?_ | refine J.region ?_ | refine J.block ?_ | refine J.skip ?_ | refine J.exit ?_ | refine J.condT ?_ | refine J.condF ?_ | refine J.cond (fun _ => ?_) (fun _ => ?_) | refine J.ret (ends _ trivial rfl ?_) | fail) | ((with_reducible apply iJK); first | refine JK.code ?_ | refine JK.blk ?_ | refine JK.loop ?_ | refine JK.begin ?_ | refine JK.more ?_ | fail) | ((with_reducible apply iEnt); first | exact Ent.nil | ((with_reducible apply iERow); refine Ent.row ?_ ?_) | ((with_reducible apply iEBox); first | refine Ent.box ?_ ?_ | refine Ent.box2 ?_ ?_) | ((with_reducible apply iEBlk); refine Ent.blk ?_ ?_) | ((with_reducible apply iEPure); refine Ent.pure ?_ ?_) | ((with_reducible apply iERdR); first | refine Ent.rdR ?_ | refine Ent.any ?_ | fail) | refine Ent.any ?_ | with_reducible exact Ent.refl | fail) | ((with_reducible apply iEq); with_reducible rfl) | fail)
  all_goals clear hr
  all_goals first
    | (refine Nat.le_trans (h4 _ _ ?_) (by decide); omega)
    | omega
    | skip
  all_goals clear h0 h1 h2 h3 h4 hlo
  · exact (iMove_no (.inl (by assumption))).symm
  · exact (iMove_no (.inr (.inl (by assumption)))).symm
  · exact (iMove_no (.inr (.inr (.inl (by assumption))))).symm
  · exact (iMove_no (.inr (.inr (.inr (.inl (by assumption)))))).symm
  · exact (iMove_no (.inr (.inr (.inr (.inr (by assumption)))))).symm
  · rw [iMove_yes (by assumption) (by assumption) (by assumption) (by assumption) (by assumption)]
    simp only [iMove, iMoveG, hM]
    rw [decide_eq_true (show 0 < n by assumption), decide_eq_true (show 0 < a by assumption)]
    rfl
  · rw [iMove_yes (by assumption) (by assumption) (by assumption) (by assumption) (by assumption)]
    simp only [iMove, iMoveG, hM]
    rw [decide_eq_true (show 0 < n by assumption), decide_eq_false (show ¬ 0 < a by assumption), w64_in (n := a - min n 0) (by omega)]
  · rw [iMove_yes (by assumption) (by assumption) (by assumption) (by assumption) (by assumption)]
    simp only [iMove, iMoveG, hM]
    rw [decide_eq_false (show ¬ 0 < n by assumption)]
    rfl
end Go.SL

/- laws: toSpan, eqSpan -/
set_option linter.unusedVariables false
set_option linter.unusedSimpArgs false
namespace Go.SL
open Go.RowKit Go.Proofs
def eqSp (a b : Span) : Bool := decide (a.fr = b.fr) && (decide (a.to = b.to) && (decide (a.size = b.size) && decide (a.mark = b.mark)))
theorem eqSp_eq {a b : Span} : eqSp a b = true ↔ a = b := by
  cases a; cases b
  simp [eqSp]
def eqSpS (l r : List Span) : Bool := decide (l.length = r.length) && allI (fun i => eqSp (l.getD i eSpan.d) (r.getD i eSpan.d)) (l.length - 0) 0
end Go.SL

/- SpansMove: what impl's and the reference's give for all arguments. -/
set_option linter.unusedVariables false
set_option linter.unusedSimpArgs false
namespace Go.SL
open Go.RowKit Go.Proofs
set_option maxRecDepth 100000 in
set_option maxHeartbeats 8000000 in
theorem iSpansMove_no (v : Value) (l : List Span) (c a n : Int) (hk : iSpansOk l c = false) : Spec Tryz.prog 46 [v, .int .i64 c, .int .i64 a, .int .i64 n] [rd eSpan v l] [] (fun u : Value => u) (fun u => [row eSpan 62 u []]) (fun _ => True) := by
  refine Spec.mk Tryz.func46 rfl Tryz.ntmps46 rfl ?_
  intro w0 O hR hS0
  have hr := hR _ List.mem_cons_self; clear hR hS0
  have h := iSpansOk_c v l c
  rw [hk] at h
  repeat' (first | ((with_reducible apply iOJ); first | ((with_reducible apply iOp); refine OJ.p ?_) | with_reducible apply OJ.nil | ((with_reducible apply iOg); first | refine OJ.guardY ?_ | refine OJ.guardN ?_ | refine OJ.guardNd ?_ | refine OJ.guardU ?_ | refine OJ.guardS (fun _ => ?_) (fun _ => ?_) | fail) | ((with_reducible apply iOstore); first | (refine OJ.as AS.store ?_; rintro _ _ rfl) | (refine OJ.as AS.storeA ?_; rintro _ _ rfl) | (refine OJ.as AS.storeAV ?_; rintro _ _ rfl) | (refine OJ.as AS.storeE ?_; rintro _ _ rfl) | (refine OJ.as AS.storeEA ?_; rintro _ _ rfl) | (refine OJ.as AS.storeP ?_; rintro _ _ rfl) | fail) | ((with_reducible apply iOcall); first | (refine OJ.as AS.append1 ?_; rintro _ _ rfl) | (refine OJ.as AS.append ?_; rintro _ _ rfl) | (refine OJ.as (AS.call0 (h)) ?_; rotate_right; rintro _ _ ⟨y, hy, rfl, rfl⟩) | fail) | ((with_reducible apply iObox); first | (refine OJ.as AS.box1 ?_; rintro _ _ ⟨_, rfl, rfl⟩) | (refine OJ.as AS.boxA ?_; rintro _ _ ⟨_, rfl, rfl⟩) | fail) | ((with_reducible apply iOalloc); first | (refine OJ.as AS.alloc ?_; rintro _ _ ⟨_, rfl, rfl⟩) | fail) | ((with_reducible apply iObuildSlice); first | (refine OJ.as AS.buildSlice ?_; rintro _ _ ⟨_, rfl, rfl⟩) | fail) | ((with_reducible apply iOmakeSlice); first | (refine OJ.as AS.makeSlice ?_; rintro _ _ rfl) | fail) | ((with_reducible apply iOmakeMap); first | (refine OJ.as AS.makeMap ?_; rintro _ _ ⟨_, rfl, rfl⟩) | fail) | ((with_reducible apply iOmapEntry); first | (refine OJ.as AS.mapEntry ?_; rintro _ _ ⟨_, _, rfl, rfl⟩) | fail) | ((with_reducible apply iOentryStore); first | (refine OJ.as AS.entryStore ?_; rintro _ _ rfl) | fail) | ((with_reducible apply iOinsert); first | (refine OJ.as AS.insert ?_; rintro _ _ rfl) | fail) | ((with_reducible apply iOmapUpdate); first | (refine OJ.as AS.mapUpdate ?_; rintro _ _ rfl) | fail) | refine OJ.unboxP fun _ => ?_ | fail) | ((with_reducible apply iJ); first | refine J.seq ?_ | refine J.region ?_ | refine J.block ?_ | refine J.skip ?_ | refine J.exit ?_ | refine J.condT ?_ | refine J.condF ?_ | refine J.cond (fun _ => ?_) (fun _ => ?_) | refine J.ret (ends _ trivial rfl ?_) | fail) | ((with_reducible apply iJK); first | refine JK.code ?_ | refine JK.blk ?_ | refine JK.loop ?_ | refine JK.begin ?_ | refine JK.more ?_ | fail) | ((with_reducible apply iEnt); first | exact Ent.nil | ((with_reducible apply iERow); refine Ent.row ?_ ?_) | ((with_reducible apply iEBox); first | refine Ent.box ?_ ?_ | refine Ent.box2 ?_ ?_) | ((with_reducible apply iEBlk); refine Ent.blk ?_ ?_) | ((with_reducible apply iEPure); refine Ent.pure ?_ ?_) | ((with_reducible apply iERdR); first | refine Ent.rdR ?_ | refine Ent.any ?_ | fail) | refine Ent.any ?_ | with_reducible exact Ent.refl | fail) | ((with_reducible apply iEq); with_reducible rfl) | fail)
theorem iSpansMove_any (v : Value) (l : List Span) (c a n : Int) : Spec Tryz.prog 46 [v, .int .i64 c, .int .i64 a, .int .i64 n] [rd eSpan v l] [] (fun u : Value => u) (fun u => [row eSpan 62 u (sSpansMove l c a n)]) (fun _ => True) := by
  rw [← iSpansMove_eq]
  cases hk : iSpansOk l c with
  | true =>
    refine iSpansMove_c v l c a n ?_
    simp only [iSpansOk, Bool.and_eq_true, decide_eq_true_eq] at hk
    omega
  | false =>
    rw [iMove_no (.inl hk)]
    exact iSpansMove_no v l c a n hk
theorem push_len (x : Look) (g : List (Look × Nat)) : (push x g).length ≤ g.length + 1 := by
  rcases g with _ | ⟨⟨y, m⟩, r⟩
  · exact Nat.le_refl _
  · simp only [push]
    split <;> simp
theorem groups_len : ∀ l : List Look, (groups l).length ≤ l.length
  | [] => Nat.le_refl _
  | x :: l => by
    have h1 := groups_len l
    have h2 := push_len x (groups l)
    simp only [groups, List.length_cons]
    omega
theorem spansOf_len : ∀ (g : List (Look × Nat)) (i : Nat), (spansOf i g).length ≤ g.length
  | [], _ => Nat.le_refl _
  | (x, n) :: r, i => by
    have := spansOf_len r (i + n)
    simp only [spansOf, List.length_append, List.length_cons]
    split <;> simp <;> omega
theorem sSpansMove_len (l : List Span) (c a n : Int) : (sSpansMove l c a n).length ≤ 80 := by
  unfold sSpansMove
  cases hk : sMoveOk l c a n with
  | false => simp
  | true =>
    have hn := ok_n hk
    have h2 := sMove_len (l := sLooks l c.toNat) (a := a.toNat) (n := n) (by rw [sLooks_len]; omega) (by rw [sLooks_len]; omega)
    rw [sLooks_len] at h2
    have h3 := groups_len (sMove (sLooks l c.toNat) a.toNat n)
    have h4 := spansOf_len (groups (sMove (sLooks l c.toNat) a.toNat n)) 0
    show (spansOf 0 (groups (sMove (sLooks l c.toNat) a.toNat n))).length ≤ 80
    omega
theorem eqSpS_refl (l : List Span) : eqSpS l l = true := by
  simp only [eqSpS, decide_true, Bool.true_and]
  exact all_allI fun j _ _ => eqSp_eq.2 rfl
end Go.SL

/- impl.isWide, isLine, slices.Clone, copyPara. -/
set_option linter.unusedVariables false
set_option linter.unusedSimpArgs false
namespace Go.SL
open Go.RowKit Go.Proofs
set_option maxRecDepth 100000 in
theorem isWide_c (n : Int) : Spec Tryz.prog 39 [.int .i64 n] [] [] (fun _ : Unit => .bool (inR n 0 20000)) (fun _ => []) (fun _ => True) := by
  refine Spec.mk Tryz.func39 rfl Tryz.ntmps39 rfl ?_
  intro w0 O hR hS0; clear hR hS0
  repeat' (first | ((with_reducible apply iOJ); first | ((with_reducible apply iOp); refine OJ.p ?_) | with_reducible apply OJ.nil | ((with_reducible apply iOg); first | refine OJ.guardY ?_ | refine OJ.guardN ?_ | refine OJ.guardNd ?_ | refine OJ.guardU ?_ | refine OJ.guardS (fun _ => ?_) (fun _ => ?_) | fail) | ((with_reducible apply iOstore); first | (refine OJ.as AS.store ?_; rintro _ _ rfl) | (refine OJ.as AS.storeA ?_; rintro _ _ rfl) | (refine OJ.as AS.storeAV ?_; rintro _ _ rfl) | (refine OJ.as AS.storeE ?_; rintro _ _ rfl) | (refine OJ.as AS.storeEA ?_; rintro _ _ rfl) | (refine OJ.as AS.storeP ?_; rintro _ _ rfl) | fail) | ((with_reducible apply iOcall); first | (refine OJ.as AS.append1 ?_; rintro _ _ rfl) | (refine OJ.as AS.append ?_; rintro _ _ rfl) | fail) | ((with_reducible apply iObox); first | (refine OJ.as AS.box1 ?_; rintro _ _ ⟨_, rfl, rfl⟩) | (refine OJ.as AS.boxA ?_; rintro _ _ ⟨_, rfl, rfl⟩) | fail) | ((with_reducible apply iOalloc); first | (refine OJ.as AS.alloc ?_; rintro _ _ ⟨_, rfl, rfl⟩) | fail) | ((with_reducible apply iObuildSlice); first | (refine OJ.as AS.buildSlice ?_; rintro _ _ ⟨_, rfl, rfl⟩) | fail) | ((with_reducible apply iOmakeSlice); first | (refine OJ.as AS.makeSlice ?_; rintro _ _ rfl) | fail) | ((with_reducible apply iOmakeMap); first | (refine OJ.as AS.makeMap ?_; rintro _ _ ⟨_, rfl, rfl⟩) | fail) | ((with_reducible apply iOmapEntry); first | (refine OJ.as AS.mapEntry ?_; rintro _ _ ⟨_, _, rfl, rfl⟩) | fail) | ((with_reducible apply iOentryStore); first | (refine OJ.as AS.entryStore ?_; rintro _ _ rfl) | fail) | ((with_reducible apply iOinsert); first | (refine OJ.as AS.insert ?_; rintro _ _ rfl) | fail) | ((with_reducible apply iOmapUpdate); first | (refine OJ.as AS.mapUpdate ?_; rintro _ _ rfl) | fail) | refine OJ.unboxP fun _ => ?_ | fail) | ((with_reducible apply iJ); first | refine J.seq ?_ | refine J.region ?_ | refine J.block ?_ | refine J.skip ?_ | refine J.exit ?_ | refine J.condT ?_ | refine J.condF ?_ | refine J.cond (fun _ => ?_) (fun _ => ?_) | refine J.retB ?_ | fail) | ((with_reducible apply iJK); first | refine JK.code ?_ | refine JK.blk ?_ | refine JK.loop ?_ | refine JK.begin ?_ | refine JK.more ?_ | fail) | ((with_reducible apply iEnt); first | exact Ent.nil | ((with_reducible apply iERow); refine Ent.row ?_ ?_) | ((with_reducible apply iEBox); first | refine Ent.box ?_ ?_ | refine Ent.box2 ?_ ?_) | ((with_reducible apply iEBlk); refine Ent.blk ?_ ?_) | ((with_reducible apply iEPure); refine Ent.pure ?_ ?_) | ((with_reducible apply iERdR); first | refine Ent.rdR ?_ | refine Ent.any ?_ | fail) | refine Ent.any ?_ | with_reducible exact Ent.refl | fail) | ((with_reducible apply iEq); with_reducible rfl) | fail)
  all_goals simp [inR, *]
def inLine (n f t : Int) : Bool := decide (0 ≤ f) && (decide (f ≤ t) && decide (t ≤ n))
set_option maxRecDepth 100000 in
theorem isLine_c (n f t : Int) : Spec Tryz.prog 53 [.int .i64 n, .int .i64 f, .int .i64 t] [] [] (fun _ : Unit => .bool (inLine n f t)) (fun _ => []) (fun _ => True) := by
  refine Spec.mk Tryz.func53 rfl Tryz.ntmps53 rfl ?_
  intro w0 O hR hS0; clear hR hS0
  repeat' (first | ((with_reducible apply iOJ); first | ((with_reducible apply iOp); refine OJ.p ?_) | with_reducible apply OJ.nil | ((with_reducible apply iOg); first | refine OJ.guardY ?_ | refine OJ.guardN ?_ | refine OJ.guardNd ?_ | refine OJ.guardU ?_ | refine OJ.guardS (fun _ => ?_) (fun _ => ?_) | fail) | ((with_reducible apply iOstore); first | (refine OJ.as AS.store ?_; rintro _ _ rfl) | (refine OJ.as AS.storeA ?_; rintro _ _ rfl) | (refine OJ.as AS.storeAV ?_; rintro _ _ rfl) | (refine OJ.as AS.storeE ?_; rintro _ _ rfl) | (refine OJ.as AS.storeEA ?_; rintro _ _ rfl) | (refine OJ.as AS.storeP ?_; rintro _ _ rfl) | fail) | ((with_reducible apply iOcall); first | (refine OJ.as AS.append1 ?_; rintro _ _ rfl) | (refine OJ.as AS.append ?_; rintro _ _ rfl) | fail) | ((with_reducible apply iObox); first | (refine OJ.as AS.box1 ?_; rintro _ _ ⟨_, rfl, rfl⟩) | (refine OJ.as AS.boxA ?_; rintro _ _ ⟨_, rfl, rfl⟩) | fail) | ((with_reducible apply iOalloc); first | (refine OJ.as AS.alloc ?_; rintro _ _ ⟨_, rfl, rfl⟩) | fail) | ((with_reducible apply iObuildSlice); first | (refine OJ.as AS.buildSlice ?_; rintro _ _ ⟨_, rfl, rfl⟩) | fail) | ((with_reducible apply iOmakeSlice); first | (refine OJ.as AS.makeSlice ?_; rintro _ _ rfl) | fail) | ((with_reducible apply iOmakeMap); first | (refine OJ.as AS.makeMap ?_; rintro _ _ ⟨_, rfl, rfl⟩) | fail) | ((with_reducible apply iOmapEntry); first | (refine OJ.as AS.mapEntry ?_; rintro _ _ ⟨_, _, rfl, rfl⟩) | fail) | ((with_reducible apply iOentryStore); first | (refine OJ.as AS.entryStore ?_; rintro _ _ rfl) | fail) | ((with_reducible apply iOinsert); first | (refine OJ.as AS.insert ?_; rintro _ _ rfl) | fail) | ((with_reducible apply iOmapUpdate); first | (refine OJ.as AS.mapUpdate ?_; rintro _ _ rfl) | fail) | refine OJ.unboxP fun _ => ?_ | fail) | ((with_reducible apply iJ); first | refine J.seq ?_ | refine J.region ?_ | refine J.block ?_ | refine J.skip ?_ | refine J.exit ?_ | refine J.condT ?_ | refine J.condF ?_ | refine J.cond (fun _ => ?_) (fun _ => ?_) | refine J.retB ?_ | fail) | ((with_reducible apply iJK); first | refine JK.code ?_ | refine JK.blk ?_ | refine JK.loop ?_ | refine JK.begin ?_ | refine JK.more ?_ | fail) | ((with_reducible apply iEnt); first | exact Ent.nil | ((with_reducible apply iERow); refine Ent.row ?_ ?_) | ((with_reducible apply iEBox); first | refine Ent.box ?_ ?_ | refine Ent.box2 ?_ ?_) | ((with_reducible apply iEBlk); refine Ent.blk ?_ ?_) | ((with_reducible apply iEPure); refine Ent.pure ?_ ?_) | ((with_reducible apply iERdR); first | refine Ent.rdR ?_ | refine Ent.any ?_ | fail) | refine Ent.any ?_ | with_reducible exact Ent.refl | fail) | ((with_reducible apply iEq); with_reducible rfl) | fail)
  all_goals simp [inLine, *]
set_option maxRecDepth 100000 in
theorem cloneI_c (v : Value) (xs : List Int) (hl : xs.length ≤ 1000000) : Spec Tryz.prog 45 [v] [rd eInt v xs] [] (fun u : Value => u) (fun u => [row eInt 3 u xs]) (fun _ => True) := by
  refine Spec.mk Tryz.func45 rfl Tryz.ntmps45 rfl ?_
  intro w0 O hR hS0
  have hr := hR _ List.mem_cons_self; clear hR hS0
  refine J.know (R := rd eInt v xs) fun w hw => ?_
  obtain ⟨A, cp, rfl, _, _, hw⟩ := hw
  cases A with
  | none =>
    obtain rfl : xs = [] := by
      rcases xs with _ | ⟨x, xs⟩
      · rfl
      · obtain ⟨_, h, _⟩ := hw (by simp)
        cases h
    repeat' (first | ((with_reducible apply iOJ); first | ((with_reducible apply iOp); refine OJ.p ?_) | with_reducible apply OJ.nil | ((with_reducible apply iOg); first | refine OJ.guardY ?_ | refine OJ.guardN ?_ | refine OJ.guardNd ?_ | refine OJ.guardU ?_ | refine OJ.guardS (fun _ => ?_) (fun _ => ?_) | fail) | ((with_reducible apply iOstore); first | (refine OJ.as AS.store ?_; rintro _ _ rfl) | (refine OJ.as AS.storeA ?_; rintro _ _ rfl) | (refine OJ.as AS.storeAV ?_; rintro _ _ rfl) | (refine OJ.as AS.storeE ?_; rintro _ _ rfl) | (refine OJ.as AS.storeEA ?_; rintro _ _ rfl) | (refine OJ.as AS.storeP ?_; rintro _ _ rfl) | fail) | ((with_reducible apply iOcall); first | (refine OJ.as AS.append1 ?_; rintro _ _ rfl) | (refine OJ.as AS.append ?_; rintro _ _ rfl) | fail) | ((with_reducible apply iObox); first | (refine OJ.as AS.box1 ?_; rintro _ _ ⟨_, rfl, rfl⟩) | (refine OJ.as AS.boxA ?_; rintro _ _ ⟨_, rfl, rfl⟩) | fail) | ((with_reducible apply iOalloc); first | (refine OJ.as AS.alloc ?_; rintro _ _ ⟨_, rfl, rfl⟩) | fail) | ((with_reducible apply iObuildSlice); first | (refine OJ.as AS.buildSlice ?_; rintro _ _ ⟨_, rfl, rfl⟩) | fail) | ((with_reducible apply iOmakeSlice); first | (refine OJ.as AS.makeSlice ?_; rintro _ _ rfl) | fail) | ((with_reducible apply iOmakeMap); first | (refine OJ.as AS.makeMap ?_; rintro _ _ ⟨_, rfl, rfl⟩) | fail) | ((with_reducible apply iOmapEntry); first | (refine OJ.as AS.mapEntry ?_; rintro _ _ ⟨_, _, rfl, rfl⟩) | fail) | ((with_reducible apply iOentryStore); first | (refine OJ.as AS.entryStore ?_; rintro _ _ rfl) | fail) | ((with_reducible apply iOinsert); first | (refine OJ.as AS.insert ?_; rintro _ _ rfl) | fail) | ((with_reducible apply iOmapUpdate); first | (refine OJ.as AS.mapUpdate ?_; rintro _ _ rfl) | fail) | refine OJ.unboxP fun _ => ?_ | fail) | ((with_reducible apply iJ); first | refine J.seq ?_ | refine J.region ?_ | refine J.block ?_ | refine J.skip ?_ | refine J.exit ?_ | refine J.condT ?_ | refine J.condF ?_ | refine J.cond (fun _ => ?_) (fun _ => ?_) | refine J.ret (ends _ trivial rfl ?_) | fail) | ((with_reducible apply iJK); first | refine JK.code ?_ | refine JK.blk ?_ | refine JK.loop ?_ | refine JK.begin ?_ | refine JK.more ?_ | fail) | ((with_reducible apply iEnt); first | exact Ent.nil | ((with_reducible apply iERow); refine Ent.row ?_ ?_) | ((with_reducible apply iEBox); first | refine Ent.box ?_ ?_ | refine Ent.box2 ?_ ?_) | ((with_reducible apply iEBlk); refine Ent.blk ?_ ?_) | ((with_reducible apply iEPure); refine Ent.pure ?_ ?_) | ((with_reducible apply iERdR); first | refine Ent.rdR ?_ | refine Ent.any ?_ | fail) | refine Ent.any ?_ | with_reducible exact Ent.refl | fail) | ((with_reducible apply iEq); with_reducible rfl) | fail)
  | some a =>
    repeat' (first | ((with_reducible apply iOJ); first | ((with_reducible apply iOp); refine OJ.p ?_) | with_reducible apply OJ.nil | ((with_reducible apply iOg); first | refine OJ.guardY ?_ | refine OJ.guardN ?_ | refine OJ.guardNd ?_ | refine OJ.guardU ?_ | refine OJ.guardS (fun _ => ?_) (fun _ => ?_) | fail) | ((with_reducible apply iOstore); first | (refine OJ.as AS.store ?_; rintro _ _ rfl) | (refine OJ.as AS.storeA ?_; rintro _ _ rfl) | (refine OJ.as AS.storeAV ?_; rintro _ _ rfl) | (refine OJ.as AS.storeE ?_; rintro _ _ rfl) | (refine OJ.as AS.storeEA ?_; rintro _ _ rfl) | (refine OJ.as AS.storeP ?_; rintro _ _ rfl) | fail) | ((with_reducible apply iOcall); first | (refine OJ.as AS.append1 ?_; rintro _ _ rfl) | (refine OJ.as AS.append ?_; rintro _ _ rfl) | fail) | ((with_reducible apply iObox); first | (refine OJ.as AS.box1 ?_; rintro _ _ ⟨_, rfl, rfl⟩) | (refine OJ.as AS.boxA ?_; rintro _ _ ⟨_, rfl, rfl⟩) | fail) | ((with_reducible apply iOalloc); first | (refine OJ.as AS.alloc ?_; rintro _ _ ⟨_, rfl, rfl⟩) | fail) | ((with_reducible apply iObuildSlice); first | (refine OJ.as AS.buildSlice ?_; rintro _ _ ⟨_, rfl, rfl⟩) | fail) | ((with_reducible apply iOmakeSlice); first | (refine OJ.as AS.makeSlice ?_; rintro _ _ rfl) | fail) | ((with_reducible apply iOmakeMap); first | (refine OJ.as AS.makeMap ?_; rintro _ _ ⟨_, rfl, rfl⟩) | fail) | ((with_reducible apply iOmapEntry); first | (refine OJ.as AS.mapEntry ?_; rintro _ _ ⟨_, _, rfl, rfl⟩) | fail) | ((with_reducible apply iOentryStore); first | (refine OJ.as AS.entryStore ?_; rintro _ _ rfl) | fail) | ((with_reducible apply iOinsert); first | (refine OJ.as AS.insert ?_; rintro _ _ rfl) | fail) | ((with_reducible apply iOmapUpdate); first | (refine OJ.as AS.mapUpdate ?_; rintro _ _ rfl) | fail) | refine OJ.unboxP fun _ => ?_ | fail) | ((with_reducible apply iJ); first | refine J.seq ?_ | refine J.region ?_ | refine J.block ?_ | refine J.skip ?_ | refine J.exit ?_ | refine J.condT ?_ | refine J.condF ?_ | refine J.cond (fun _ => ?_) (fun _ => ?_) | refine J.ret (ends _ trivial rfl ?_) | fail) | ((with_reducible apply iJK); first | refine JK.code ?_ | refine JK.blk ?_ | refine JK.loop ?_ | refine JK.begin ?_ | refine JK.more ?_ | fail) | ((with_reducible apply iEnt); first | exact Ent.nil | ((with_reducible apply iERow); refine Ent.row ?_ ?_) | ((with_reducible apply iEBox); first | refine Ent.box ?_ ?_ | refine Ent.box2 ?_ ?_) | ((with_reducible apply iEBlk); refine Ent.blk ?_ ?_) | ((with_reducible apply iEPure); refine Ent.pure ?_ ?_) | ((with_reducible apply iERdR); first | refine Ent.rdR ?_ | refine Ent.any ?_ | fail) | refine Ent.any ?_ | with_reducible exact Ent.refl | fail) | ((with_reducible apply iEq); with_reducible rfl) | fail)
    all_goals rfl
set_option maxRecDepth 100000 in
theorem cloneS_c (v : Value) (xs : List Span) (hl : xs.length ≤ 1100000) : Spec Tryz.prog 64 [v] [rd eSpan v xs] [] (fun u : Value => u) (fun u => [row eSpan 62 u xs]) (fun _ => True) := by
  refine Spec.mk Tryz.func64 rfl Tryz.ntmps64 rfl ?_
  intro w0 O hR hS0
  have hr := hR _ List.mem_cons_self; clear hR hS0
  refine J.know (R := rd eSpan v xs) fun w hw => ?_
  obtain ⟨A, cp, rfl, _, _, hw⟩ := hw
  cases A with
  | none =>
    obtain rfl : xs = [] := by
      rcases xs with _ | ⟨x, xs⟩
      · rfl
      · obtain ⟨_, h, _⟩ := hw (by simp)
        cases h
    repeat' (first | ((with_reducible apply iOJ); first | ((with_reducible apply iOp); refine OJ.p ?_) | with_reducible apply OJ.nil | ((with_reducible apply iOg); first | refine OJ.guardY ?_ | refine OJ.guardN ?_ | refine OJ.guardNd ?_ | refine OJ.guardU ?_ | refine OJ.guardS (fun _ => ?_) (fun _ => ?_) | fail) | ((with_reducible apply iOstore); first | (refine OJ.as AS.store ?_; rintro _ _ rfl) | (refine OJ.as AS.storeA ?_; rintro _ _ rfl) | (refine OJ.as AS.storeAV ?_; rintro _ _ rfl) | (refine OJ.as AS.storeE ?_; rintro _ _ rfl) | (refine OJ.as AS.storeEA ?_; rintro _ _ rfl) | (refine OJ.as AS.storeP ?_; rintro _ _ rfl) | fail) | ((with_reducible apply iOcall); first | (refine OJ.as AS.append1 ?_; rintro _ _ rfl) | (refine OJ.as AS.append ?_; rintro _ _ rfl) | fail) | ((with_reducible apply iObox); first | (refine OJ.as AS.box1 ?_; rintro _ _ ⟨_, rfl, rfl⟩) | (refine OJ.as AS.boxA ?_; rintro _ _ ⟨_, rfl, rfl⟩) | fail) | ((with_reducible apply iOalloc); first | (refine OJ.as AS.alloc ?_; rintro _ _ ⟨_, rfl, rfl⟩) | fail) | ((with_reducible apply iObuildSlice); first | (refine OJ.as AS.buildSlice ?_; rintro _ _ ⟨_, rfl, rfl⟩) | fail) | ((with_reducible apply iOmakeSlice); first | (refine OJ.as AS.makeSlice ?_; rintro _ _ rfl) | fail) | ((with_reducible apply iOmakeMap); first | (refine OJ.as AS.makeMap ?_; rintro _ _ ⟨_, rfl, rfl⟩) | fail) | ((with_reducible apply iOmapEntry); first | (refine OJ.as AS.mapEntry ?_; rintro _ _ ⟨_, _, rfl, rfl⟩) | fail) | ((with_reducible apply iOentryStore); first | (refine OJ.as AS.entryStore ?_; rintro _ _ rfl) | fail) | ((with_reducible apply iOinsert); first | (refine OJ.as AS.insert ?_; rintro _ _ rfl) | fail) | ((with_reducible apply iOmapUpdate); first | (refine OJ.as AS.mapUpdate ?_; rintro _ _ rfl) | fail) | refine OJ.unboxP fun _ => ?_ | fail) | ((with_reducible apply iJ); first | refine J.seq ?_ | refine J.region ?_ | refine J.block ?_ | refine J.skip ?_ | refine J.exit ?_ | refine J.condT ?_ | refine J.condF ?_ | refine J.cond (fun _ => ?_) (fun _ => ?_) | refine J.ret (ends _ trivial rfl ?_) | fail) | ((with_reducible apply iJK); first | refine JK.code ?_ | refine JK.blk ?_ | refine JK.loop ?_ | refine JK.begin ?_ | refine JK.more ?_ | fail) | ((with_reducible apply iEnt); first | exact Ent.nil | ((with_reducible apply iERow); refine Ent.row ?_ ?_) | ((with_reducible apply iEBox); first | refine Ent.box ?_ ?_ | refine Ent.box2 ?_ ?_) | ((with_reducible apply iEBlk); refine Ent.blk ?_ ?_) | ((with_reducible apply iEPure); refine Ent.pure ?_ ?_) | ((with_reducible apply iERdR); first | refine Ent.rdR ?_ | refine Ent.any ?_ | fail) | refine Ent.any ?_ | with_reducible exact Ent.refl | fail) | ((with_reducible apply iEq); with_reducible rfl) | fail)
  | some a =>
    repeat' (first | ((with_reducible apply iOJ); first | ((with_reducible apply iOp); refine OJ.p ?_) | with_reducible apply OJ.nil | ((with_reducible apply iOg); first | refine OJ.guardY ?_ | refine OJ.guardN ?_ | refine OJ.guardNd ?_ | refine OJ.guardU ?_ | refine OJ.guardS (fun _ => ?_) (fun _ => ?_) | fail) | ((with_reducible apply iOstore); first | (refine OJ.as AS.store ?_; rintro _ _ rfl) | (refine OJ.as AS.storeA ?_; rintro _ _ rfl) | (refine OJ.as AS.storeAV ?_; rintro _ _ rfl) | (refine OJ.as AS.storeE ?_; rintro _ _ rfl) | (refine OJ.as AS.storeEA ?_; rintro _ _ rfl) | (refine OJ.as AS.storeP ?_; rintro _ _ rfl) | fail) | ((with_reducible apply iOcall); first | (refine OJ.as AS.append1 ?_; rintro _ _ rfl) | (refine OJ.as AS.append ?_; rintro _ _ rfl) | fail) | ((with_reducible apply iObox); first | (refine OJ.as AS.box1 ?_; rintro _ _ ⟨_, rfl, rfl⟩) | (refine OJ.as AS.boxA ?_; rintro _ _ ⟨_, rfl, rfl⟩) | fail) | ((with_reducible apply iOalloc); first | (refine OJ.as AS.alloc ?_; rintro _ _ ⟨_, rfl, rfl⟩) | fail) | ((with_reducible apply iObuildSlice); first | (refine OJ.as AS.buildSlice ?_; rintro _ _ ⟨_, rfl, rfl⟩) | fail) | ((with_reducible apply iOmakeSlice); first | (refine OJ.as AS.makeSlice ?_; rintro _ _ rfl) | fail) | ((with_reducible apply iOmakeMap); first | (refine OJ.as AS.makeMap ?_; rintro _ _ ⟨_, rfl, rfl⟩) | fail) | ((with_reducible apply iOmapEntry); first | (refine OJ.as AS.mapEntry ?_; rintro _ _ ⟨_, _, rfl, rfl⟩) | fail) | ((with_reducible apply iOentryStore); first | (refine OJ.as AS.entryStore ?_; rintro _ _ rfl) | fail) | ((with_reducible apply iOinsert); first | (refine OJ.as AS.insert ?_; rintro _ _ rfl) | fail) | ((with_reducible apply iOmapUpdate); first | (refine OJ.as AS.mapUpdate ?_; rintro _ _ rfl) | fail) | refine OJ.unboxP fun _ => ?_ | fail) | ((with_reducible apply iJ); first | refine J.seq ?_ | refine J.region ?_ | refine J.block ?_ | refine J.skip ?_ | refine J.exit ?_ | refine J.condT ?_ | refine J.condF ?_ | refine J.cond (fun _ => ?_) (fun _ => ?_) | refine J.ret (ends _ trivial rfl ?_) | fail) | ((with_reducible apply iJK); first | refine JK.code ?_ | refine JK.blk ?_ | refine JK.loop ?_ | refine JK.begin ?_ | refine JK.more ?_ | fail) | ((with_reducible apply iEnt); first | exact Ent.nil | ((with_reducible apply iERow); refine Ent.row ?_ ?_) | ((with_reducible apply iEBox); first | refine Ent.box ?_ ?_ | refine Ent.box2 ?_ ?_) | ((with_reducible apply iEBlk); refine Ent.blk ?_ ?_) | ((with_reducible apply iEPure); refine Ent.pure ?_ ?_) | ((with_reducible apply iERdR); first | refine Ent.rdR ?_ | refine Ent.any ?_ | fail) | refine Ent.any ?_ | with_reducible exact Ent.refl | fail) | ((with_reducible apply iEq); with_reducible rfl) | fail)
    all_goals rfl
set_option maxRecDepth 100000 in
theorem copyPara_c (p : Para) (v : Value) (hl : p.spans.length ≤ 1100000) : Spec Tryz.prog 40 [pv p v] [rd eSpan v p.spans] [] (fun u : Value => pv p u) (fun u => [row eSpan 62 u p.spans]) (fun _ => True) := by
  refine Spec.mk Tryz.func40 rfl Tryz.ntmps40 rfl ?_
  intro w0 O hR hS0
  have hr := hR _ List.mem_cons_self; clear hR hS0
  repeat' (first | ((with_reducible apply iOJ); first | ((with_reducible apply iOp); refine OJ.p ?_) | with_reducible apply OJ.nil | ((with_reducible apply iOg); first | refine OJ.guardY ?_ | refine OJ.guardN ?_ | refine OJ.guardNd ?_ | refine OJ.guardU ?_ | refine OJ.guardS (fun _ => ?_) (fun _ => ?_) | fail) | ((with_reducible apply iOstore); first | (refine OJ.as AS.store ?_; rintro _ _ rfl) | (refine OJ.as AS.storeA ?_; rintro _ _ rfl) | (refine OJ.as AS.storeAV ?_; rintro _ _ rfl) | (refine OJ.as AS.storeE ?_; rintro _ _ rfl) | (refine OJ.as AS.storeEA ?_; rintro _ _ rfl) | (refine OJ.as AS.storeP ?_; rintro _ _ rfl) | fail) | ((with_reducible apply iOcall); first | (refine OJ.as AS.append1 ?_; rintro _ _ rfl) | (refine OJ.as AS.append ?_; rintro _ _ rfl) | (refine OJ.as (AS.call1 (cloneS_c _ _ hl)) ?_; rotate_right; rintro _ _ ⟨y, hy, rfl, rfl⟩) | fail) | ((with_reducible apply iObox); first | (refine OJ.as AS.box1 ?_; rintro _ _ ⟨_, rfl, rfl⟩) | (refine OJ.as AS.boxA ?_; rintro _ _ ⟨_, rfl, rfl⟩) | fail) | ((with_reducible apply iOalloc); first | (refine OJ.as AS.alloc ?_; rintro _ _ ⟨_, rfl, rfl⟩) | fail) | ((with_reducible apply iObuildSlice); first | (refine OJ.as AS.buildSlice ?_; rintro _ _ ⟨_, rfl, rfl⟩) | fail) | ((with_reducible apply iOmakeSlice); first | (refine OJ.as AS.makeSlice ?_; rintro _ _ rfl) | fail) | ((with_reducible apply iOmakeMap); first | (refine OJ.as AS.makeMap ?_; rintro _ _ ⟨_, rfl, rfl⟩) | fail) | ((with_reducible apply iOmapEntry); first | (refine OJ.as AS.mapEntry ?_; rintro _ _ ⟨_, _, rfl, rfl⟩) | fail) | ((with_reducible apply iOentryStore); first | (refine OJ.as AS.entryStore ?_; rintro _ _ rfl) | fail) | ((with_reducible apply iOinsert); first | (refine OJ.as AS.insert ?_; rintro _ _ rfl) | fail) | ((with_reducible apply iOmapUpdate); first | (refine OJ.as AS.mapUpdate ?_; rintro _ _ rfl) | fail) | refine OJ.unboxP fun _ => ?_ | fail) | ((with_reducible apply iJ); first | refine J.seq ?_ | refine J.region ?_ | refine J.block ?_ | refine J.skip ?_ | refine J.exit ?_ | refine J.condT ?_ | refine J.condF ?_ | refine J.cond (fun _ => ?_) (fun _ => ?_) | refine J.retC (ends _ trivial rfl ?_) | fail) | ((with_reducible apply iJK); first | refine JK.code ?_ | refine JK.blk ?_ | refine JK.loop ?_ | refine JK.begin ?_ | refine JK.more ?_ | fail) | ((with_reducible apply iEnt); first | exact Ent.nil | ((with_reducible apply iERow); refine Ent.row ?_ ?_) | ((with_reducible apply iEBox); first | refine Ent.box ?_ ?_ | refine Ent.box2 ?_ ?_) | ((with_reducible apply iEBlk); refine Ent.blk ?_ ?_) | ((with_reducible apply iEPure); refine Ent.pure ?_ ?_) | ((with_reducible apply iERdR); first | refine Ent.rdR ?_ | refine Ent.any ?_ | fail) | refine Ent.any ?_ | with_reducible exact Ent.refl | fail) | ((with_reducible apply iEq); with_reducible rfl) | fail)
end Go.SL

/- spec.ParaCut. -/
set_option linter.unusedVariables false
set_option linter.unusedSimpArgs false
namespace Go.SL
open Go.RowKit Go.Proofs
def zPara : Para := ⟨[], 0, 0, 0, 0, []⟩
def sCut (p : Para) (f t : Int) : Option Para := match iGet p.text with
  | none => none
  | some xs => match decide (sCheck p = 0) && inR f 0 xs.length && inR t f xs.length with
    | true => some (sMake p (xs.take f.toNat ++ xs.drop t.toNat) (sSpansMove p.spans xs.length f (f - t)))
    | false => none
theorem getI_len : ∀ (l : List (Nat × Bool)) (acc xs : List Int), getI acc l = some xs → acc.length ≤ 80 → xs.length ≤ 80
  | [], acc, xs, h, ha => by simp only [getI, Option.some.injEq] at h; rw [← h]; exact ha
  | q :: r, acc, xs, h, ha => by
    simp only [getI] at h
    split at h
    · cases h
    · rename_i hq
      rw [Bool.or_eq_false_iff, decide_eq_false_iff_not] at hq
      exact getI_len r _ xs h (by rw [List.length_append]; simp only [List.length_cons, List.length_nil]; omega)
theorem iGet_len {l : List UInt8} {xs : List Int} (h : iGet l = some xs) : xs.length ≤ 80 := getI_len _ _ _ h (by simp)
end Go.SL
