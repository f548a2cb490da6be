/- Parts of the proof (joined by program). -/
import Derived.Test.YtlonbhkjjoognaaGreatDoorMC6
/- laws.wcInts, wcPara at what is alike; impl.ParaCheck of what is ok. -/
set_option linter.unusedVariables false
set_option linter.unusedSimpArgs false
namespace Go.SL
open Go.RowKit Go.Proofs
theorem eqSpS_refl2 (l : List Span) : eqSpS l l = true := by
  unfold eqSpS
  rw [decide_eq_true rfl, Bool.true_and]
  have : ∀ (n i : Nat), allI (fun i => eqSp (l.getD i eSpan.d) (l.getD i eSpan.d)) n i = true := by
    intro n
    induction n with
    | zero => intro i; rfl
    | succ n ih =>
      intro i
      simp only [allI, ih]
      rw [eqSp_eq.2 rfl]
      rfl
  exact this _ _
theorem wcSpans_alike (v u : Value) (l : List Span) : Spec Tryz.prog 12 [v, u] [rd eSpan v l, rd eSpan u l] [] (fun _ : Unit => .bool true) (fun _ => []) (fun _ => True) := by
  have := wcSpans_c v u l l
  rwa [eqSpS_refl2] at this
set_option maxRecDepth 100000 in
set_option maxHeartbeats 4000000 in
theorem wcInts_alike (v u : Value) (l : List Int) : Spec Tryz.prog 10 [v, u] [rd eInt v l, rd eInt u l] [] (fun _ : Unit => .bool true) (fun _ => []) (fun _ => True) := by
  refine Spec.mk Tryz.func10 rfl Tryz.ntmps10 rfl ?_
  intro w0 O hR hS0
  have hr := hR _ List.mem_cons_self
  have hr2 := hR _ (List.mem_cons_of_mem _ List.mem_cons_self); clear hR
  have hb := rd_bd (hr.h w0 hS0); clear hS0
  repeat' (first | ((with_reducible apply iOJ); first | ((with_reducible apply iOp); refine OJ.p ?_) | with_reducible apply OJ.nil | ((with_reducible apply iOg); first | refine OJ.guardY ?_ | refine OJ.guardN ?_ | refine OJ.guardNd ?_ | refine OJ.guardU ?_ | refine OJ.guardS (fun _ => ?_) (fun _ => ?_) | fail) | ((with_reducible apply iOstore); first | (refine OJ.as AS.store ?_; rintro _ _ rfl) | (refine OJ.as AS.storeA ?_; rintro _ _ rfl) | (refine OJ.as AS.storeAV ?_; rintro _ _ rfl) | (refine OJ.as AS.storeE ?_; rintro _ _ rfl) | (refine OJ.as AS.storeEA ?_; rintro _ _ rfl) | (refine OJ.as AS.storeP ?_; rintro _ _ rfl) | fail) | ((with_reducible apply iOcall); first | (refine OJ.as AS.append1 ?_; rintro _ _ rfl) | (refine OJ.as AS.append ?_; rintro _ _ rfl) | fail) | ((with_reducible apply iObox); first | (refine OJ.as AS.box1 ?_; rintro _ _ ⟨_, rfl, rfl⟩) | (refine OJ.as AS.boxA ?_; rintro _ _ ⟨_, rfl, rfl⟩) | fail) | ((with_reducible apply iOalloc); first | (refine OJ.as AS.alloc ?_; rintro _ _ ⟨_, rfl, rfl⟩) | fail) | ((with_reducible apply iObuildSlice); first | (refine OJ.as AS.buildSlice ?_; rintro _ _ ⟨_, rfl, rfl⟩) | fail) | ((with_reducible apply iOmakeSlice); first | (refine OJ.as AS.makeSlice ?_; rintro _ _ rfl) | fail) | ((with_reducible apply iOmakeMap); first | (refine OJ.as AS.makeMap ?_; rintro _ _ ⟨_, rfl, rfl⟩) | fail) | ((with_reducible apply iOmapEntry); first | (refine OJ.as AS.mapEntry ?_; rintro _ _ ⟨_, _, rfl, rfl⟩) | fail) | ((with_reducible apply iOentryStore); first | (refine OJ.as AS.entryStore ?_; rintro _ _ rfl) | fail) | ((with_reducible apply iOinsert); first | (refine OJ.as AS.insert ?_; rintro _ _ rfl) | fail) | ((with_reducible apply iOmapUpdate); first | (refine OJ.as AS.mapUpdate ?_; rintro _ _ rfl) | fail) | refine OJ.unboxP fun _ => ?_ | fail) | ((with_reducible apply iJ); first | refine J.seq ?_ | refine J.region ?_ | refine J.block ?_ | refine J.skip ?_ | refine J.exit ?_ | refine J.condT ?_ | refine J.condF ?_ | refine J.cond (fun _ => ?_) (fun _ => ?_) | refine J.retB ?_ | fail) | ((with_reducible apply iJK); first | refine JK.code ?_ | refine JK.blk ?_ | refine JK.loop ?_ | refine JK.begin ?_ | refine JK.more ?_ | fail) | ((with_reducible apply iEnt); first | exact Ent.nil | ((with_reducible apply iERow); refine Ent.row ?_ ?_) | ((with_reducible apply iEBox); first | refine Ent.box ?_ ?_ | refine Ent.box2 ?_ ?_) | ((with_reducible apply iEBlk); refine Ent.blk ?_ ?_) | ((with_reducible apply iEPure); refine Ent.pure ?_ ?_) | ((with_reducible apply iERdR); first | refine Ent.rdR ?_ | refine Ent.any ?_ | fail) | refine Ent.any ?_ | with_reducible exact Ent.refl | fail) | ((with_reducible apply iEq); with_reducible rfl) | fail)
  all_goals try (exfalso; simp_all; done)
  refine J.loopI (fun i : Nat => i ≤ l.length) (fun i => l.length - i) (fun i => [(5, .int .i64 i), (0, v), (1, u)]) (fun _ => []) 0 (Nat.zero_le _) ?_
  rintro i hi ih
  repeat' (first | ((with_reducible apply iOJ); first | ((with_reducible apply iOp); refine OJ.p ?_) | with_reducible apply OJ.nil | ((with_reducible apply iOg); first | refine OJ.guardY ?_ | refine OJ.guardN ?_ | refine OJ.guardNd ?_ | refine OJ.guardU ?_ | refine OJ.guardS (fun _ => ?_) (fun _ => ?_) | fail) | ((with_reducible apply iOstore); first | (refine OJ.as AS.store ?_; rintro _ _ rfl) | (refine OJ.as AS.storeA ?_; rintro _ _ rfl) | (refine OJ.as AS.storeAV ?_; rintro _ _ rfl) | (refine OJ.as AS.storeE ?_; rintro _ _ rfl) | (refine OJ.as AS.storeEA ?_; rintro _ _ rfl) | (refine OJ.as AS.storeP ?_; rintro _ _ rfl) | fail) | ((with_reducible apply iOcall); first | (refine OJ.as AS.append1 ?_; rintro _ _ rfl) | (refine OJ.as AS.append ?_; rintro _ _ rfl) | fail) | ((with_reducible apply iObox); first | (refine OJ.as AS.box1 ?_; rintro _ _ ⟨_, rfl, rfl⟩) | (refine OJ.as AS.boxA ?_; rintro _ _ ⟨_, rfl, rfl⟩) | fail) | ((with_reducible apply iOalloc); first | (refine OJ.as AS.alloc ?_; rintro _ _ ⟨_, rfl, rfl⟩) | fail) | ((with_reducible apply iObuildSlice); first | (refine OJ.as AS.buildSlice ?_; rintro _ _ ⟨_, rfl, rfl⟩) | fail) | ((with_reducible apply iOmakeSlice); first | (refine OJ.as AS.makeSlice ?_; rintro _ _ rfl) | fail) | ((with_reducible apply iOmakeMap); first | (refine OJ.as AS.makeMap ?_; rintro _ _ ⟨_, rfl, rfl⟩) | fail) | ((with_reducible apply iOmapEntry); first | (refine OJ.as AS.mapEntry ?_; rintro _ _ ⟨_, _, rfl, rfl⟩) | fail) | ((with_reducible apply iOentryStore); first | (refine OJ.as AS.entryStore ?_; rintro _ _ rfl) | fail) | ((with_reducible apply iOinsert); first | (refine OJ.as AS.insert ?_; rintro _ _ rfl) | fail) | ((with_reducible apply iOmapUpdate); first | (refine OJ.as AS.mapUpdate ?_; rintro _ _ rfl) | fail) | refine OJ.unboxP fun _ => ?_ | fail) | ((with_reducible apply iJ); first | refine J.seq ?_ | refine J.region ?_ | refine J.block ?_ | refine J.skip ?_ | refine J.exit ?_ | refine J.condT ?_ | refine J.condF ?_ | refine J.cond (fun _ => ?_) (fun _ => ?_) | refine J.draw ?_ | refine J.retB ?_ | fail) | ((with_reducible apply iJK); first | refine JK.code ?_ | refine JK.blk ?_ | refine JK.loop ?_ | refine JK.begin ?_ | refine JK.more ?_ | fail) | ((with_reducible apply iAJ); first | refine AJ.rebase ?_ | refine AJ.regain ?_ | refine AJ.take ?_ | refine AJ.takeY ?_ | refine AJ.takeN ?_ | refine AJ.takeNd ?_ | refine AJ.takeNS ?_ | refine AJ.takeU ?_ | refine AJ.sel ?_ | refine AJ.selY ?_ | refine AJ.sel2 ?_ ?_ | refine AJ.split (fun _ => ?_) (fun _ => ?_) | refine AJ.done ?_ | fail) | ((with_reducible apply iAO); first | ((with_reducible apply iAstore); first | (refine AO.as AS.store ?_; rotate_right; rintro _ _ rfl; refine AO.step ?_) | (refine AO.as AS.storeA ?_; rotate_right; rintro _ _ rfl; refine AO.step ?_) | (refine AO.as AS.storeAV ?_; rotate_right; rintro _ _ rfl; refine AO.step ?_) | (refine AO.as AS.storeE ?_; rotate_right; rintro _ _ rfl; refine AO.step ?_) | (refine AO.as AS.storeEA ?_; rotate_right; rintro _ _ rfl; refine AO.step ?_) | (refine AO.as AS.storeP ?_; rotate_right; rintro _ _ rfl; refine AO.step ?_) | fail) | ((with_reducible apply iAcall); first | (refine AO.as AS.append1 ?_; rotate_right; rintro _ _ rfl; refine AO.step ?_) | (refine AO.as AS.append ?_; rotate_right; rintro _ _ rfl; refine AO.step ?_) | fail) | ((with_reducible apply iAbox); first | (refine AO.as AS.box1 ?_; rotate_right; rintro _ _ ⟨_, rfl, rfl⟩; refine AO.step ?_) | (refine AO.as AS.boxA ?_; rotate_right; rintro _ _ ⟨_, rfl, rfl⟩; refine AO.step ?_) | fail) | ((with_reducible apply iAalloc); first | (refine AO.as AS.alloc ?_; rotate_right; rintro _ _ ⟨_, rfl, rfl⟩; refine AO.step ?_) | fail) | ((with_reducible apply iAbuildSlice); first | (refine AO.as AS.buildSlice ?_; rotate_right; rintro _ _ ⟨_, rfl, rfl⟩; refine AO.step ?_) | fail) | ((with_reducible apply iAmakeSlice); first | (refine AO.as AS.makeSlice ?_; rotate_right; rintro _ _ rfl; refine AO.step ?_) | fail) | ((with_reducible apply iAmakeMap); first | (refine AO.as AS.makeMap ?_; rotate_right; rintro _ _ ⟨_, rfl, rfl⟩; refine AO.step ?_) | fail) | ((with_reducible apply iAmapEntry); first | (refine AO.as AS.mapEntry ?_; rotate_right; rintro _ _ ⟨_, _, rfl, rfl⟩; refine AO.step ?_) | fail) | ((with_reducible apply iAentryStore); first | (refine AO.as AS.entryStore ?_; rotate_right; rintro _ _ rfl; refine AO.step ?_) | fail) | ((with_reducible apply iAinsert); first | (refine AO.as AS.insert ?_; rotate_right; rintro _ _ rfl; refine AO.step ?_) | fail) | ((with_reducible apply iAmapUpdate); first | (refine AO.as AS.mapUpdate ?_; rotate_right; rintro _ _ rfl; refine AO.step ?_) | fail) | fail) | ((with_reducible apply iJL); first | refine JL.use (ih (i + 1) (by omega) (by omega)) | fail) | ((with_reducible apply iEnt); first | exact Ent.nil | ((with_reducible apply iERow); refine Ent.row ?_ ?_) | ((with_reducible apply iEBox); first | refine Ent.box ?_ ?_ | refine Ent.box2 ?_ ?_) | ((with_reducible apply iEBlk); refine Ent.blk ?_ ?_) | ((with_reducible apply iEPure); refine Ent.pure ?_ ?_) | ((with_reducible apply iERdR); first | refine Ent.rdR ?_ | refine Ent.any ?_ | fail) | refine Ent.any ?_ | with_reducible exact Ent.refl | fail) | ((with_reducible apply iEq); with_reducible rfl) | fail)
  all_goals first | rfl | (exfalso; simp_all; done)
set_option maxRecDepth 100000 in
set_option maxHeartbeats 8000000 in
theorem wcPara_alike (p : Para) (v u : Value) : Spec Tryz.prog 7 [pv p v, pv p u] [rd eSpan v p.spans, rd eSpan u p.spans] [] (fun _ : Unit => .bool true) (fun _ => []) (fun _ => True) := by
  refine Spec.mk Tryz.func7 rfl Tryz.ntmps7 rfl ?_
  intro w0 O hR hS0
  have hr := hR _ List.mem_cons_self
  have hr2 := hR _ (List.mem_cons_of_mem _ List.mem_cons_self); clear hR hS0
  have hS := wcSpans_alike v u p.spans
  repeat' (first | ((with_reducible apply iOJ); first | ((with_reducible apply iOp); refine OJ.p ?_) | with_reducible apply OJ.nil | ((with_reducible apply iOg); first | refine OJ.guardY ?_ | refine OJ.guardN ?_ | refine OJ.guardNd ?_ | refine OJ.guardU ?_ | refine OJ.guardS (fun _ => ?_) (fun _ => ?_) | fail) | ((with_reducible apply iOstore); first | (refine OJ.as AS.store ?_; rintro _ _ rfl) | (refine OJ.as AS.storeA ?_; rintro _ _ rfl) | (refine OJ.as AS.storeAV ?_; rintro _ _ rfl) | (refine OJ.as AS.storeE ?_; rintro _ _ rfl) | (refine OJ.as AS.storeEA ?_; rintro _ _ rfl) | (refine OJ.as AS.storeP ?_; rintro _ _ rfl) | fail) | ((with_reducible apply iOcall); first | (refine OJ.as AS.append1 ?_; rintro _ _ rfl) | (refine OJ.as AS.append ?_; rintro _ _ rfl) | (refine OJ.as (AS.call0 (hS)) ?_; rotate_right; rintro _ _ ⟨y, hy, rfl, rfl⟩) | fail) | ((with_reducible apply iObox); first | (refine OJ.as AS.box1 ?_; rintro _ _ ⟨_, rfl, rfl⟩) | (refine OJ.as AS.boxA ?_; rintro _ _ ⟨_, rfl, rfl⟩) | fail) | ((with_reducible apply iOalloc); first | (refine OJ.as AS.alloc ?_; rintro _ _ ⟨_, rfl, rfl⟩) | fail) | ((with_reducible apply iObuildSlice); first | (refine OJ.as AS.buildSlice ?_; rintro _ _ ⟨_, rfl, rfl⟩) | fail) | ((with_reducible apply iOmakeSlice); first | (refine OJ.as AS.makeSlice ?_; rintro _ _ rfl) | fail) | ((with_reducible apply iOmakeMap); first | (refine OJ.as AS.makeMap ?_; rintro _ _ ⟨_, rfl, rfl⟩) | fail) | ((with_reducible apply iOmapEntry); first | (refine OJ.as AS.mapEntry ?_; rintro _ _ ⟨_, _, rfl, rfl⟩) | fail) | ((with_reducible apply iOentryStore); first | (refine OJ.as AS.entryStore ?_; rintro _ _ rfl) | fail) | ((with_reducible apply iOinsert); first | (refine OJ.as AS.insert ?_; rintro _ _ rfl) | fail) | ((with_reducible apply iOmapUpdate); first | (refine OJ.as AS.mapUpdate ?_; rintro _ _ rfl) | fail) | refine OJ.unboxP fun _ => ?_ | fail) | ((with_reducible apply iJ); first | refine J.seq ?_ | refine J.region ?_ | refine J.block ?_ | refine J.skip ?_ | refine J.exit ?_ | refine J.condT ?_ | refine J.condF ?_ | refine J.cond (fun _ => ?_) (fun _ => ?_) | refine J.retB ?_ | fail) | ((with_reducible apply iJK); first | refine JK.code ?_ | refine JK.blk ?_ | refine JK.loop ?_ | refine JK.begin ?_ | refine JK.more ?_ | fail) | ((with_reducible apply iEnt); first | exact Ent.nil | ((with_reducible apply iERow); refine Ent.row ?_ ?_) | ((with_reducible apply iEBox); first | refine Ent.box ?_ ?_ | refine Ent.box2 ?_ ?_) | ((with_reducible apply iEBlk); refine Ent.blk ?_ ?_) | ((with_reducible apply iEPure); refine Ent.pure ?_ ?_) | ((with_reducible apply iERdR); first | refine Ent.rdR ?_ | refine Ent.any ?_ | fail) | refine Ent.any ?_ | with_reducible exact Ent.refl | fail) | ((with_reducible apply iEq); with_reducible rfl) | fail)
  all_goals first | rfl | (exfalso; simp_all; done)
set_option maxRecDepth 100000 in
set_option maxHeartbeats 8000000 in
theorem as_nil (v : Value) : Spec Tryz.prog 55 [.nilIface, v] [] [] (fun _ : Unit => .bool false) (fun _ => []) (fun _ => True) := by
  refine Spec.mk Tryz.func55 rfl Tryz.ntmps55 rfl ?_
  intro w0 O hR hS0; clear hR hS0
  repeat' (first | ((with_reducible apply iOJ); first | ((with_reducible apply iOp); refine OJ.p ?_) | with_reducible apply OJ.nil | ((with_reducible apply iOg); first | refine OJ.guardY ?_ | refine OJ.guardN ?_ | refine OJ.guardNd ?_ | refine OJ.guardU ?_ | refine OJ.guardS (fun _ => ?_) (fun _ => ?_) | fail) | ((with_reducible apply iOstore); first | (refine OJ.as AS.store ?_; rintro _ _ rfl) | (refine OJ.as AS.storeA ?_; rintro _ _ rfl) | (refine OJ.as AS.storeAV ?_; rintro _ _ rfl) | (refine OJ.as AS.storeE ?_; rintro _ _ rfl) | (refine OJ.as AS.storeEA ?_; rintro _ _ rfl) | (refine OJ.as AS.storeP ?_; rintro _ _ rfl) | fail) | ((with_reducible apply iOcall); first | (refine OJ.as AS.append1 ?_; rintro _ _ rfl) | (refine OJ.as AS.append ?_; rintro _ _ rfl) | fail) | ((with_reducible apply iObox); first | (refine OJ.as AS.box1 ?_; rintro _ _ ⟨_, rfl, rfl⟩) | (refine OJ.as AS.boxA ?_; rintro _ _ ⟨_, rfl, rfl⟩) | fail) | ((with_reducible apply iOalloc); first | (refine OJ.as AS.alloc ?_; rintro _ _ ⟨_, rfl, rfl⟩) | fail) | ((with_reducible apply iObuildSlice); first | (refine OJ.as AS.buildSlice ?_; rintro _ _ ⟨_, rfl, rfl⟩) | fail) | ((with_reducible apply iOmakeSlice); first | (refine OJ.as AS.makeSlice ?_; rintro _ _ rfl) | fail) | ((with_reducible apply iOmakeMap); first | (refine OJ.as AS.makeMap ?_; rintro _ _ ⟨_, rfl, rfl⟩) | fail) | ((with_reducible apply iOmapEntry); first | (refine OJ.as AS.mapEntry ?_; rintro _ _ ⟨_, _, rfl, rfl⟩) | fail) | ((with_reducible apply iOentryStore); first | (refine OJ.as AS.entryStore ?_; rintro _ _ rfl) | fail) | ((with_reducible apply iOinsert); first | (refine OJ.as AS.insert ?_; rintro _ _ rfl) | fail) | ((with_reducible apply iOmapUpdate); first | (refine OJ.as AS.mapUpdate ?_; rintro _ _ rfl) | fail) | refine OJ.unboxP fun _ => ?_ | fail) | ((with_reducible apply iJ); first | refine J.seq ?_ | refine J.region ?_ | refine J.block ?_ | refine J.skip ?_ | refine J.exit ?_ | refine J.condT ?_ | refine J.condF ?_ | refine J.cond (fun _ => ?_) (fun _ => ?_) | refine J.retB ?_ | fail) | ((with_reducible apply iJK); first | refine JK.code ?_ | refine JK.blk ?_ | refine JK.loop ?_ | refine JK.begin ?_ | refine JK.more ?_ | fail) | ((with_reducible apply iEnt); first | exact Ent.nil | ((with_reducible apply iERow); refine Ent.row ?_ ?_) | ((with_reducible apply iEBox); first | refine Ent.box ?_ ?_ | refine Ent.box2 ?_ ?_) | ((with_reducible apply iEBlk); refine Ent.blk ?_ ?_) | ((with_reducible apply iEPure); refine Ent.pure ?_ ?_) | ((with_reducible apply iERdR); first | refine Ent.rdR ?_ | refine Ent.any ?_ | fail) | refine Ent.any ?_ | with_reducible exact Ent.refl | fail) | ((with_reducible apply iEq); with_reducible rfl) | fail)
  all_goals rfl
set_option maxRecDepth 100000 in
set_option maxHeartbeats 8000000 in
theorem codeOf_nil : Spec Tryz.prog 28 [.nilIface] [] [] (fun _ : Unit => .int .i64 0) (fun _ => []) (fun _ => True) := by
  refine Spec.mk Tryz.func28 rfl Tryz.ntmps28 rfl ?_
  intro w0 O hR hS0; clear hR hS0
  repeat' (first | ((with_reducible apply iOJ); first | ((with_reducible apply iOp); refine OJ.p ?_) | with_reducible apply OJ.nil | ((with_reducible apply iOg); first | refine OJ.guardY ?_ | refine OJ.guardN ?_ | refine OJ.guardNd ?_ | refine OJ.guardU ?_ | refine OJ.guardS (fun _ => ?_) (fun _ => ?_) | fail) | ((with_reducible apply iOstore); first | (refine OJ.as AS.store ?_; rintro _ _ rfl) | (refine OJ.as AS.storeA ?_; rintro _ _ rfl) | (refine OJ.as AS.storeAV ?_; rintro _ _ rfl) | (refine OJ.as AS.storeE ?_; rintro _ _ rfl) | (refine OJ.as AS.storeEA ?_; rintro _ _ rfl) | (refine OJ.as AS.storeP ?_; rintro _ _ rfl) | fail) | ((with_reducible apply iOcall); first | (refine OJ.as AS.append1 ?_; rintro _ _ rfl) | (refine OJ.as AS.append ?_; rintro _ _ rfl) | (refine OJ.as (AS.call0 (as_nil _)) ?_; rotate_right; rintro _ _ ⟨y, hy, rfl, rfl⟩) | fail) | ((with_reducible apply iObox); first | (refine OJ.as AS.box1 ?_; rintro _ _ ⟨_, rfl, rfl⟩) | (refine OJ.as AS.boxA ?_; rintro _ _ ⟨_, rfl, rfl⟩) | fail) | ((with_reducible apply iOalloc); first | (refine OJ.as AS.alloc ?_; rintro _ _ ⟨_, rfl, rfl⟩) | fail) | ((with_reducible apply iObuildSlice); first | (refine OJ.as AS.buildSlice ?_; rintro _ _ ⟨_, rfl, rfl⟩) | fail) | ((with_reducible apply iOmakeSlice); first | (refine OJ.as AS.makeSlice ?_; rintro _ _ rfl) | fail) | ((with_reducible apply iOmakeMap); first | (refine OJ.as AS.makeMap ?_; rintro _ _ ⟨_, rfl, rfl⟩) | fail) | ((with_reducible apply iOmapEntry); first | (refine OJ.as AS.mapEntry ?_; rintro _ _ ⟨_, _, rfl, rfl⟩) | fail) | ((with_reducible apply iOentryStore); first | (refine OJ.as AS.entryStore ?_; rintro _ _ rfl) | fail) | ((with_reducible apply iOinsert); first | (refine OJ.as AS.insert ?_; rintro _ _ rfl) | fail) | ((with_reducible apply iOmapUpdate); first | (refine OJ.as AS.mapUpdate ?_; rintro _ _ rfl) | fail) | refine OJ.unboxP fun _ => ?_ | fail) | ((with_reducible apply iJ); first | refine J.seq ?_ | refine J.region ?_ | refine J.block ?_ | refine J.skip ?_ | refine J.exit ?_ | refine J.condT ?_ | refine J.condF ?_ | refine J.cond (fun _ => ?_) (fun _ => ?_) | refine J.retI ?_ | fail) | ((with_reducible apply iJK); first | refine JK.code ?_ | refine JK.blk ?_ | refine JK.loop ?_ | refine JK.begin ?_ | refine JK.more ?_ | fail) | ((with_reducible apply iEnt); first | exact Ent.nil | ((with_reducible apply iERow); refine Ent.row ?_ ?_) | ((with_reducible apply iEBox); first | refine Ent.box ?_ ?_ | refine Ent.box2 ?_ ?_) | ((with_reducible apply iEBlk); refine Ent.blk ?_ ?_) | ((with_reducible apply iEPure); refine Ent.pure ?_ ?_) | ((with_reducible apply iERdR); first | refine Ent.rdR ?_ | refine Ent.any ?_ | fail) | refine Ent.any ?_ | with_reducible exact Ent.refl | fail) | ((with_reducible apply iEq); with_reducible rfl) | fail)
  all_goals first | rfl | (exfalso; simp_all; done)
set_option maxRecDepth 100000 in
set_option maxHeartbeats 8000000 in
theorem checkOk_c (p : Para) (v : Value) (ht : p.text.length ≤ 10000000) (hb : sCheck p = 0) (hsl : p.spans.length ≤ 1100000) : Spec Tryz.prog 11 [pv p v] [rd eSpan v p.spans, tabs] [] (fun _ : Unit => .int .i64 0) (fun _ => []) (fun _ => True) := by
  refine Spec.mk Tryz.func11 rfl Tryz.ntmps11 rfl ?_
  intro w0 O hR hS0
  have hr := hR _ List.mem_cons_self
  have hr2 := hR _ (List.mem_cons_of_mem _ List.mem_cons_self); clear hR hS0
  obtain ⟨xs, hx⟩ : ∃ xs, iGet p.text = some xs := by
    cases h : iGet p.text with
    | none => unfold sCheck at hb; rw [h] at hb; cases hb
    | some xs => exact ⟨xs, rfl⟩
  have hR := readOk_c p v xs ht hb hx hsl
  repeat' (first | ((with_reducible apply iOJ); first | ((with_reducible apply iOp); refine OJ.p ?_) | with_reducible apply OJ.nil | ((with_reducible apply iOg); first | refine OJ.guardY ?_ | refine OJ.guardN ?_ | refine OJ.guardNd ?_ | refine OJ.guardU ?_ | refine OJ.guardS (fun _ => ?_) (fun _ => ?_) | fail) | ((with_reducible apply iOstore); first | (refine OJ.as AS.store ?_; rintro _ _ rfl) | (refine OJ.as AS.storeA ?_; rintro _ _ rfl) | (refine OJ.as AS.storeAV ?_; rintro _ _ rfl) | (refine OJ.as AS.storeE ?_; rintro _ _ rfl) | (refine OJ.as AS.storeEA ?_; rintro _ _ rfl) | (refine OJ.as AS.storeP ?_; rintro _ _ rfl) | fail) | ((with_reducible apply iOcall); first | (refine OJ.as AS.append1 ?_; rintro _ _ rfl) | (refine OJ.as AS.append ?_; rintro _ _ rfl) | (refine OJ.as (AS.call3 (hR)) ?_; rotate_right; rintro _ _ ⟨y, hy, rfl, rfl⟩) | (refine OJ.as (AS.call0 (codeOf_nil)) ?_; rotate_right; rintro _ _ ⟨y, hy, rfl, rfl⟩) | fail) | ((with_reducible apply iObox); first | (refine OJ.as AS.box1 ?_; rintro _ _ ⟨_, rfl, rfl⟩) | (refine OJ.as AS.boxA ?_; rintro _ _ ⟨_, rfl, rfl⟩) | fail) | ((with_reducible apply iOalloc); first | (refine OJ.as AS.alloc ?_; rintro _ _ ⟨_, rfl, rfl⟩) | fail) | ((with_reducible apply iObuildSlice); first | (refine OJ.as AS.buildSlice ?_; rintro _ _ ⟨_, rfl, rfl⟩) | fail) | ((with_reducible apply iOmakeSlice); first | (refine OJ.as AS.makeSlice ?_; rintro _ _ rfl) | fail) | ((with_reducible apply iOmakeMap); first | (refine OJ.as AS.makeMap ?_; rintro _ _ ⟨_, rfl, rfl⟩) | fail) | ((with_reducible apply iOmapEntry); first | (refine OJ.as AS.mapEntry ?_; rintro _ _ ⟨_, _, rfl, rfl⟩) | fail) | ((with_reducible apply iOentryStore); first | (refine OJ.as AS.entryStore ?_; rintro _ _ rfl) | fail) | ((with_reducible apply iOinsert); first | (refine OJ.as AS.insert ?_; rintro _ _ rfl) | fail) | ((with_reducible apply iOmapUpdate); first | (refine OJ.as AS.mapUpdate ?_; rintro _ _ rfl) | fail) | refine OJ.unboxP fun _ => ?_ | fail) | ((with_reducible apply iJ); first | refine J.seq ?_ | refine J.region ?_ | refine J.block ?_ | refine J.skip ?_ | refine J.exit ?_ | refine J.condT ?_ | refine J.condF ?_ | refine J.cond (fun _ => ?_) (fun _ => ?_) | refine J.retI ?_ | fail) | ((with_reducible apply iJK); first | refine JK.code ?_ | refine JK.blk ?_ | refine JK.loop ?_ | refine JK.begin ?_ | refine JK.more ?_ | fail) | ((with_reducible apply iEnt); first | exact Ent.nil | ((with_reducible apply iERow); refine Ent.row ?_ ?_) | ((with_reducible apply iEBox); first | refine Ent.box ?_ ?_ | refine Ent.box2 ?_ ?_) | ((with_reducible apply iEBlk); refine Ent.blk ?_ ?_) | ((with_reducible apply iEPure); refine Ent.pure ?_ ?_) | ((with_reducible apply iERdR); first | refine Ent.rdR ?_ | refine Ent.any ?_ | fail) | refine Ent.any ?_ | with_reducible exact Ent.refl | fail) | ((with_reducible apply iEq); with_reducible rfl) | fail)
  all_goals first | rfl | (exfalso; simp_all; done)
end Go.SL

/- Letters as bytes and back: iGet (sPut xs) = xs, and sPut of what is got is the text. -/
set_option linter.unusedVariables false
set_option linter.unusedSimpArgs false
namespace Go.SL
open Go.RowKit Go.Proofs
theorem b0_app (bs : List Int) (m : List UInt8) (i : Nat) (hi : i < bs.length) (hb : ∀ b ∈ bs, 0 ≤ b ∧ b < 256) : (b0 (txt bs ++ m) i : Int) = bs.getD i 0 := by
  have hl : i < (txt bs).length := by rw [txt_len]; exact hi
  unfold b0
  rw [List.getD_eq_getElem?_getD, List.getElem?_append_left hl, List.getElem?_eq_getElem hl, Option.getD_some]
  rw [List.getD_eq_getElem?_getD, List.getElem?_eq_getElem hi, Option.getD_some]
  have := hb _ (List.getElem_mem hi)
  simp only [txt, List.getElem_map, UInt8.toNat_ofNat']
  omega
theorem nx_inv {m : List UInt8} {r n : Int} (h : nx m = (r, n)) (hn : n ≠ 0) : good m = true ∧ ((dec m).1 : Int) = r ∧ ((dec m).2 : Int) = n := by
  unfold nx at h
  cases hg : good m with
  | true =>
    rw [hg] at h
    rw [Prod.mk.injEq] at h
    exact ⟨rfl, h.1, h.2⟩
  | false =>
    rw [hg] at h
    rw [Prod.mk.injEq] at h
    exact absurd h.2.symm hn
theorem rsize_lt {r : Int} (h : isLet r = true) : rsize r = 1 ∨ rsize r = 2 ∨ rsize r = 3 ∨ rsize r = 4 := by
  rw [isLet_size] at h
  unfold rsize at *
  (repeat' split at h) <;> simp at h <;> simp [*]
theorem letB_byte {r : Int} (h : isLet r = true) : ∀ b ∈ letB r, 0 ≤ b ∧ b < 256 := by
  have hb := @rsize_bd r
  unfold letB
  rcases rsize_lt h with e | e | e | e <;> rw [e] <;> simp <;> omega
theorem letB_size {r : Int} (h : isLet r = true) : ((letB r).length : Int) = rsize r := by
  unfold letB
  rcases rsize_lt h with e | e | e | e <;> rw [e] <;> rfl
theorem nextM_put {r : Int} (h : isLet r = true) (m : List UInt8) : nextM (txt (letB r) ++ m) = (r, rsize r) := by
  have hb := @rsize_bd r
  have hby := letB_byte h
  have hsz := letB_size h
  have hl : ((txt (letB r) ++ m).length : Int) = rsize r + m.length := by rw [List.length_append, txt_len]; omega
  have hB := fun i hi => b0_app (letB r) m i hi hby
  obtain ⟨M, hM⟩ : ∃ M, txt (letB r) ++ m = M := ⟨_, rfl⟩
  rw [hM] at hl hB ⊢
  clear hM
  rcases rsize_lt h with e | e | e | e
  · have e0 := hB 0 (by omega)
    unfold letB at e0
    rw [e] at e0 hl ⊢
    simp at e0
    have hp : lead (b0 M 0) = (1, r) := by rw [e0]; unfold lead; rw [if_pos (by omega)]
    rw [nextM_yes hp (by simp) (by simp only; omega)]
    exact fin_ok e
  · have e0 := hB 0 (by omega)
    have e1 := hB 1 (by omega)
    unfold letB at e0 e1
    rw [e] at e0 e1 hl ⊢
    simp at e0 e1
    have hp : lead (b0 M 0) = (2, r / 64) := by rw [e0]; unfold lead; rw [if_neg (by omega), if_pos (by omega)]; congr 1; omega
    rw [nextM_yes hp (by simp) (by simp only; omega)]
    have d1 : (b0 (M.drop 1) 0 : Int) = 128 + r % 64 := by rw [b0_drop]; exact e1
    show fin 2 (conts 1 (M.drop 1) (r / 64)) = _
    rw [conts_yes (by rw [d1]; exact inR_yes (by omega)), d1]
    show fin 2 (some _) = _
    have er : r / 64 * 64 + (128 + r % 64) - 128 = r := by omega
    rw [er]
    exact fin_ok e
  · have e0 := hB 0 (by omega)
    have e1 := hB 1 (by omega)
    have e2 := hB 2 (by omega)
    unfold letB at e0 e1 e2
    rw [e] at e0 e1 e2 hl ⊢
    simp at e0 e1 e2
    have hp : lead (b0 M 0) = (3, r / 4096) := by rw [e0]; unfold lead; rw [if_neg (by omega), if_neg (by omega), if_pos (by omega)]; congr 1; omega
    rw [nextM_yes hp (by simp) (by simp only; omega)]
    have d1 : (b0 (M.drop 1) 0 : Int) = 128 + r / 64 % 64 := by rw [b0_drop]; exact e1
    have d2 : (b0 ((M.drop 1).drop 1) 0 : Int) = 128 + r % 64 := by rw [b0_drop, b0_drop]; exact e2
    show fin 3 (conts 2 (M.drop 1) (r / 4096)) = _
    rw [conts_yes (by rw [d1]; exact inR_yes (by omega)), d1, conts_yes (by rw [d2]; exact inR_yes (by omega)), d2]
    show fin 3 (some _) = _
    have er : (r / 4096 * 64 + (128 + r / 64 % 64) - 128) * 64 + (128 + r % 64) - 128 = r := by omega
    rw [er]
    exact fin_ok e
  · have e0 := hB 0 (by omega)
    have e1 := hB 1 (by omega)
    have e2 := hB 2 (by omega)
    have e3 := hB 3 (by omega)
    unfold letB at e0 e1 e2 e3
    rw [e] at e0 e1 e2 e3 hl ⊢
    simp at e0 e1 e2 e3
    have hp : lead (b0 M 0) = (4, r / 262144) := by rw [e0]; unfold lead; rw [if_neg (by omega), if_neg (by omega), if_neg (by omega), if_pos (by omega)]; congr 1; omega
    rw [nextM_yes hp (by simp) (by simp only; omega)]
    have d1 : (b0 (M.drop 1) 0 : Int) = 128 + r / 4096 % 64 := by rw [b0_drop]; exact e1
    have d2 : (b0 ((M.drop 1).drop 1) 0 : Int) = 128 + r / 64 % 64 := by rw [b0_drop, b0_drop]; exact e2
    have d3 : (b0 (((M.drop 1).drop 1).drop 1) 0 : Int) = 128 + r % 64 := by rw [b0_drop, b0_drop, b0_drop]; exact e3
    show fin 4 (conts 3 (M.drop 1) (r / 262144)) = _
    rw [conts_yes (by rw [d1]; exact inR_yes (by omega)), d1, conts_yes (by rw [d2]; exact inR_yes (by omega)), d2, conts_yes (by rw [d3]; exact inR_yes (by omega)), d3]
    show fin 4 (some _) = _
    have er : ((r / 262144 * 64 + (128 + r / 4096 % 64) - 128) * 64 + (128 + r / 64 % 64) - 128) * 64 + (128 + r % 64) - 128 = r := by omega
    rw [er]
    exact fin_ok e
theorem lets_put {r : Int} (h : isLet r = true) (m : List UInt8) : lets (txt (letB r) ++ m) = (r.toNat, true) :: lets m := by
  have hsz := letB_size h
  have hs := rsize_lt h
  have hl : 0 < (txt (letB r) ++ m).length := by rw [List.length_append, txt_len]; omega
  have hn := nextM_put h m
  rw [nextM_eq hl] at hn
  obtain ⟨h1, h2, h3⟩ := nx_inv hn (by omega)
  rw [lets_ok hl h1]
  have e : (dec (txt (letB r) ++ m)).2 = (txt (letB r)).length := by rw [txt_len]; omega
  rw [e, List.drop_left]
  congr 2
  omega
theorem isLet_nn {r : Int} (h : isLet r = true) : 0 ≤ r := by
  simp only [isLet, Bool.and_eq_true, decide_eq_true_eq] at h
  exact h.1
theorem getI_put : ∀ (xs acc : List Int), xs.all isLet = true → acc.length + xs.length ≤ 80 → getI acc (lets (txt (putI xs))) = some (acc ++ xs)
  | [], acc, _, _ => by simp [putI, txt, lets_nil, getI]
  | x :: xs, acc, h, hl => by
    simp only [List.all_cons, Bool.and_eq_true] at h
    have e : txt (putI (x :: xs)) = txt (letB x) ++ txt (putI xs) := by rw [← txt_app]; rfl
    rw [List.length_cons] at hl
    rw [e, lets_put h.1]
    simp only [getI]
    rw [decide_eq_false (by omega)]
    have e2 : ((x.toNat : Nat) : Int) = x := Int.toNat_of_nonneg (isLet_nn h.1)
    rw [e2]
    show getI (acc ++ [x]) _ = _
    rw [getI_put xs (acc ++ [x]) h.2 (by rw [List.length_append]; simp; omega), List.append_assoc]
    rfl
theorem iGet_put {xs : List Int} (h : lettersOk xs = true) : iGet (sPut xs) = some xs := by
  rw [← iPut_eq]
  unfold iPut
  rw [h]
  simp only [lettersOk, Bool.and_eq_true, decide_eq_true_eq] at h
  exact getI_put xs [] h.2 (by simpa using h.1)
/-! ### back -/
theorem take_b0 : ∀ (n : Nat) (m : List UInt8), n ≤ m.length → m.take n = (List.range n).map fun i => UInt8.ofNat (b0 m i)
  | n, m, h => by
    apply List.ext_getElem
    · simp; omega
    · intro i h1 h2
      simp at h1 h2
      simp only [List.getElem_take, List.getElem_map, List.getElem_range]
      unfold b0
      rw [List.getD_eq_getElem?_getD, List.getElem?_eq_getElem (by omega), Option.getD_some]
      exact (UInt8.ofNat_toNat).symm
theorem txt_b0 {bs : List Int} {m : List UInt8} (hl : bs.length ≤ m.length) (h : ∀ i, i < bs.length → (b0 m i : Int) = bs.getD i 0) : m.take bs.length = txt bs := by
  rw [take_b0 _ _ hl]
  apply List.ext_getElem
  · simp [txt]
  · intro i h1 h2
    simp at h1
    have := h i h1
    rw [List.getD_eq_getElem?_getD, List.getElem?_eq_getElem h1, Option.getD_some] at this
    simp only [List.getElem_map, List.getElem_range, txt]
    congr 1
    omega
theorem inR_of {n lo hi : Int} (h : inR n lo hi = true) : lo ≤ n ∧ n ≤ hi := by simpa [inR] using h
theorem conts_inv {k : Nat} {a : List UInt8} {r s : Int} (h : conts (k + 1) a r = some s) : (128 ≤ (b0 a 0 : Int) ∧ (b0 a 0 : Int) ≤ 191) ∧ conts k (a.drop 1) (r * 64 + b0 a 0 - 128) = some s := by
  cases hi : inR (b0 a 0) 128 191 with
  | true => rw [conts_yes hi] at h; exact ⟨inR_of hi, h⟩
  | false => rw [conts_no hi] at h; cases h
theorem fin_inv {n : Int} {o : Option Int} {r k : Int} (h : fin n o = (r, k)) (hk : k ≠ 0) : o = some r ∧ k = n ∧ rsize r = n := by
  cases o with
  | none =>
    simp only [fin, Prod.mk.injEq] at h
    exact absurd h.2.symm hk
  | some s =>
    by_cases e : rsize s = n
    · rw [fin_ok e, Prod.mk.injEq] at h
      obtain ⟨rfl, rfl⟩ := h
      exact ⟨rfl, rfl, e⟩
    · rw [fin_bad e, Prod.mk.injEq] at h
      exact absurd h.2.symm hk
theorem conts_zero (a : List UInt8) (r : Int) : conts 0 a r = some r := rfl
theorem nextM_inv {m : List UInt8} {r n : Int} (h : nextM m = (r, n)) (hn : n ≠ 0) : isLet r = true ∧ rsize r = n ∧ m.take n.toNat = txt (letB r) := by
  have hb := b0_lt m 0
  have hrb := @rsize_bd r
  have fin' : ∀ {p : Int × Int}, lead (b0 m 0) = p → p.1 ≠ 0 → ¬ (m.length : Int) < p.1 ∧ conts (p.1.toNat - 1) (m.drop 1) p.2 = some r ∧ n = p.1 ∧ rsize r = p.1 := by
    intro p hp h1
    by_cases h2 : (m.length : Int) < p.1
    · rw [nextM_no hp (.inr h2), Prod.mk.injEq] at h
      exact absurd h.2.symm hn
    · rw [nextM_yes hp h1 h2] at h
      obtain ⟨a, b, c⟩ := fin_inv h hn
      exact ⟨h2, a, b, c⟩
  have hlet : rsize r = n → isLet r = true := fun e => by
    rw [isLet_size, e, decide_eq_false hn]
    rfl
  obtain ⟨p, hp⟩ : ∃ p, lead (b0 m 0) = p := ⟨_, rfl⟩
  by_cases p0 : p.1 = 0
  · rw [nextM_no hp (.inl p0), Prod.mk.injEq] at h
    exact absurd h.2.symm hn
  obtain ⟨hl, hc, rfl, hr⟩ := fin' hp p0
  refine ⟨hlet hr, hr, ?_⟩
  have hlen : p.1.toNat = (letB r).length := by have := letB_size (hlet hr); omega
  rw [hlen]
  refine txt_b0 (by omega) fun i hi => ?_
  rw [← hlen] at hi
  unfold lead at hp
  have case : (p = (1, (b0 m 0 : Int)) ∧ (b0 m 0 : Int) < 128) ∨ (p = (2, (b0 m 0 : Int) - 192) ∧ 192 ≤ (b0 m 0 : Int) ∧ (b0 m 0 : Int) ≤ 223) ∨ (p = (3, (b0 m 0 : Int) - 224) ∧ 224 ≤ (b0 m 0 : Int) ∧ (b0 m 0 : Int) ≤ 239) ∨ (p = (4, (b0 m 0 : Int) - 240) ∧ 240 ≤ (b0 m 0 : Int) ∧ (b0 m 0 : Int) ≤ 247) := by
    (repeat' split at hp)
    · exact .inl ⟨hp.symm, by assumption⟩
    · exact .inr (.inl ⟨hp.symm, by assumption⟩)
    · exact .inr (.inr (.inl ⟨hp.symm, by assumption⟩))
    · exact .inr (.inr (.inr ⟨hp.symm, by assumption⟩))
    · subst hp; exact absurd rfl p0
  clear hp
  rcases case with ⟨rfl, hq⟩ | ⟨rfl, hq⟩ | ⟨rfl, hq⟩ | ⟨rfl, hq⟩
  · have : i = 0 := by simp at hi; omega
    subst this
    have hc := Option.some.inj ((conts_zero _ _).symm.trans hc)
    unfold letB
    rw [hr]
    simpa using hc
  · obtain ⟨h1, hc⟩ := conts_inv (k := 0) hc
    have hc := Option.some.inj ((conts_zero _ _).symm.trans hc)
    rw [b0_drop] at h1 hc
    unfold letB
    rw [hr]
    simp only [show ¬ ((2 : Int) = 1) by decide, if_false, if_true]
    match i, hi with
    | 0, _ => show (b0 m 0 : Int) = 192 + r / 64; simp at *; omega
    | 1, _ => show (b0 m 1 : Int) = 128 + r % 64; simp at *; omega
  · obtain ⟨h1, hc⟩ := conts_inv (k := 1) hc
    obtain ⟨h2, hc⟩ := conts_inv (k := 0) hc
    have hc := Option.some.inj ((conts_zero _ _).symm.trans hc)
    rw [b0_drop] at h1
    rw [b0_drop, b0_drop] at h2
    rw [b0_drop, b0_drop, b0_drop] at hc
    unfold letB
    rw [hr]
    simp only [show ¬ ((3 : Int) = 1) by decide, show ¬ ((3 : Int) = 2) by decide, if_false, if_true]
    match i, hi with
    | 0, _ => show (b0 m 0 : Int) = 224 + r / 4096; simp at *; omega
    | 1, _ => show (b0 m 1 : Int) = 128 + r / 64 % 64; simp at *; omega
    | 2, _ => show (b0 m 2 : Int) = 128 + r % 64; simp at *; omega
  · obtain ⟨h1, hc⟩ := conts_inv (k := 2) hc
    obtain ⟨h2, hc⟩ := conts_inv (k := 1) hc
    obtain ⟨h3, hc⟩ := conts_inv (k := 0) hc
    have hc := Option.some.inj ((conts_zero _ _).symm.trans hc)
    rw [b0_drop] at h1
    rw [b0_drop, b0_drop] at h2
    rw [b0_drop, b0_drop, b0_drop] at h3
    rw [b0_drop, b0_drop, b0_drop, b0_drop, b0_drop, b0_drop] at hc
    unfold letB
    rw [hr]
    simp only [show ¬ ((4 : Int) = 1) by decide, show ¬ ((4 : Int) = 2) by decide, show ¬ ((4 : Int) = 3) by decide, if_false, if_true]
    match i, hi with
    | 0, _ => show (b0 m 0 : Int) = 240 + r / 262144; simp at *; omega
    | 1, _ => show (b0 m 1 : Int) = 128 + r / 4096 % 64; simp at *; omega
    | 2, _ => show (b0 m 2 : Int) = 128 + r / 64 % 64; simp at *; omega
    | 3, _ => show (b0 m 3 : Int) = 128 + r % 64; simp at *; omega
theorem getI_back : ∀ (n : Nat) (l : List UInt8) (acc xs : List Int), l.length ≤ n → getI acc (lets l) = some xs → ∃ ys, xs = acc ++ ys ∧ ys.all isLet = true ∧ l = txt (putI ys)
  | n, [], acc, xs, _, h => by
    rw [lets_nil] at h
    injection h with h
    exact ⟨[], by rw [List.append_nil, h], rfl, rfl⟩
  | 0, _ :: _, _, _, h, _ => by simp at h
  | n + 1, a :: l, acc, xs, hn, h => by
    have hl : 0 < (a :: l).length := by simp
    obtain ⟨m, hm⟩ : ∃ m, a :: l = m := ⟨_, rfl⟩
    rw [hm] at hl h hn ⊢
    cases hg : good m with
    | false =>
      rw [lets_bad hl hg] at h
      simp [getI] at h
    | true =>
      rw [lets_ok hl hg] at h
      have hd := (dec_bd hl).1
      have hnx : nextM m = (((dec m).1 : Int), ((dec m).2 : Int)) := by rw [nextM_eq hl]; unfold nx; rw [hg]
      obtain ⟨h1, h2, h3⟩ := nextM_inv hnx (by omega)
      simp only [getI] at h
      split at h
      · cases h
      · obtain ⟨ys, e1, e2, e3⟩ := getI_back n _ _ _ (by rw [List.length_drop]; omega) h
        refine ⟨((dec m).1 : Int) :: ys, by rw [e1, List.append_assoc]; rfl, by rw [List.all_cons, h1, e2]; rfl, ?_⟩
        have : txt (putI (((dec m).1 : Int) :: ys)) = txt (letB (dec m).1) ++ txt (putI ys) := by rw [← txt_app]; rfl
        rw [this, ← e3, ← h3]
        rw [Int.toNat_natCast, List.take_append_drop]
theorem iGet_ok {l : List UInt8} {xs : List Int} (h : iGet l = some xs) : lettersOk xs = true ∧ sPut xs = l := by
  have hl := iGet_len h
  obtain ⟨ys, e1, e2, e3⟩ := getI_back l.length l [] xs (Nat.le_refl _) h
  rw [List.nil_append] at e1
  subst e1
  have hk : lettersOk xs = true := by
    unfold lettersOk
    rw [e2, decide_eq_true hl]
    rfl
  refine ⟨hk, ?_⟩
  rw [← iPut_eq]
  unfold iPut
  rw [hk]
  exact e3.symm
end Go.SL

/- The plain law of FnSpansMove: spans of looks say just these looks, they are no more than the spans that the looks came of, and a move back gives what was. -/
set_option linter.unusedVariables false
set_option linter.unusedSimpArgs false
namespace Go.SL
open Go.RowKit Go.Proofs
def npl (x : Look) : Bool := !(decide (x.size = 10) && decide (x.mark = 0))
def b01 (b : Bool) : Nat := match b with
  | true => 1
  | false => 0
/-- How many runs that are not plain begin, p being ahead. -/
def starts (p : Look) : List Look → Nat
  | [] => 0
  | x :: l => b01 (npl x && !eqLk p x) + starts x l
def cnp : List (Look × Nat) → Nat
  | [] => 0
  | p :: g => b01 (npl p.1) + cnp g
theorem eqLk_no {x y : Look} (h : ¬ x = y) : eqLk x y = false := by
  cases hh : eqLk x y with
  | false => rfl
  | true => exact absurd (eqLk_eq hh) h
theorem npl_plain {x : Look} (h : npl x = true) : eqLk ⟨10, 0⟩ x = false := by
  refine eqLk_no fun e => ?_
  subst e
  cases h
theorem groups_cnp : ∀ l : List Look, cnp (groups l) = starts ⟨10, 0⟩ l
  | [] => rfl
  | [x] => by
    simp only [groups, push, cnp, starts]
    cases h : npl x with
    | false => rfl
    | true => rw [npl_plain h]; rfl
  | x :: y :: l => by
    have ih := groups_cnp (y :: l)
    obtain ⟨n, r, hg⟩ := push_head y (groups l)
    rw [show groups (x :: y :: l) = push x (push y (groups l)) from rfl, hg]
    rw [show groups (y :: l) = push y (groups l) from rfl, hg] at ih
    simp only [starts] at ih ⊢
    have hx : b01 (npl x && !eqLk ⟨10, 0⟩ x) = b01 (npl x) := by
      cases h : npl x with
      | false => rfl
      | true => rw [npl_plain h]; rfl
    have hy : b01 (npl y && !eqLk ⟨10, 0⟩ y) = b01 (npl y) := by
      cases h : npl y with
      | false => rfl
      | true => rw [npl_plain h]; rfl
    rw [hx]
    rw [hy] at ih
    simp only [push]
    cases h : eqLk y x with
    | true =>
      have := eqLk_eq h
      subst this
      simp only [cnp] at ih ⊢
      rw [eqLk_refl]
      simp only [Bool.not_true, Bool.and_false, b01] at ih ⊢
      omega
    | false =>
      simp only [cnp] at ih ⊢
      rw [eqLk_comm x y, h]
      simp only [Bool.not_false, Bool.and_true] at ih ⊢
      omega
theorem npl_spans (x : Look) : (decide (x.size = 10) && decide (x.mark = 0)) = !npl x := by simp [npl]
theorem spansOf_cnp : ∀ (g : List (Look × Nat)) (i : Nat), (spansOf i g).length = cnp g
  | [], _ => rfl
  | (x, n) :: r, i => by
    simp only [spansOf, cnp, List.length_append, spansOf_cnp r, npl_spans]
    cases npl x <;> rfl
theorem sSpans_starts (l : List Look) : (sSpans l).length = starts ⟨10, 0⟩ l := by rw [sSpans, spansOf_cnp, groups_cnp]
def unr (g : List (Look × Nat)) : List Look := g.flatMap fun p => List.replicate p.2 p.1
theorem unr_cons (p : Look × Nat) (g : List (Look × Nat)) : unr (p :: g) = List.replicate p.2 p.1 ++ unr g := by simp [unr]
theorem unr_push (x : Look) (g : List (Look × Nat)) : unr (push x g) = x :: unr g := by
  rcases g with _ | ⟨⟨y, n⟩, r⟩
  · rfl
  · simp only [push]
    cases h : eqLk y x with
    | true =>
      have := eqLk_eq h
      subst this
      simp [unr_cons, List.replicate_succ]
    | false => simp [unr_cons]
theorem unr_groups : ∀ l : List Look, unr (groups l) = l
  | [] => rfl
  | x :: l => by rw [groups, unr_push, unr_groups l]
theorem push_pos (x : Look) {g : List (Look × Nat)} (h : ∀ p ∈ g, 0 < p.2) : ∀ p ∈ push x g, 0 < p.2 := by
  rcases g with _ | ⟨⟨y, n⟩, r⟩
  · simp [push]
  · simp only [push]
    intro p hp
    split at hp
    · rcases List.mem_cons.1 hp with rfl | hp
      · simp
      · exact h p (List.mem_cons_of_mem _ hp)
    · rcases List.mem_cons.1 hp with rfl | hp
      · simp
      · exact h p hp
theorem groups_pos : ∀ l : List Look, ∀ p ∈ groups l, 0 < p.2
  | [] => by simp [groups]
  | x :: l => push_pos x (groups_pos l)
theorem groups_mem {l : List Look} {p : Look × Nat} (h : p ∈ groups l) : p.1 ∈ l := by
  have h0 := groups_pos l p h
  have : p.1 ∈ unr (groups l) := by
    simp only [unr, List.mem_flatMap]
    exact ⟨p, h, by simp; omega⟩
  rwa [unr_groups] at this
theorem spansOf_ok : ∀ (g : List (Look × Nat)) (i : Nat), (∀ p ∈ g, 0 < p.2) → chain i (spansOf i g) ∧ (∀ s ∈ spansOf i g, s.to ≤ ((i + (unr g).length : Nat) : Int) ∧ ∃ p ∈ g, p.1 = lookS s ∧ npl p.1 = true)
  | [], _, _ => ⟨trivial, fun _ h => by cases h⟩
  | (x, n) :: r, i, h => by
    have hn := h (x, n) List.mem_cons_self
    obtain ⟨p1, p2⟩ := spansOf_ok r (i + n) fun p hp => h p (List.mem_cons_of_mem _ hp)
    simp only [spansOf, npl_spans, unr_cons, List.length_append, List.length_replicate]
    have p2' : ∀ s ∈ spansOf (i + n) r, s.to ≤ ((i + (n + (unr r).length) : Nat) : Int) ∧ ∃ p ∈ (x, n) :: r, p.1 = lookS s ∧ npl p.1 = true := fun s hs => by
      obtain ⟨a, p, b, c⟩ := p2 s hs
      exact ⟨by omega, p, List.mem_cons_of_mem _ b, c⟩
    cases hx : npl x with
    | false => exact ⟨chain_low (by simpa using p1) (by omega), by simpa using p2'⟩
    | true =>
      refine ⟨⟨Int.le_refl _, by show (i : Int) < ((i + n : Nat) : Int); omega, p1⟩, fun s hs => ?_⟩
      rcases List.mem_cons.1 hs with rfl | hs
      · exact ⟨by show ((i + n : Nat) : Int) ≤ _; omega, (x, n), List.mem_cons_self, rfl, hx⟩
      · exact p2' s hs
theorem lookOf_spansOf : ∀ (g : List (Look × Nat)) (i j : Nat), (∀ p ∈ g, 0 < p.2) → i + (unr g).length ≤ 100000 → i ≤ j → lookOf (spansOf i g) j = (unr g).getD (j - i) ⟨10, 0⟩
  | [], _, _, _, _, _ => by simp [spansOf, unr, lookOf, sAtL]
  | (x, n) :: r, i, j, h, hb, hj => by
    have hn := h (x, n) List.mem_cons_self
    have hr := fun p hp => h p (List.mem_cons_of_mem (x, n) hp)
    simp only [unr_cons, List.length_append, List.length_replicate] at hb
    obtain ⟨p1, p2⟩ := spansOf_ok r (i + n) hr
    have ih := lookOf_spansOf r (i + n) j hr (by omega)
    have hto : ∀ s ∈ spansOf (i + n) r, s.to ≤ 1000000 := fun s hs => by have := (p2 s hs).1; omega
    have hin : ∀ k, k < n → (unr ((x, n) :: r)).getD k ⟨10, 0⟩ = x := fun k hk => by
      rw [unr_cons, List.getD_eq_getElem?_getD, List.getElem?_append_left (by simpa using hk)]
      simp [hk]
    have hout : ∀ k, n ≤ k → (unr ((x, n) :: r)).getD k ⟨10, 0⟩ = (unr r).getD (k - n) ⟨10, 0⟩ := fun k hk => by
      rw [unr_cons, List.getD_eq_getElem?_getD, List.getElem?_append_right (by simpa using hk), List.getD_eq_getElem?_getD]
      simp
    simp only [spansOf, npl_spans]
    cases hx : npl x with
    | false =>
      simp only [Bool.not_false, List.nil_append]
      have hxe : x = ⟨10, 0⟩ := by
        cases x
        simp [npl] at hx
        simp [hx]
      by_cases hjn : j < i + n
      · rw [hin (j - i) (by omega), hxe, lookOf_low (b := ((i + n : Nat) : Int)) p1 hto (by omega) (by omega)]
      · rw [ih (by omega), hout (j - i) (by omega)]
        congr 1
        omega
    | true =>
      simp only [Bool.not_true, List.singleton_append]
      by_cases hjn : j < i + n
      · rw [hin (j - i) (by omega), lookOf_in (by show ((i + n : Nat) : Int) ≤ _; omega) (by show (0 : Int) ≤ (i : Int); omega) (by show (i : Int) ≤ _; omega) (by show (j : Int) < ((i + n : Nat) : Int); omega)]
        rfl
      · rw [lookOf_out (by show ((i + n : Nat) : Int) ≤ _; omega) (by show (0 : Int) ≤ (i : Int); omega) (by show (i : Int) < ((i + n : Nat) : Int); omega) (by show ((i + n : Nat) : Int) ≤ (j : Int); omega), ih (by omega), hout (j - i) (by omega)]
        congr 1
        omega
theorem sLooks_sSpans {M : List Look} (h : M.length ≤ 100000) : sLooks (sSpans M) M.length = M := by
  refine List.ext_getElem (by simp [sLooks]) fun j h1 h2 => ?_
  simp only [sLooks, List.getElem_map, List.getElem_range, sSpans]
  rw [lookOf_spansOf _ 0 j (groups_pos M) (by rw [unr_groups]; omega) (Nat.zero_le _), unr_groups, Nat.sub_zero, List.getD_eq_getElem?_getD, List.getElem?_eq_getElem h2]
  rfl
/-! ### how many -/
theorem starts_cons (p x : Look) (l : List Look) : starts p l ≤ starts p (x :: l) := by
  simp only [starts]
  cases l with
  | nil => simp [starts]
  | cons y l =>
    simp only [starts]
    cases hy : npl y with
    | false => simp [b01]
    | true =>
      by_cases h1 : p = y
      · subst h1
        rw [eqLk_refl]
        simp only [Bool.not_true, Bool.and_false, b01]
        omega
      · by_cases h2 : x = y
        · subst h2
          rw [eqLk_refl, eqLk_no h1, hy]
          simp [b01]
        · rw [eqLk_no h1, eqLk_no h2]
          simp [b01]
theorem starts_drop (p : Look) : ∀ (k : Nat) (l : List Look), starts p (l.drop k) ≤ starts p l
  | 0, _ => by simp
  | _ + 1, [] => by simp
  | k + 1, x :: l => by
    rw [List.drop_succ_cons]
    exact Nat.le_trans (starts_drop p k l) (starts_cons p x l)
def lastD (p : Look) : List Look → Look
  | [] => p
  | x :: l => lastD x l
theorem starts_append : ∀ (l1 l2 : List Look) (p : Look), starts p (l1 ++ l2) = starts p l1 + starts (lastD p l1) l2
  | [], _, _ => by simp [starts, lastD]
  | x :: l1, l2, p => by
    simp only [List.cons_append, starts, lastD, starts_append l1 l2 x]
    omega
theorem starts_rep (p : Look) (l : List Look) : ∀ n, starts p (List.replicate n p ++ l) = starts p l
  | 0 => rfl
  | n + 1 => by
    simp only [List.replicate_succ, List.cons_append, starts, eqLk_refl, starts_rep p l n]
    simp [b01]
theorem lastD_take : ∀ (l : List Look) (a : Nat) (p d : Look), a < l.length → lastD p (l.take (a + 1)) = l.getD a d
  | [], _, _, _, h => by simp at h
  | x :: l, 0, _, _, _ => by simp [lastD]
  | x :: l, a + 1, p, d, h => by
    rw [List.take_succ_cons, lastD, lastD_take l a x d (by simpa using h), List.getD_cons_succ]
theorem moveLook_eq {l : List Look} {a : Nat} (h : a ≤ l.length) : sMoveLook l a = lastD ⟨10, 0⟩ (l.take a) := by
  unfold sMoveLook
  cases a with
  | zero => simp [lastD]
  | succ a =>
    rw [decide_eq_true (by omega)]
    simp only
    rw [lastD_take l a _ eLook.d (by omega)]
    rfl
theorem starts_move {l : List Look} {a : Nat} {n : Int} (ha : a ≤ l.length) : starts ⟨10, 0⟩ (sMove l a n) ≤ starts ⟨10, 0⟩ l := by
  have e : starts ⟨10, 0⟩ l = starts ⟨10, 0⟩ (l.take a) + starts (lastD ⟨10, 0⟩ (l.take a)) (l.drop a) := by
    rw [← starts_append, List.take_append_drop]
  unfold sMove
  by_cases h : n < 0
  · rw [decide_eq_true h]
    simp only
    rw [starts_append, e, show ((a : Int) - n).toNat = a + (-n).toNat by omega, ← List.drop_drop]
    have := starts_drop (lastD ⟨10, 0⟩ (l.take a)) (-n).toNat (l.drop a)
    omega
  · rw [decide_eq_false h]
    simp only
    rw [List.append_assoc, starts_append, moveLook_eq ha, starts_rep, e]
    exact Nat.le_refl _
theorem starts_any (p q x : Look) (l : List Look) : starts p (x :: l) ≤ 1 + starts x l := by
  simp only [starts]
  cases (npl x && !eqLk p x) <;> simp [b01]
theorem starts_rep2 (x : Look) (l : List Look) : ∀ (n : Nat) (p : Look), starts p (List.replicate n x ++ l) ≤ b01 (npl x) + max (starts p l) (starts x l)
  | 0, p => by simp; omega
  | n + 1, p => by
    rw [List.replicate_succ, List.cons_append]
    simp only [starts]
    rw [starts_rep]
    cases npl x with
    | false => simp [b01]; omega
    | true =>
      cases eqLk p x <;> simp [b01] <;> omega
def cs : List Look → Nat
  | [] => 0
  | x :: l => b01 (npl x) + cs l
theorem starts_ex : ∀ (g : List Stretch) (p : Look), starts p (ex g) ≤ cs (g.map (·.look))
  | [], _ => by simp [ex, starts, cs]
  | s :: g, p => by
    have h1 := starts_rep2 s.look (ex g) s.many.toNat p
    have h2 := starts_ex g p
    have h3 := starts_ex g s.look
    have : ex (s :: g) = List.replicate s.many.toNat s.look ++ ex g := by simp [ex]
    rw [this]
    simp only [List.map_cons, cs]
    omega
theorem cs_append : ∀ (l m : List Look), cs (l ++ m) = cs l + cs m
  | [], _ => by simp [cs]
  | x :: l, m => by simp only [List.cons_append, cs, cs_append l m]; omega
theorem set_same : ∀ (g : List Stretch) (i : Nat) (m : Int), (g.set i ⟨(g.getD i eStretch.d).look, m⟩).map (·.look) = g.map (·.look)
  | [], _, _ => rfl
  | s :: g, 0, m => by simp
  | s :: g, i + 1, m => by
    rw [List.set_cons_succ, List.getD_cons_succ, List.map_cons, List.map_cons, set_same g i m]
theorem addS_cs (g : List Stretch) (x : Look) (n : Int) : cs ((addS g x n).map (·.look)) ≤ cs (g.map (·.look)) + b01 (npl x) := by
  unfold addS
  split
  · omega
  · split
    · rw [set_same]; omega
    · rw [List.map_append, cs_append]
      simp [cs]
theorem b01_le (b : Bool) : b01 b ≤ 1 := by cases b <;> simp [b01]
theorem lof_cs : ∀ (l : List Span) (a : Int) (g : List Stretch), cs ((lof l a g).2.map (·.look)) ≤ cs (g.map (·.look)) + l.length
  | [], _, _ => by simp [lof]
  | s :: l, a, g => by
    have h1 := lof_cs l s.to (addS (addS g ⟨10, 0⟩ (w64 (s.fr - a))) (lookS s) (w64 (s.to - s.fr)))
    have h2 := addS_cs (addS g ⟨10, 0⟩ (w64 (s.fr - a))) (lookS s) (w64 (s.to - s.fr))
    have h3 := addS_cs g ⟨10, 0⟩ (w64 (s.fr - a))
    have h4 := b01_le (npl (lookS s))
    have h5 : b01 (npl ⟨10, 0⟩) = 0 := rfl
    simp only [lof, List.length_cons]
    omega
theorem starts_sLooks {l : List Span} {c : Int} (h : sSpansOk l c = true) : starts ⟨10, 0⟩ (sLooks l c.toNat) ≤ l.length := by
  obtain ⟨_, h2⟩ := looksOf_ok h
  rw [← h2]
  refine Nat.le_trans (starts_ex _ _) ?_
  unfold looksOf
  have h1 := addS_cs (lof l 0 []).2 ⟨10, 0⟩ (w64 (c - (lof l 0 []).1))
  have h2 := lof_cs l 0 []
  have h5 : b01 (npl ⟨10, 0⟩) = 0 := rfl
  simp only [List.map_nil, cs] at h2
  omega
/-! ### they are ok -/
def vLk (x : Look) : Prop := (1 ≤ x.size ∧ x.size ≤ 40) ∧ (0 ≤ x.mark ∧ x.mark ≤ 9)
theorem vLk_plain : vLk ⟨10, 0⟩ := by unfold vLk; decide
theorem vLk_spans {l : List Span} {c : Int} (h : sSpansOk l c = true) : ∀ s ∈ l, vLk (lookS s) := by
  have hn := ok_c h
  intro s hs
  obtain ⟨i, hi, rfl⟩ := List.getElem_of_mem hs
  simp only [sSpansOk, Bool.and_eq_true] at h
  have := allI_all h.1 i (Nat.zero_le _) (by omega)
  have e : l.getD i eSpan.d = l[i] := by rw [List.getD_eq_getElem?_getD, List.getElem?_eq_getElem hi]; rfl
  simp only [sAt, e, sl6Ok_in (s := l[i]) (n := c) (by omega), iOk, Bool.and_eq_true, Bool.or_eq_true, decide_eq_true_eq] at this
  show (1 ≤ (l[i]).size ∧ (l[i]).size ≤ 40) ∧ (0 ≤ (l[i]).mark ∧ (l[i]).mark ≤ 9)
  omega
theorem vLk_lookOf : ∀ (l : List Span) (i : Nat), (∀ s ∈ l, vLk (lookS s)) → vLk (lookOf l i)
  | [], _, _ => vLk_plain
  | s :: l, i, h => by
    unfold lookOf
    simp only [sAtL]
    split
    · exact h s List.mem_cons_self
    · exact vLk_lookOf l i fun u hu => h u (List.mem_cons_of_mem _ hu)
theorem vLk_move {l : List Look} {a : Nat} {n : Int} (hal : a ≤ l.length) (h : ∀ x ∈ l, vLk x) : ∀ x ∈ sMove l a n, vLk x := by
  intro x hx
  unfold sMove at hx
  split at hx
  · rcases List.mem_append.1 hx with hx | hx
    · exact h x (List.mem_of_mem_take hx)
    · exact h x (List.mem_of_mem_drop hx)
  · rcases List.mem_append.1 hx with hx | hx
    · rcases List.mem_append.1 hx with hx | hx
      · exact h x (List.mem_of_mem_take hx)
      · have := List.eq_of_mem_replicate hx
        subst this
        unfold sMoveLook
        split
        · rename_i ha
          rw [decide_eq_true_eq] at ha
          rw [List.getD_eq_getElem?_getD]
          cases hq : l[a - 1]? with
          | none => have := List.getElem?_eq_none_iff.1 hq; omega
          | some y => exact h y (List.mem_of_getElem? hq)
        · exact vLk_plain
    · exact h x (List.mem_of_mem_drop hx)
theorem ok_of {l : List Span} {n : Int} (hn : 0 ≤ n ∧ n ≤ 80) (hl : l.length ≤ 12) (hc : ∀ s ∈ l, s.to ≤ n ∧ vLk (lookS s)) (h : chain 0 l) : sSpansOk l n = true := by
  have key : ∀ (l : List Span) (b : Int), 0 ≤ b → chain b l → (∀ s ∈ l, s.to ≤ n ∧ vLk (lookS s)) → ∀ j, j < l.length → sAt l n j = true ∧ b ≤ (l.getD j eSpan.d).fr := by
    intro l
    induction l with
    | nil => intro b _ _ _ j hj; simp at hj
    | cons s l ih =>
      intro b hb hch hc j hj
      obtain ⟨c1, c2, c3⟩ := hch
      have hs := hc s List.mem_cons_self
      have hv : (1 ≤ s.size ∧ s.size ≤ 40) ∧ (0 ≤ s.mark ∧ s.mark ≤ 9) := hs.2
      cases j with
      | zero =>
        simp only [sAt, List.getD_cons_zero, sl6Ok_in (s := s) (n := n) (by omega), iOk, Bool.and_eq_true, Bool.or_eq_true, decide_eq_true_eq]
        exact ⟨⟨by omega, .inl trivial⟩, c1⟩
      | succ j =>
        have hj' : j < l.length := by simpa using hj
        obtain ⟨q1, q2⟩ := ih s.to (by omega) c3 (fun u hu => hc u (List.mem_cons_of_mem _ hu)) j hj'
        simp only [sAt, List.getD_cons_succ, Bool.and_eq_true, Bool.or_eq_true, decide_eq_true_eq] at q1 ⊢
        refine ⟨⟨q1.1, .inr ?_⟩, by omega⟩
        cases j with
        | zero => simp at q2 ⊢; exact q2
        | succ j =>
          have := q1.2.resolve_left (by omega)
          simpa using this
  simp only [sSpansOk, Bool.and_eq_true, inR_eq, decide_eq_true_eq]
  exact ⟨all_allI fun j _ hj => (key l 0 (Int.le_refl _) h hc j (by omega)).1, hl, hn⟩
theorem ok_up {l : List Span} {n m : Int} (h : sSpansOk l n = true) (h1 : n ≤ m) (h2 : m ≤ 80) : sSpansOk l m = true := by
  obtain ⟨c1, c2⟩ := chain_ok h
  have hl : l.length ≤ 12 := by
    simp only [sSpansOk, Bool.and_eq_true, decide_eq_true_eq] at h
    exact h.2.1
  have := ok_c h
  exact ok_of (by omega) hl (fun s hs => ⟨Int.le_trans (c2 s hs) h1, vLk_spans h s hs⟩) c1
theorem iLookAt_eq : ∀ (l : List Span) (i : Nat), (∀ s ∈ l, 0 ≤ s.to) → (∀ s ∈ l, s.to ≤ 1000000) → iLookAt i l = lookOf l i
  | [], _, _, _ => rfl
  | s :: l, i, h0, h1 => by
    have ih := iLookAt_eq l i (fun u hu => h0 u (List.mem_cons_of_mem _ hu)) (fun u hu => h1 u (List.mem_cons_of_mem _ hu))
    have a0 := h0 s List.mem_cons_self
    have a1 := h1 s List.mem_cons_self
    have e : inR (i : Int) s.fr (w64 (s.to - 1)) = (decide (s.fr ≤ i) && decide ((i : Int) < s.to)) := by
      rw [w64_in (by omega), Bool.eq_iff_iff]
      simp only [inR, Bool.and_eq_true, decide_eq_true_eq]
      omega
    unfold lookOf at ih ⊢
    simp only [iLookAt, sAtL, e]
    cases (decide (s.fr ≤ (i : Int)) && decide ((i : Int) < s.to)) with
    | true => rfl
    | false => exact ih
theorem chain_pos : ∀ {l : List Span} {b : Int}, 0 ≤ b → chain b l → ∀ s ∈ l, 0 ≤ s.to
  | [], _, _, _, _, h => by cases h
  | s :: l, b, hb, h, u, hu => by
    obtain ⟨h1, h2, h3⟩ := h
    rcases List.mem_cons.1 hu with rfl | hu
    · omega
    · exact chain_pos (b := s.to) (by omega) h3 u hu
/-- What SpanAt says of spans that are ok. -/
theorem iSpanAt_eq {l : List Span} {n : Int} (h : sSpansOk l n = true) (i : Nat) : iSpanAt l i = lookOf l i := by
  have hn := ok_c h
  have h80 := ok_up h (m := 80) hn.2 (by omega)
  obtain ⟨c1, c2⟩ := chain_ok h
  unfold iSpanAt
  rw [SpansOk_eq, h80]
  exact iLookAt_eq l i (chain_pos (Int.le_refl _) c1) fun s hs => by have := c2 s hs; omega
theorem getD_sLooks {l : List Span} {n j : Nat} (h : j < n) (d : Look) : (sLooks l n).getD j d = lookOf l j := by
  rw [List.getD_eq_getElem?_getD]
  simp [sLooks, h]
def mvd (l : List Span) (n a k : Int) : List Look := sMove (sLooks l n.toNat) a.toNat k
section
variable {l : List Span} {n a k : Int}
theorem mvd_len (h : sMoveOk l n a k = true) : ((mvd l n a k).length : Int) = n + k := by
  have hn := ok_n h
  have := sMove_len (l := sLooks l n.toNat) (a := a.toNat) (n := k) (by rw [sLooks_len]; omega) (by rw [sLooks_len]; omega)
  rw [sLooks_len] at this
  unfold mvd
  omega
theorem sSpansMove_is (h : sMoveOk l n a k = true) : sSpansMove l n a k = sSpans (mvd l n a k) := by
  unfold sSpansMove
  rw [h]
  rfl
theorem moved_ok (h : sMoveOk l n a k = true) : sSpansOk (sSpansMove l n a k) (n + k) = true := by
  have hn := ok_n h
  have hs : sSpansOk l n = true := by simp only [sMoveOk, Bool.and_eq_true] at h; exact h.1
  have hl12 : l.length ≤ 12 := by
    simp only [sSpansOk, Bool.and_eq_true, decide_eq_true_eq] at hs
    exact hs.2.1
  have hlen := mvd_len h
  rw [sSpansMove_is h]
  have hM : (sSpans (mvd l n a k)).length ≤ 12 := by
    rw [sSpans_starts]
    have h1 := starts_move (l := sLooks l n.toNat) (a := a.toNat) (n := k) (by rw [sLooks_len]; omega)
    have h2 := starts_sLooks hs
    unfold mvd
    omega
  obtain ⟨p1, p2⟩ := spansOf_ok (groups (mvd l n a k)) 0 (groups_pos _)
  rw [unr_groups] at p2
  refine ok_of (by omega) hM (fun s hs' => ?_) p1
  obtain ⟨q1, p, q2, q3, q4⟩ := p2 s hs'
  refine ⟨by omega, ?_⟩
  rw [← q3]
  have hv : ∀ x ∈ sLooks l n.toNat, vLk x := fun x hx => by
    simp only [sLooks, List.mem_map] at hx
    obtain ⟨i, _, rfl⟩ := hx
    exact vLk_lookOf l i (vLk_spans hs)
  exact vLk_move (by rw [sLooks_len]; omega) hv _ (groups_mem q2)
theorem moved_looks (h : sMoveOk l n a k = true) : sLooks (sSpansMove l n a k) (n + k).toNat = mvd l n a k := by
  have hn := ok_n h
  have hlen := mvd_len h
  rw [sSpansMove_is h, show (n + k).toNat = (mvd l n a k).length by omega]
  exact sLooks_sSpans (by omega)
/-- What SpanAt says behind a move. -/
theorem at_moved (h : sMoveOk l n a k = true) {i : Nat} (hi : (i : Int) < n + k) : iSpanAt (sSpansMove l n a k) i = (mvd l n a k).getD i ⟨10, 0⟩ := by
  rw [iSpanAt_eq (moved_ok h), ← moved_looks h, getD_sLooks (by omega)]
/-- Where a letter was. -/
theorem mvd_at (h : sMoveOk l n a k = true) {i : Nat} (hi : (i : Int) < n + k) : (mvd l n a k).getD i ⟨10, 0⟩ =
    if k < 0 then (if a ≤ i then lookOf l (i - k).toNat else lookOf l i) else if (i : Int) < a then lookOf l i else if (i : Int) < a + k then (if a = 0 then ⟨10, 0⟩ else lookOf l (a - 1).toNat) else lookOf l (i - k).toNat := by
  have hn := ok_n h
  have hL : (sLooks l n.toNat).length = n.toNat := sLooks_len _ _
  have hg : ∀ j : Nat, (j : Int) < n → (sLooks l n.toNat)[j]? = some (lookOf l j) := fun j hj => by
    have : j < n.toNat := by omega
    simp [sLooks, this]
  unfold mvd sMove
  rw [List.getD_eq_getElem?_getD]
  by_cases hk : k < 0
  · rw [decide_eq_true hk, if_pos hk]
    simp only
    split
    · rename_i hai
      rw [List.getElem?_append_right (by rw [List.length_take, hL]; omega), List.getElem?_drop, List.length_take, hL, show (↑a.toNat - k).toNat + (i - min a.toNat n.toNat) = (↑i - k).toNat by omega, hg _ (by omega)]
      rfl
    · rw [List.getElem?_append_left (by rw [List.length_take, hL]; omega), List.getElem?_take_of_lt (by omega), hg _ (by omega)]
      rfl
  · rw [decide_eq_false hk, if_neg hk]
    simp only
    rw [List.append_assoc]
    split
    · rw [List.getElem?_append_left (by rw [List.length_take, hL]; omega), List.getElem?_take_of_lt (by omega), hg _ (by omega)]
      rfl
    · rename_i hai
      rw [List.getElem?_append_right (by rw [List.length_take, hL]; omega), List.length_take, hL]
      split
      · rw [List.getElem?_append_left (by rw [List.length_replicate]; omega), List.getElem?_replicate, if_pos (by omega)]
        show sMoveLook _ _ = _
        unfold sMoveLook
        split
        · rename_i h1
          rw [decide_eq_true_eq] at h1
          rw [if_neg (by omega), List.getD_eq_getElem?_getD, hg _ (by omega), show a.toNat - 1 = (a - 1).toNat by omega]
          rfl
        · rename_i h1
          rw [decide_eq_false_iff_not] at h1
          rw [if_pos (by omega)]
      · rw [List.getElem?_append_right (by rw [List.length_replicate]; omega), List.length_replicate, List.getElem?_drop, show a.toNat + (i - min a.toNat n.toNat - k.toNat) = (↑i - k).toNat by omega, hg _ (by omega)]
        rfl
theorem moved_back (h : sMoveOk l n a k = true) (hk : 0 ≤ k) : sSpansMove (sSpansMove l n a k) (n + k) a (-k) = iPlain l n := by
  have hn := ok_n h
  have hs : sSpansOk l n = true := by simp only [sMoveOk, Bool.and_eq_true] at h; exact h.1
  have hb : sMoveOk (sSpansMove l n a k) (n + k) a (-k) = true := by
    simp only [sMoveOk, Bool.and_eq_true, inR_eq]
    rw [w64_in (n := n + k - a) (by omega), w64_in (by omega), w64_in (by omega)]
    exact ⟨moved_ok h, by omega, by omega⟩
  rw [sSpansMove_is hb]
  have hL : (sLooks l n.toNat).length = n.toNat := sLooks_len _ _
  have e : mvd (sSpansMove l n a k) (n + k) a (-k) = sLooks l n.toNat := by
    rw [show mvd (sSpansMove l n a k) (n + k) a (-k) = sMove (sLooks (sSpansMove l n a k) (n + k).toNat) a.toNat (-k) from rfl, moved_looks h]
    have hM : mvd l n a k = (sLooks l n.toNat).take a.toNat ++ (List.replicate k.toNat (sMoveLook (sLooks l n.toNat) a.toNat) ++ (sLooks l n.toNat).drop a.toNat) := by
      unfold mvd sMove
      rw [decide_eq_false (by omega), ← List.append_assoc]
    have ht : (mvd l n a k).take a.toNat = (sLooks l n.toNat).take a.toNat := by
      rw [hM, List.take_left' (by rw [List.length_take, hL]; omega)]
    have hd : (mvd l n a k).drop (a.toNat + k.toNat) = (sLooks l n.toNat).drop a.toNat := by
      rw [hM, ← List.drop_drop, List.drop_left' (by rw [List.length_take, hL]; omega), List.drop_left' (by simp)]
    by_cases hk0 : k = 0
    · subst hk0
      have : sMove (mvd l n a 0) a.toNat (-0) = mvd l n a 0 := by
        unfold sMove
        rw [decide_eq_false (by omega)]
        simp
      rw [this, hM]
      simp
    · rw [show sMove (mvd l n a k) a.toNat (-k) = (mvd l n a k).take a.toNat ++ (mvd l n a k).drop (a.toNat + k.toNat) by
        unfold sMove
        rw [decide_eq_true (by omega)]
        simp only
        congr 2
        omega, ht, hd, List.take_append_drop]
  rw [e]
  obtain ⟨h1, h2⟩ := looksOf_ok hs
  unfold iPlain
  rw [SpansOk_eq, hs]
  show _ = iSp 0 (looksOf l n)
  rw [iSp_spans h1 (by rw [h2, hL]; omega), h2]
end
end Go.SL

/- What is cut out in two steps is cut out in one; what was cut is ok. -/
set_option linter.unusedVariables false
set_option linter.unusedSimpArgs false
namespace Go.SL
open Go.RowKit Go.Proofs
theorem okM {l : List Span} {n a k : Int} (h1 : sSpansOk l n = true) (h2 : 0 ≤ a ∧ a ≤ n) (h3 : a - n ≤ k ∧ k ≤ 80 - n) : sMoveOk l n a k = true := by
  have hn := ok_c h1
  simp only [sMoveOk, Bool.and_eq_true, inR_eq] at *
  rw [w64_in (n := n - a) (by omega), w64_in (by omega), w64_in (by omega)]
  exact ⟨h1, by omega, by omega, by omega⟩
theorem check_ok {p : Para} (h : sCheck p = 0) : ∃ xs, iGet p.text = some xs ∧ sSpansOk p.spans xs.length = true ∧ inR p.wide 0 20000 = true ∧ (inR p.base 0 2 && inR p.mode 0 1 && inR p.align 0 3) = true := by
  unfold sCheck at h
  cases h1 : iGet p.text with
  | none => rw [h1] at h; cases h
  | some xs =>
    rw [h1] at h
    refine ⟨xs, rfl, ?_⟩
    dsimp only at h
    cases h2 : sSpansOk p.spans xs.length with
    | false => rw [h2] at h; cases h
    | true =>
      rw [h2] at h
      cases h3 : inR p.wide 0 20000 with
      | false => rw [h3] at h; cases h
      | true =>
        rw [h3] at h
        cases h4 : (inR p.base 0 2 && inR p.mode 0 1 && inR p.align 0 3) with
        | false => rw [h4] at h; cases h
        | true => exact ⟨rfl, rfl, rfl⟩
theorem ok_check {p : Para} {xs : List Int} (h1 : iGet p.text = some xs) (h2 : sSpansOk p.spans xs.length = true) (h3 : inR p.wide 0 20000 = true) (h4 : (inR p.base 0 2 && inR p.mode 0 1 && inR p.align 0 3) = true) : sCheck p = 0 := by
  unfold sCheck
  rw [h1]
  dsimp only
  rw [h2, h3, h4]
/-- A paragraph that was made is ok. -/
theorem made_ok {p : Para} {xs ys : List Int} {sp : List Span} (hk : sCheck p = 0) (hy : lettersOk ys = true) (hs : sSpansOk sp ys.length = true) : sCheck (sMake p ys sp) = 0 ∧ iGet (sMake p ys sp).text = some ys := by
  obtain ⟨zs, _, _, h3, h4⟩ := check_ok hk
  exact ⟨ok_check (iGet_put hy) hs h3 h4, iGet_put hy⟩
theorem lets_sub {xs ys : List Int} (h : lettersOk xs = true) (hl : ys.length ≤ 80) (hs : ∀ y ∈ ys, y ∈ xs) : lettersOk ys = true := by
  simp only [lettersOk, Bool.and_eq_true, decide_eq_true_eq, List.all_eq_true] at *
  exact ⟨hl, fun y hy => h.2 y (hs y hy)⟩
structure CutIs (p : Para) (f t : Int) (G : Para) : Prop where
  xs : ∃ xs : List Int, iGet p.text = some xs ∧ sCheck p = 0 ∧ (0 ≤ f ∧ f ≤ t ∧ t ≤ xs.length) ∧ sMoveOk p.spans xs.length f (f - t) = true ∧
    G = sMake p (xs.take f.toNat ++ xs.drop t.toNat) (sSpansMove p.spans xs.length f (f - t)) ∧ sCheck G = 0 ∧ iGet G.text = some (xs.take f.toNat ++ xs.drop t.toNat)
theorem cut_len {xs : List Int} {f t : Int} (h : 0 ≤ f ∧ f ≤ t ∧ t ≤ xs.length) : ((xs.take f.toNat ++ xs.drop t.toNat).length : Int) = xs.length + (f - t) := by
  rw [List.length_append, List.length_take, List.length_drop]
  omega
theorem sCut_yes {p : Para} {xs : List Int} {f t : Int} (h1 : iGet p.text = some xs) (h2 : sCheck p = 0) (h3 : 0 ≤ f ∧ f ≤ t ∧ t ≤ xs.length) : sCut p f t = some (sMake p (xs.take f.toNat ++ xs.drop t.toNat) (sSpansMove p.spans xs.length f (f - t))) := by
  unfold sCut
  rw [h1]
  dsimp only
  rw [decide_eq_true h2, inR_yes (by omega), inR_yes (by omega)]
  rfl
theorem sCut_is {p G : Para} {f t : Int} (h : sCut p f t = some G) : CutIs p f t G := by
  unfold sCut at h
  cases h1 : iGet p.text with
  | none => rw [h1] at h; cases h
  | some xs =>
    rw [h1] at h
    dsimp only at h
    cases h2 : (decide (sCheck p = 0) && inR f 0 xs.length && inR t f xs.length) with
    | false => rw [h2] at h; cases h
    | true =>
      rw [h2] at h
      injection h with h
      simp only [Bool.and_eq_true, decide_eq_true_eq, inR_eq] at h2
      have hl : 0 ≤ f ∧ f ≤ t ∧ t ≤ xs.length := by omega
      obtain ⟨ys, e1, e2, _⟩ := check_ok h2.1.1
      rw [h1] at e1
      injection e1 with e1
      subst e1
      have hx := iGet_len h1
      have hM := okM (a := f) (k := f - t) e2 (by omega) (by omega)
      have hc := cut_len hl
      have hok := made_ok (xs := xs) (ys := xs.take f.toNat ++ xs.drop t.toNat) (sp := sSpansMove p.spans xs.length f (f - t)) h2.1.1
        (lets_sub (iGet_ok h1).1 (by omega) fun y hy => by
          rcases List.mem_append.1 hy with hy | hy
          · exact List.mem_of_mem_take hy
          · exact List.mem_of_mem_drop hy) (by rw [hc]; exact moved_ok hM)
      rw [h] at hok
      exact ⟨xs, h1, h2.1.1, hl, hM, h.symm, hok.1, hok.2⟩
theorem cut2 {α : Type} (l : List α) {f m t : Nat} (h1 : f ≤ m) (h2 : m ≤ t) (h3 : t ≤ l.length) : (l.take m ++ l.drop t).take f ++ (l.take m ++ l.drop t).drop m = l.take f ++ l.drop t := by
  have e : (l.take m).length = m := by rw [List.length_take]; omega
  rw [List.take_append_of_le_length (by omega), List.take_take, Nat.min_eq_left h1, List.drop_append_of_le_length (by omega), List.drop_of_length_le (by omega), List.nil_append]
theorem sMove_cut {l : List Look} {a : Nat} {k : Int} (h : k ≤ 0) (ha : a ≤ l.length) : sMove l a k = l.take a ++ l.drop ((a : Int) - k).toNat := by
  unfold sMove
  by_cases h0 : k < 0
  · rw [decide_eq_true h0]
  · obtain rfl : k = 0 := by omega
    rw [decide_eq_false h0]
    simp
/-- Cut in two steps. -/
theorem cut_cut {p G : Para} {f t : Int} (h : sCut p f t = some G) {m : Int} (hm : m = (f + t) / 2) : ∃ A, sCut p m t = some A ∧ sCut A f m = some G := by
  obtain ⟨xs, h1, h2, h3, h4, h5, h6, h7⟩ := (sCut_is h).xs
  have hl : f ≤ m ∧ m ≤ t := by omega
  have hA := sCut_yes (f := m) (t := t) h1 h2 (by omega)
  refine ⟨_, hA, ?_⟩
  obtain ⟨ys, a1, a2, a3, a4, a5, a6, a7⟩ := (sCut_is hA).xs
  rw [h1] at a1
  injection a1 with a1
  subst a1
  have hx := cut_len a3
  have hxl := iGet_len h1
  rw [sCut_yes a7 a6 (by omega), h5]
  have hx3 : f.toNat ≤ m.toNat ∧ m.toNat ≤ t.toNat ∧ t.toNat ≤ xs.length := by omega
  have hS : sSpansMove (sSpansMove p.spans xs.length m (m - t)) (xs.take m.toNat ++ xs.drop t.toNat).length f (f - m) = sSpansMove p.spans xs.length f (f - t) := by
    have hl := moved_looks a4
    have hk := moved_ok a4
    have hM2 : sMoveOk (sSpansMove p.spans xs.length m (m - t)) (xs.length + (m - t)) f (f - m) = true := okM hk (by omega) (by omega)
    rw [hx, sSpansMove_is hM2, sSpansMove_is h4]
    congr 1
    unfold mvd
    rw [hl]
    unfold mvd
    have hL : (sLooks p.spans xs.length).length = xs.length := sLooks_len ..
    rw [Int.toNat_natCast]
    obtain ⟨L, hLe⟩ : ∃ L, sLooks p.spans xs.length = L := ⟨_, rfl⟩
    rw [hLe] at hL ⊢
    rw [sMove_cut (l := L) (a := m.toNat) (by omega) (by omega), sMove_cut (l := L) (a := f.toNat) (by omega) (by omega), sMove_cut (by omega) (by rw [List.length_append, List.length_take, List.length_drop]; omega)]
    have e1 : ((m.toNat : Int) - (m - t)).toNat = t.toNat := by omega
    have e2 : ((f.toNat : Int) - (f - m)).toNat = m.toNat := by omega
    have e3 : ((f.toNat : Int) - (f - t)).toNat = t.toNat := by omega
    rw [e1, e2, e3]
    exact cut2 L hx3.1 hx3.2.1 (by omega)
  show some (sMake (sMake p _ _) _ (sSpansMove (sSpansMove p.spans xs.length m (m - t)) _ f (f - m))) = _
  rw [hS, cut2 xs hx3.1 hx3.2.1 hx3.2.2]
  rfl
end Go.SL

/- The drawing's reader: l1Open, pick, one. -/
set_option linter.unusedVariables false
set_option linter.unusedSimpArgs false
namespace Go.SL
open Go.RowKit Go.Proofs
instance : EncN 5 eByte := ⟨trivial⟩
instance : EncN 3 eInt := ⟨trivial⟩
theorem getD_all {α : Type} {p : α → Prop} {l : List α} {i : Nat} {d : α} (h : ∀ x ∈ l, p x) (hd : p d) : p (l.getD i d) := by
  rw [List.getD_eq_getElem?_getD]
  cases hi : l[i]? with
  | none => exact hd
  | some x => exact h x (List.mem_of_getElem? hi)
/-- The reader: at most N numbers have been drawn. -/
def rdr (b : Nat) (v : Value) (N : Nat) : HP := exR fun p : Int => [pureR (0 ≤ p ∧ p ≤ N), blk b (.cells #[v, .int .i64 p] 69 (0, 0))]
theorem Pick.rdr {b N : Nat} {v : Value} {p : Int} {L L' : List HP} (h : 0 ≤ p ∧ p ≤ N) (hp : Pick L (blk b (.cells #[v, .int .i64 p] 69 (0, 0))) L') : Pick L (SL.rdr b v N) L' :=
  Pick.ex p (Parts.cons (Pick.pure h) (Parts.cons hp Parts.nil))
theorem Ent.rdr {b N : Nat} {v : Value} {p : Int} {L L1 L2 : List HP} (h2 : Ent L1 L2) (hp : autoParam (Pick L (SL.blk b (.cells #[v, .int .i64 p] 69 (0, 0))) L1) APB.h._autoParam) (h : 0 ≤ p ∧ p ≤ N := by omega) : Ent L (SL.rdr b v N :: L2) := Ent.pick (Pick.rdr h hp) h2
theorem Ent.rdrUp {b N M : Nat} {v : Value} {L L1 L2 : List HP} (h2 : Ent L1 L2) (h : N ≤ M) (hp : autoParam (Pick L (SL.rdr b v N) L1) APB.h._autoParam) : Ent L (SL.rdr b v M :: L2) := by
  refine Ent.pick (L1 := L1) ⟨fun g hg => ?_⟩ h2
  obtain ⟨g1, g2, d, e, ⟨p, hq⟩, q2⟩ := hp.h g hg
  refine ⟨g1, g2, d, e, ⟨p, ?_⟩, q2⟩
  obtain ⟨g3, g4, d', e', ⟨h1, h0⟩, h3⟩ := hq
  exact ⟨g3, g4, d', e', ⟨⟨h1.1, by omega⟩, h0⟩, h3⟩
theorem J.rdr {P : Program} {x : Cx} {E : List (Nat × Value)} {L L' : List HP} {k : List Fr} {c : Code} {b N : Nat} {v : Value} (h : ∀ p : Int, 0 ≤ p ∧ p ≤ N → J P x E (blk b (.cells #[v, .int .i64 p] 69 (0, 0)) :: L') c k) (hp : autoParam (Pick L (SL.rdr b v N) L') APB.h._autoParam) : J P x E L c k :=
  J.exP hp fun p => J.pureP fun h0 => h p h0
set_option maxRecDepth 100000 in
set_option maxHeartbeats 4000000 in
theorem pick_c (b : Nat) (v : Value) (l : List UInt8) (N : Nat) (n : Int) (hN : N ≤ 1000000) (hn : -1000000000 ≤ n ∧ n ≤ 1000000000) : Spec Tryz.prog 17 [.pointer (some ⟨b, 0, none⟩), .int .i64 n] [rd eByte v l] [rdr b v N] (fun k : Int => .int .i64 k) (fun _ => [rdr b v (N + 1)]) (fun k => 0 ≤ k ∧ (1 ≤ n → k < n) ∧ (n < 1 → k = 0)) := by
  refine Spec.mk Tryz.func17 rfl Tryz.ntmps17 rfl ?_
  intro w0 O hR hS0
  have hr := hR _ List.mem_cons_self; clear hR hS0
  refine J.rdr fun p hp => ?_
  refine J.know (R := rd eByte v l) fun w hw => ?_
  have hb := rd_bd hw; clear hw w
  by_cases hl : 0 < l.length
  · have hq : 0 ≤ (p + 1 - 1) / (l.length : Int) ∧ (p + 1 - 1) / (l.length : Int) ≤ p + 1 - 1 := ⟨Int.ediv_nonneg (by omega) (by omega), Int.ediv_le_self _ (by omega)⟩
    have h1 := byte_bd (l.getD ((p + 1 - 1) % (l.length : Int)).toNat eByte.d)
    have h2 := byte_bd (l.getD (((p + 1 - 1) * 7 + 3) % (l.length : Int)).toNat eByte.d)
    obtain ⟨X, hX⟩ : ∃ X : Int, X = ((l.getD ((p + 1 - 1) % (l.length : Int)).toNat eByte.d).toNat : Int) * 131 + ((l.getD (((p + 1 - 1) * 7 + 3) % (l.length : Int)).toNat eByte.d).toNat : Int) * 1117 + (p + 1 - 1) * 29 + (p + 1 - 1) / (l.length : Int) * 53 := ⟨_, rfl⟩
    have hx := xorV_nn (a := X) (b := X / 64) (by omega) (by omega)
    rw [hX] at hx
    clear hX X
    repeat' (first | ((with_reducible apply iOJ); first | ((with_reducible apply iOp); refine OJ.p ?_) | with_reducible apply OJ.nil | ((with_reducible apply iOg); first | refine OJ.guardY ?_ | refine OJ.guardN ?_ | refine OJ.guardNd ?_ | refine OJ.guardU ?_ | refine OJ.guardS (fun _ => ?_) (fun _ => ?_) | fail) | ((with_reducible apply iOstore); first | (refine OJ.as AS.store ?_; rintro _ _ rfl) | (refine OJ.as AS.storeA ?_; rintro _ _ rfl) | (refine OJ.as AS.storeAV ?_; rintro _ _ rfl) | (refine OJ.as AS.storeE ?_; rintro _ _ rfl) | (refine OJ.as AS.storeEA ?_; rintro _ _ rfl) | (refine OJ.as AS.storeP ?_; rintro _ _ rfl) | fail) | ((with_reducible apply iOcall); first | (refine OJ.as AS.append1 ?_; rintro _ _ rfl) | (refine OJ.as AS.append ?_; rintro _ _ rfl) | fail) | ((with_reducible apply iObox); first | (refine OJ.as AS.box1 ?_; rintro _ _ ⟨_, rfl, rfl⟩) | (refine OJ.as AS.boxA ?_; rintro _ _ ⟨_, rfl, rfl⟩) | fail) | ((with_reducible apply iOalloc); first | (refine OJ.as AS.alloc ?_; rintro _ _ ⟨_, rfl, rfl⟩) | fail) | ((with_reducible apply iObuildSlice); first | (refine OJ.as AS.buildSlice ?_; rintro _ _ ⟨_, rfl, rfl⟩) | fail) | ((with_reducible apply iOmakeSlice); first | (refine OJ.as AS.makeSlice ?_; rintro _ _ rfl) | fail) | ((with_reducible apply iOmakeMap); first | (refine OJ.as AS.makeMap ?_; rintro _ _ ⟨_, rfl, rfl⟩) | fail) | ((with_reducible apply iOmapEntry); first | (refine OJ.as AS.mapEntry ?_; rintro _ _ ⟨_, _, rfl, rfl⟩) | fail) | ((with_reducible apply iOentryStore); first | (refine OJ.as AS.entryStore ?_; rintro _ _ rfl) | fail) | ((with_reducible apply iOinsert); first | (refine OJ.as AS.insert ?_; rintro _ _ rfl) | fail) | ((with_reducible apply iOmapUpdate); first | (refine OJ.as AS.mapUpdate ?_; rintro _ _ rfl) | fail) | refine OJ.unboxP fun _ => ?_ | fail) | ((with_reducible apply iJ); first | refine J.seq ?_ | refine J.region ?_ | refine J.block ?_ | refine J.skip ?_ | refine J.exit ?_ | refine J.condT ?_ | refine J.condF ?_ | refine J.cond (fun _ => ?_) (fun _ => ?_) | refine J.draw ?_ | refine J.ret (ends _ ?_ rfl ?_) | fail) | ((with_reducible apply iJK); first | refine JK.code ?_ | refine JK.blk ?_ | refine JK.loop ?_ | refine JK.begin ?_ | refine JK.more ?_ | fail) | ((with_reducible apply iAJ); first | refine AJ.rebase ?_ | refine AJ.regain ?_ | refine AJ.take ?_ | refine AJ.takeY ?_ | refine AJ.takeN ?_ | refine AJ.takeNd ?_ | refine AJ.takeNS ?_ | refine AJ.takeU ?_ | refine AJ.sel ?_ | refine AJ.selY ?_ | refine AJ.sel2 ?_ ?_ | refine AJ.split (fun _ => ?_) (fun _ => ?_) | refine AJ.done ?_ | fail) | ((with_reducible apply iAO); first | ((with_reducible apply iAstore); first | (refine AO.as AS.store ?_; rotate_right; rintro _ _ rfl; refine AO.step ?_) | (refine AO.as AS.storeA ?_; rotate_right; rintro _ _ rfl; refine AO.step ?_) | (refine AO.as AS.storeAV ?_; rotate_right; rintro _ _ rfl; refine AO.step ?_) | (refine AO.as AS.storeE ?_; rotate_right; rintro _ _ rfl; refine AO.step ?_) | (refine AO.as AS.storeEA ?_; rotate_right; rintro _ _ rfl; refine AO.step ?_) | (refine AO.as AS.storeP ?_; rotate_right; rintro _ _ rfl; refine AO.step ?_) | fail) | ((with_reducible apply iAcall); first | (refine AO.as AS.append1 ?_; rotate_right; rintro _ _ rfl; refine AO.step ?_) | (refine AO.as AS.append ?_; rotate_right; rintro _ _ rfl; refine AO.step ?_) | fail) | ((with_reducible apply iAbox); first | (refine AO.as AS.box1 ?_; rotate_right; rintro _ _ ⟨_, rfl, rfl⟩; refine AO.step ?_) | (refine AO.as AS.boxA ?_; rotate_right; rintro _ _ ⟨_, rfl, rfl⟩; refine AO.step ?_) | fail) | ((with_reducible apply iAalloc); first | (refine AO.as AS.alloc ?_; rotate_right; rintro _ _ ⟨_, rfl, rfl⟩; refine AO.step ?_) | fail) | ((with_reducible apply iAbuildSlice); first | (refine AO.as AS.buildSlice ?_; rotate_right; rintro _ _ ⟨_, rfl, rfl⟩; refine AO.step ?_) | fail) | ((with_reducible apply iAmakeSlice); first | (refine AO.as AS.makeSlice ?_; rotate_right; rintro _ _ rfl; refine AO.step ?_) | fail) | ((with_reducible apply iAmakeMap); first | (refine AO.as AS.makeMap ?_; rotate_right; rintro _ _ ⟨_, rfl, rfl⟩; refine AO.step ?_) | fail) | ((with_reducible apply iAmapEntry); first | (refine AO.as AS.mapEntry ?_; rotate_right; rintro _ _ ⟨_, _, rfl, rfl⟩; refine AO.step ?_) | fail) | ((with_reducible apply iAentryStore); first | (refine AO.as AS.entryStore ?_; rotate_right; rintro _ _ rfl; refine AO.step ?_) | fail) | ((with_reducible apply iAinsert); first | (refine AO.as AS.insert ?_; rotate_right; rintro _ _ rfl; refine AO.step ?_) | fail) | ((with_reducible apply iAmapUpdate); first | (refine AO.as AS.mapUpdate ?_; rotate_right; rintro _ _ rfl; refine AO.step ?_) | fail) | fail) | ((with_reducible apply iEnt); first | exact Ent.nil | ((with_reducible apply iERow); refine Ent.row ?_ ?_) | ((with_reducible apply iEBox); first | refine Ent.box ?_ ?_ | refine Ent.box2 ?_ ?_) | ((with_reducible apply iEBlk); refine Ent.blk ?_ ?_) | ((with_reducible apply iEPure); refine Ent.pure ?_ ?_) | ((with_reducible apply iERdR); first | refine Ent.rdR ?_ | refine Ent.any ?_ | fail) | refine Ent.any ?_ | with_reducible exact Ent.refl | fail) | ((with_reducible apply iEq); with_reducible rfl) | fail)
    all_goals clear hr
    all_goals first
      | (exfalso; omega)
      | exact ⟨by omega, by omega, by omega⟩
      | exact ⟨Int.emod_nonneg _ (by omega), fun _ => Int.emod_lt_of_pos _ (by omega), fun h => absurd h (by omega)⟩
      | exact Ent.rdr Ent.nil
  · repeat' (first | ((with_reducible apply iOJ); first | ((with_reducible apply iOp); refine OJ.p ?_) | with_reducible apply OJ.nil | ((with_reducible apply iOg); first | refine OJ.guardY ?_ | refine OJ.guardN ?_ | refine OJ.guardNd ?_ | refine OJ.guardU ?_ | refine OJ.guardS (fun _ => ?_) (fun _ => ?_) | fail) | ((with_reducible apply iOstore); first | (refine OJ.as AS.store ?_; rintro _ _ rfl) | (refine OJ.as AS.storeA ?_; rintro _ _ rfl) | (refine OJ.as AS.storeAV ?_; rintro _ _ rfl) | (refine OJ.as AS.storeE ?_; rintro _ _ rfl) | (refine OJ.as AS.storeEA ?_; rintro _ _ rfl) | (refine OJ.as AS.storeP ?_; rintro _ _ rfl) | fail) | ((with_reducible apply iOcall); first | (refine OJ.as AS.append1 ?_; rintro _ _ rfl) | (refine OJ.as AS.append ?_; rintro _ _ rfl) | fail) | ((with_reducible apply iObox); first | (refine OJ.as AS.box1 ?_; rintro _ _ ⟨_, rfl, rfl⟩) | (refine OJ.as AS.boxA ?_; rintro _ _ ⟨_, rfl, rfl⟩) | fail) | ((with_reducible apply iOalloc); first | (refine OJ.as AS.alloc ?_; rintro _ _ ⟨_, rfl, rfl⟩) | fail) | ((with_reducible apply iObuildSlice); first | (refine OJ.as AS.buildSlice ?_; rintro _ _ ⟨_, rfl, rfl⟩) | fail) | ((with_reducible apply iOmakeSlice); first | (refine OJ.as AS.makeSlice ?_; rintro _ _ rfl) | fail) | ((with_reducible apply iOmakeMap); first | (refine OJ.as AS.makeMap ?_; rintro _ _ ⟨_, rfl, rfl⟩) | fail) | ((with_reducible apply iOmapEntry); first | (refine OJ.as AS.mapEntry ?_; rintro _ _ ⟨_, _, rfl, rfl⟩) | fail) | ((with_reducible apply iOentryStore); first | (refine OJ.as AS.entryStore ?_; rintro _ _ rfl) | fail) | ((with_reducible apply iOinsert); first | (refine OJ.as AS.insert ?_; rintro _ _ rfl) | fail) | ((with_reducible apply iOmapUpdate); first | (refine OJ.as AS.mapUpdate ?_; rintro _ _ rfl) | fail) | refine OJ.unboxP fun _ => ?_ | fail) | ((with_reducible apply iJ); first | refine J.seq ?_ | refine J.region ?_ | refine J.block ?_ | refine J.skip ?_ | refine J.exit ?_ | refine J.condT ?_ | refine J.condF ?_ | refine J.cond (fun _ => ?_) (fun _ => ?_) | refine J.ret (ends _ ?_ rfl ?_) | fail) | ((with_reducible apply iJK); first | refine JK.code ?_ | refine JK.blk ?_ | refine JK.loop ?_ | refine JK.begin ?_ | refine JK.more ?_ | fail) | ((with_reducible apply iEnt); first | exact Ent.nil | ((with_reducible apply iERow); refine Ent.row ?_ ?_) | ((with_reducible apply iEBox); first | refine Ent.box ?_ ?_ | refine Ent.box2 ?_ ?_) | ((with_reducible apply iEBlk); refine Ent.blk ?_ ?_) | ((with_reducible apply iEPure); refine Ent.pure ?_ ?_) | ((with_reducible apply iERdR); first | refine Ent.rdR ?_ | refine Ent.any ?_ | fail) | refine Ent.any ?_ | with_reducible exact Ent.refl | fail) | ((with_reducible apply iEq); with_reducible rfl) | fail)
    all_goals clear hr
    all_goals first
      | (exfalso; omega)
      | exact ⟨by omega, by omega, by omega⟩
      | exact ⟨Int.emod_nonneg _ (by omega), fun _ => Int.emod_lt_of_pos _ (by omega), fun h => absurd h (by omega)⟩
      | exact Ent.rdr Ent.nil
set_option maxRecDepth 100000 in
set_option maxHeartbeats 4000000 in
theorem one_c (b : Nat) (v u : Value) (l : List UInt8) (xs : List Int) (N : Nat) (hN : N ≤ 1000000) (hx : 0 < xs.length ∧ xs.length ≤ 1000000) : Spec Tryz.prog 34 [.pointer (some ⟨b, 0, none⟩), u] [rd eByte v l, rd eInt u xs] [rdr b v N] (fun k : Nat => .int .i64 (xs.getD k eInt.d)) (fun _ => [rdr b v (N + 1)]) (fun k => k < xs.length) := by
  refine Spec.mk Tryz.func34 rfl Tryz.ntmps34 rfl ?_
  intro w0 O hR hS0
  have hr := hR _ List.mem_cons_self
  have hr2 := hR _ (List.mem_cons_of_mem _ List.mem_cons_self); clear hR hS0
  repeat' (first | ((with_reducible apply iOJ); first | ((with_reducible apply iOp); refine OJ.p ?_) | with_reducible apply OJ.nil | ((with_reducible apply iOg); first | refine OJ.guardY ?_ | refine OJ.guardN ?_ | refine OJ.guardNd ?_ | refine OJ.guardU ?_ | refine OJ.guardS (fun _ => ?_) (fun _ => ?_) | fail) | ((with_reducible apply iOstore); first | (refine OJ.as AS.store ?_; rintro _ _ rfl) | (refine OJ.as AS.storeA ?_; rintro _ _ rfl) | (refine OJ.as AS.storeAV ?_; rintro _ _ rfl) | (refine OJ.as AS.storeE ?_; rintro _ _ rfl) | (refine OJ.as AS.storeEA ?_; rintro _ _ rfl) | (refine OJ.as AS.storeP ?_; rintro _ _ rfl) | fail) | ((with_reducible apply iOcall); first | (refine OJ.as AS.append1 ?_; rintro _ _ rfl) | (refine OJ.as AS.append ?_; rintro _ _ rfl) | (refine OJ.as (AS.call1 (pick_c b v l N (xs.length : Int) hN (by omega))) ?_; rotate_right; rintro _ _ ⟨y, hy, rfl, rfl⟩) | fail) | ((with_reducible apply iObox); first | (refine OJ.as AS.box1 ?_; rintro _ _ ⟨_, rfl, rfl⟩) | (refine OJ.as AS.boxA ?_; rintro _ _ ⟨_, rfl, rfl⟩) | fail) | ((with_reducible apply iOalloc); first | (refine OJ.as AS.alloc ?_; rintro _ _ ⟨_, rfl, rfl⟩) | fail) | ((with_reducible apply iObuildSlice); first | (refine OJ.as AS.buildSlice ?_; rintro _ _ ⟨_, rfl, rfl⟩) | fail) | ((with_reducible apply iOmakeSlice); first | (refine OJ.as AS.makeSlice ?_; rintro _ _ rfl) | fail) | ((with_reducible apply iOmakeMap); first | (refine OJ.as AS.makeMap ?_; rintro _ _ ⟨_, rfl, rfl⟩) | fail) | ((with_reducible apply iOmapEntry); first | (refine OJ.as AS.mapEntry ?_; rintro _ _ ⟨_, _, rfl, rfl⟩) | fail) | ((with_reducible apply iOentryStore); first | (refine OJ.as AS.entryStore ?_; rintro _ _ rfl) | fail) | ((with_reducible apply iOinsert); first | (refine OJ.as AS.insert ?_; rintro _ _ rfl) | fail) | ((with_reducible apply iOmapUpdate); first | (refine OJ.as AS.mapUpdate ?_; rintro _ _ rfl) | fail) | refine OJ.unboxP fun _ => ?_ | fail) | ((with_reducible apply iJ); first | refine J.seq ?_ | refine J.region ?_ | refine J.block ?_ | refine J.skip ?_ | refine J.exit ?_ | refine J.condT ?_ | refine J.condF ?_ | refine J.cond (fun _ => ?_) (fun _ => ?_) | refine J.ret (ends _ ?_ rfl ?_) | fail) | ((with_reducible apply iJK); first | refine JK.code ?_ | refine JK.blk ?_ | refine JK.loop ?_ | refine JK.begin ?_ | refine JK.more ?_ | fail) | ((with_reducible apply iEnt); first | exact Ent.nil | ((with_reducible apply iERow); refine Ent.row ?_ ?_) | ((with_reducible apply iEBox); first | refine Ent.box ?_ ?_ | refine Ent.box2 ?_ ?_) | ((with_reducible apply iEBlk); refine Ent.blk ?_ ?_) | ((with_reducible apply iEPure); refine Ent.pure ?_ ?_) | ((with_reducible apply iERdR); first | refine Ent.rdR ?_ | refine Ent.any ?_ | fail) | refine Ent.any ?_ | with_reducible exact Ent.refl | fail) | ((with_reducible apply iEq); with_reducible rfl) | fail)
  show _ < _
  omega
set_option maxRecDepth 100000 in
set_option maxHeartbeats 4000000 in
theorem l1Open_c (v : Value) (l : List UInt8) : Spec Tryz.prog 14 [v] [rd eByte v l] [] (fun q : Nat × Value × List UInt8 => .pointer (some ⟨q.1, 0, none⟩)) (fun q => [rdr q.1 q.2.1 0]) (fun q => ∀ w, rd eByte v l w → rd eByte q.2.1 q.2.2 w) := by
  refine Spec.mk Tryz.func14 rfl Tryz.ntmps14 rfl ?_
  intro w0 O hR hS0
  have hr := hR _ List.mem_cons_self; clear hR hS0
  refine J.know (R := rd eByte v l) fun w hw => ?_
  obtain ⟨A, c, rfl, _⟩ := hw
  repeat' (first | ((with_reducible apply iOJ); first | ((with_reducible apply iOp); refine OJ.p ?_) | with_reducible apply OJ.nil | ((with_reducible apply iOg); first | refine OJ.guardY ?_ | refine OJ.guardN ?_ | refine OJ.guardNd ?_ | refine OJ.guardU ?_ | refine OJ.guardS (fun _ => ?_) (fun _ => ?_) | fail) | ((with_reducible apply iOstore); first | (refine OJ.as AS.store ?_; rintro _ _ rfl) | (refine OJ.as AS.storeA ?_; rintro _ _ rfl) | (refine OJ.as AS.storeAV ?_; rintro _ _ rfl) | (refine OJ.as AS.storeE ?_; rintro _ _ rfl) | (refine OJ.as AS.storeEA ?_; rintro _ _ rfl) | (refine OJ.as AS.storeP ?_; rintro _ _ rfl) | fail) | ((with_reducible apply iOcall); first | (refine OJ.as AS.append1 ?_; rintro _ _ rfl) | (refine OJ.as AS.append ?_; rintro _ _ rfl) | fail) | ((with_reducible apply iObox); first | (refine OJ.as AS.box1 ?_; rintro _ _ ⟨_, rfl, rfl⟩) | (refine OJ.as AS.boxA ?_; rintro _ _ ⟨_, rfl, rfl⟩) | fail) | ((with_reducible apply iOalloc); first | (refine OJ.as AS.alloc ?_; rintro _ _ ⟨_, rfl, rfl⟩) | fail) | ((with_reducible apply iObuildSlice); first | (refine OJ.as AS.buildSlice ?_; rintro _ _ ⟨_, rfl, rfl⟩) | fail) | ((with_reducible apply iOmakeSlice); first | (refine OJ.as AS.makeSlice ?_; rintro _ _ rfl) | fail) | ((with_reducible apply iOmakeMap); first | (refine OJ.as AS.makeMap ?_; rintro _ _ ⟨_, rfl, rfl⟩) | fail) | ((with_reducible apply iOmapEntry); first | (refine OJ.as AS.mapEntry ?_; rintro _ _ ⟨_, _, rfl, rfl⟩) | fail) | ((with_reducible apply iOentryStore); first | (refine OJ.as AS.entryStore ?_; rintro _ _ rfl) | fail) | ((with_reducible apply iOinsert); first | (refine OJ.as AS.insert ?_; rintro _ _ rfl) | fail) | ((with_reducible apply iOmapUpdate); first | (refine OJ.as AS.mapUpdate ?_; rintro _ _ rfl) | fail) | refine OJ.unboxP fun _ => ?_ | fail) | ((with_reducible apply iJ); first | refine J.seq ?_ | refine J.region ?_ | refine J.block ?_ | refine J.skip ?_ | refine J.exit ?_ | refine J.condT ?_ | refine J.condF ?_ | refine J.cond (fun _ => ?_) (fun _ => ?_) | fail) | ((with_reducible apply iJK); first | refine JK.code ?_ | refine JK.blk ?_ | refine JK.loop ?_ | refine JK.begin ?_ | refine JK.more ?_ | fail) | ((with_reducible apply iEnt); first | exact Ent.nil | ((with_reducible apply iERow); refine Ent.row ?_ ?_) | ((with_reducible apply iEBox); first | refine Ent.box ?_ ?_ | refine Ent.box2 ?_ ?_) | ((with_reducible apply iEBlk); refine Ent.blk ?_ ?_) | ((with_reducible apply iEPure); refine Ent.pure ?_ ?_) | ((with_reducible apply iERdR); first | refine Ent.rdR ?_ | refine Ent.any ?_ | fail) | refine Ent.any ?_ | with_reducible exact Ent.refl | fail) | ((with_reducible apply iEq); with_reducible rfl) | fail)
  · rename_i n
    refine J.ret (ends (n, sliceV 1 (.slice A l.length c) 0 2000, (l.drop 0).take (2000 - 0)) ?_ rfl ?_)
    · intro w hw
      exact rd_slice (lo := 0) (hi := 2000) hw (by omega) (by omega)
    · exact Ent.rdr Ent.nil
  · rename_i n
    refine J.ret (ends (n, .slice A l.length c, l) (fun w hw => hw) rfl ?_)
    exact Ent.rdr Ent.nil
end Go.SL

/- The drawing of letters: l13Rune, l13Runes, l13Words, l13Line. -/
set_option linter.unusedVariables false
set_option linter.unusedSimpArgs false
namespace Go.SL
open Go.RowKit Go.Proofs
set_option maxRecDepth 100000 in
set_option maxHeartbeats 8000000 in
theorem l13Rune_c (b : Nat) (v : Value) (l : List UInt8) (N : Nat) (hN : N ≤ 900000) : Spec Tryz.prog 38 [.pointer (some ⟨b, 0, none⟩)] [rd eByte v l] [rdr b v N] (fun k : Int => .int .i64 k) (fun _ => [rdr b v (N + 2)]) (fun _ => True) := by
  refine Spec.mk Tryz.func38 rfl Tryz.ntmps38 rfl ?_
  intro w0 O hR hS0
  have hr := hR _ List.mem_cons_self; clear hR hS0
  repeat' (first | ((with_reducible apply iOJ); first | ((with_reducible apply iOp); refine OJ.p ?_) | with_reducible apply OJ.nil | ((with_reducible apply iOg); first | refine OJ.guardY ?_ | refine OJ.guardN ?_ | refine OJ.guardNd ?_ | refine OJ.guardU ?_ | refine OJ.guardS (fun _ => ?_) (fun _ => ?_) | fail) | ((with_reducible apply iOstore); first | (refine OJ.as AS.store ?_; rintro _ _ rfl) | (refine OJ.as AS.storeA ?_; rintro _ _ rfl) | (refine OJ.as AS.storeAV ?_; rintro _ _ rfl) | (refine OJ.as AS.storeE ?_; rintro _ _ rfl) | (refine OJ.as AS.storeEA ?_; rintro _ _ rfl) | (refine OJ.as AS.storeP ?_; rintro _ _ rfl) | fail) | ((with_reducible apply iOcall); first | (refine OJ.as AS.append1 ?_; rintro _ _ rfl) | (refine OJ.as AS.append ?_; rintro _ _ rfl) | (refine OJ.as (AS.call1 (pick_c b v l _ _ ?_ ?_)) ?_; rotate_right; rintro _ _ ⟨y, hy, rfl, rfl⟩) | (refine OJ.as (AS.call1 (one_c b v _ l _ _ ?_ ?_)) ?_; rotate_right; rintro _ _ ⟨y, hy, rfl, rfl⟩) | fail) | ((with_reducible apply iObox); first | (refine OJ.as AS.box1 ?_; rintro _ _ ⟨_, rfl, rfl⟩) | (refine OJ.as AS.boxA ?_; rintro _ _ ⟨_, rfl, rfl⟩) | fail) | ((with_reducible apply iOalloc); first | (refine OJ.as AS.alloc ?_; rintro _ _ ⟨_, rfl, rfl⟩) | fail) | ((with_reducible apply iObuildSlice); first | (refine OJ.as AS.buildSlice ?_; rintro _ _ ⟨_, rfl, rfl⟩) | fail) | ((with_reducible apply iOmakeSlice); first | (refine OJ.as AS.makeSlice ?_; rintro _ _ rfl) | fail) | ((with_reducible apply iOmakeMap); first | (refine OJ.as AS.makeMap ?_; rintro _ _ ⟨_, rfl, rfl⟩) | fail) | ((with_reducible apply iOmapEntry); first | (refine OJ.as AS.mapEntry ?_; rintro _ _ ⟨_, _, rfl, rfl⟩) | fail) | ((with_reducible apply iOentryStore); first | (refine OJ.as AS.entryStore ?_; rintro _ _ rfl) | fail) | ((with_reducible apply iOinsert); first | (refine OJ.as AS.insert ?_; rintro _ _ rfl) | fail) | ((with_reducible apply iOmapUpdate); first | (refine OJ.as AS.mapUpdate ?_; rintro _ _ rfl) | fail) | refine OJ.unboxP fun _ => ?_ | fail) | ((with_reducible apply iJ); first | refine J.seq ?_ | refine J.region ?_ | refine J.block ?_ | refine J.skip ?_ | refine J.exit ?_ | refine J.condT ?_ | refine J.condF ?_ | refine J.cond (fun _ => ?_) (fun _ => ?_) | refine J.ret (ends _ trivial rfl ?_) | fail) | ((with_reducible apply iJK); first | refine JK.code ?_ | refine JK.blk ?_ | refine JK.loop ?_ | refine JK.begin ?_ | refine JK.more ?_ | fail) | ((with_reducible apply iEnt); first | exact Ent.nil | ((with_reducible apply iERow); refine Ent.row ?_ ?_) | ((with_reducible apply iEBox); first | refine Ent.box ?_ ?_ | refine Ent.box2 ?_ ?_) | ((with_reducible apply iEBlk); refine Ent.blk ?_ ?_) | ((with_reducible apply iEPure); refine Ent.pure ?_ ?_) | ((with_reducible apply iERdR); first | refine Ent.rdR ?_ | refine Ent.any ?_ | fail) | refine Ent.any ?_ | with_reducible exact Ent.refl | refine Ent.rdrUp ?_ ?_ | fail) | ((with_reducible apply iEq); with_reducible rfl) | fail)
  all_goals first
    | omega
    | (simp only [List.length_append, List.length_cons, List.length_nil]; omega)
end Go.SL

/- The drawing of letters in a row: l13Runes, l13Words. -/
set_option linter.unusedVariables false
set_option linter.unusedSimpArgs false
namespace Go.SL
open Go.RowKit Go.Proofs
set_option maxRecDepth 100000 in
set_option maxHeartbeats 8000000 in
theorem l13Runes_c (b : Nat) (v : Value) (l : List UInt8) (N : Nat) (hN : N ≤ 800000) : Spec Tryz.prog 19 [.pointer (some ⟨b, 0, none⟩)] [rd eByte v l] [rdr b v N] (fun q : Value × List Int => q.1) (fun q => [row eInt 3 q.1 q.2, rdr b v (N + 300)]) (fun q => q.2.length ≤ 80) := by
  refine Spec.mk Tryz.func19 rfl Tryz.ntmps19 rfl ?_
  intro w0 O hR hS0
  have hr := hR _ List.mem_cons_self; clear hR hS0
  repeat' (first | ((with_reducible apply iOJ); first | ((with_reducible apply iOp); refine OJ.p ?_) | with_reducible apply OJ.nil | ((with_reducible apply iOg); first | refine OJ.guardY ?_ | refine OJ.guardN ?_ | refine OJ.guardNd ?_ | refine OJ.guardU ?_ | refine OJ.guardS (fun _ => ?_) (fun _ => ?_) | fail) | ((with_reducible apply iOstore); first | (refine OJ.as AS.store ?_; rintro _ _ rfl) | (refine OJ.as AS.storeA ?_; rintro _ _ rfl) | (refine OJ.as AS.storeAV ?_; rintro _ _ rfl) | (refine OJ.as AS.storeE ?_; rintro _ _ rfl) | (refine OJ.as AS.storeEA ?_; rintro _ _ rfl) | (refine OJ.as AS.storeP ?_; rintro _ _ rfl) | fail) | ((with_reducible apply iOcall); first | (refine OJ.as AS.append1 ?_; rintro _ _ rfl) | (refine OJ.as AS.append ?_; rintro _ _ rfl) | (refine OJ.as (AS.call1 (pick_c b v l _ _ ?_ ?_)) ?_; rotate_right; rintro _ _ ⟨y, hy, rfl, rfl⟩) | fail) | ((with_reducible apply iObox); first | (refine OJ.as AS.box1 ?_; rintro _ _ ⟨_, rfl, rfl⟩) | (refine OJ.as AS.boxA ?_; rintro _ _ ⟨_, rfl, rfl⟩) | fail) | ((with_reducible apply iOalloc); first | (refine OJ.as AS.alloc ?_; rintro _ _ ⟨_, rfl, rfl⟩) | fail) | ((with_reducible apply iObuildSlice); first | (refine OJ.as AS.buildSlice ?_; rintro _ _ ⟨_, rfl, rfl⟩) | fail) | ((with_reducible apply iOmakeSlice); first | (refine OJ.as AS.makeSlice ?_; rintro _ _ rfl) | fail) | ((with_reducible apply iOmakeMap); first | (refine OJ.as AS.makeMap ?_; rintro _ _ ⟨_, rfl, rfl⟩) | fail) | ((with_reducible apply iOmapEntry); first | (refine OJ.as AS.mapEntry ?_; rintro _ _ ⟨_, _, rfl, rfl⟩) | fail) | ((with_reducible apply iOentryStore); first | (refine OJ.as AS.entryStore ?_; rintro _ _ rfl) | fail) | ((with_reducible apply iOinsert); first | (refine OJ.as AS.insert ?_; rintro _ _ rfl) | fail) | ((with_reducible apply iOmapUpdate); first | (refine OJ.as AS.mapUpdate ?_; rintro _ _ rfl) | fail) | refine OJ.unboxP fun _ => ?_ | fail) | ((with_reducible apply iJ); first | refine J.seq ?_ | refine J.region ?_ | refine J.block ?_ | refine J.skip ?_ | refine J.exit ?_ | refine J.condT ?_ | refine J.condF ?_ | refine J.cond (fun _ => ?_) (fun _ => ?_) | fail) | ((with_reducible apply iJK); first | refine JK.code ?_ | refine JK.blk ?_ | refine JK.loop ?_ | refine JK.begin ?_ | refine JK.more ?_ | fail) | ((with_reducible apply iEnt); first | exact Ent.nil | ((with_reducible apply iERow); refine Ent.row ?_ ?_) | ((with_reducible apply iEBox); first | refine Ent.box ?_ ?_ | refine Ent.box2 ?_ ?_) | ((with_reducible apply iEBlk); refine Ent.blk ?_ ?_) | ((with_reducible apply iEPure); refine Ent.pure ?_ ?_) | ((with_reducible apply iERdR); first | refine Ent.rdR ?_ | refine Ent.any ?_ | fail) | refine Ent.any ?_ | with_reducible exact Ent.refl | fail) | ((with_reducible apply iEq); with_reducible rfl) | fail)
  · refine J.loopW (fun (acc : List Int) (n : Int) (_ : Value) => acc.length + n ≤ 23 ∧ 0 ≤ n) (fun acc => 30 - acc.length) (fun acc n u => [(3, u), (4, .int .i64 n), (0, .pointer (some ⟨b, 0, none⟩))]) (fun acc _ u => [row eInt 3 u acc, rdr b v (N + 1 + 2 * acc.length)]) [] y _ ⟨by simp; omega, by omega⟩ ?_ (hL := by refine Ent.rowL ?_; refine Ent.rdrUp Ent.nil ?_; simp)
    rintro acc n u ⟨ha, h0⟩ ih
    repeat' (first | ((with_reducible apply iOJ); first | ((with_reducible apply iOp); refine OJ.p ?_) | with_reducible apply OJ.nil | ((with_reducible apply iOg); first | refine OJ.guardY ?_ | refine OJ.guardN ?_ | refine OJ.guardNd ?_ | refine OJ.guardU ?_ | refine OJ.guardS (fun _ => ?_) (fun _ => ?_) | fail) | ((with_reducible apply iOstore); first | (refine OJ.as AS.store ?_; rintro _ _ rfl) | (refine OJ.as AS.storeA ?_; rintro _ _ rfl) | (refine OJ.as AS.storeAV ?_; rintro _ _ rfl) | (refine OJ.as AS.storeE ?_; rintro _ _ rfl) | (refine OJ.as AS.storeEA ?_; rintro _ _ rfl) | (refine OJ.as AS.storeP ?_; rintro _ _ rfl) | fail) | ((with_reducible apply iOcall); first | (refine OJ.as AS.append1 ?_; rintro _ _ rfl) | (refine OJ.as AS.append ?_; rintro _ _ rfl) | (refine OJ.as (AS.call1 (pick_c b v l _ _ ?_ ?_)) ?_; rotate_right; rintro _ _ ⟨y, hy, rfl, rfl⟩) | (refine OJ.as (AS.call1 (l13Rune_c b v l _ ?_)) ?_; rotate_right; rintro _ _ ⟨y, hy, rfl, rfl⟩) | fail) | ((with_reducible apply iObox); first | (refine OJ.as AS.box1 ?_; rintro _ _ ⟨_, rfl, rfl⟩) | (refine OJ.as AS.boxA ?_; rintro _ _ ⟨_, rfl, rfl⟩) | fail) | ((with_reducible apply iOalloc); first | (refine OJ.as AS.alloc ?_; rintro _ _ ⟨_, rfl, rfl⟩) | fail) | ((with_reducible apply iObuildSlice); first | (refine OJ.as AS.buildSlice ?_; rintro _ _ ⟨_, rfl, rfl⟩) | fail) | ((with_reducible apply iOmakeSlice); first | (refine OJ.as AS.makeSlice ?_; rintro _ _ rfl) | fail) | ((with_reducible apply iOmakeMap); first | (refine OJ.as AS.makeMap ?_; rintro _ _ ⟨_, rfl, rfl⟩) | fail) | ((with_reducible apply iOmapEntry); first | (refine OJ.as AS.mapEntry ?_; rintro _ _ ⟨_, _, rfl, rfl⟩) | fail) | ((with_reducible apply iOentryStore); first | (refine OJ.as AS.entryStore ?_; rintro _ _ rfl) | fail) | ((with_reducible apply iOinsert); first | (refine OJ.as AS.insert ?_; rintro _ _ rfl) | fail) | ((with_reducible apply iOmapUpdate); first | (refine OJ.as AS.mapUpdate ?_; rintro _ _ rfl) | fail) | refine OJ.unboxP fun _ => ?_ | fail) | ((with_reducible apply iJ); first | refine J.seq ?_ | refine J.region ?_ | refine J.block ?_ | refine J.skip ?_ | refine J.exit ?_ | refine J.condT ?_ | refine J.condF ?_ | refine J.cond (fun _ => ?_) (fun _ => ?_) | refine J.ret (ends (u, acc) ?_ rfl ?_) | fail) | ((with_reducible apply iJK); first | refine JK.code ?_ | refine JK.blk ?_ | refine JK.loop ?_ | refine JK.begin ?_ | refine JK.more ?_ | fail) | ((with_reducible apply iJL); first | refine JL.useL (ih ?_ _ _ ?_ ?_) ?_ | fail) | ((with_reducible apply iEnt); first | exact Ent.nil | ((with_reducible apply iERow); refine Ent.row ?_ ?_) | ((with_reducible apply iEBox); first | refine Ent.box ?_ ?_ | refine Ent.box2 ?_ ?_) | ((with_reducible apply iEBlk); refine Ent.blk ?_ ?_) | ((with_reducible apply iEPure); refine Ent.pure ?_ ?_) | ((with_reducible apply iERdR); first | refine Ent.rdR ?_ | refine Ent.any ?_ | fail) | refine Ent.any ?_ | with_reducible exact Ent.refl | refine Ent.rdrUp ?_ ?_ | fail) | ((with_reducible apply iEq); with_reducible rfl) | fail)
    all_goals clear ih
    all_goals try simp only [List.length_append, List.length_cons, List.length_nil]
    all_goals first
      | omega
      | exact ⟨by omega, by omega⟩
      | skip
    refine J.loopW (fun (acc : List Int) (_ : Unit) (_ : Value) => acc.length ≤ 80) (fun acc => 81 - acc.length) (fun acc _ u => [(3, u), (0, .pointer (some ⟨b, 0, none⟩))]) (fun acc _ u => [row eInt 3 u acc, rdr b v (N + 60 + 1 * acc.length)]) acc () _ (by omega) ?_ (hL := by refine Ent.rowL ?_; refine Ent.rdrUp Ent.nil ?_; omega)
    rintro acc _ u ha ih
    repeat' (first | ((with_reducible apply iOJ); first | ((with_reducible apply iOp); refine OJ.p ?_) | with_reducible apply OJ.nil | ((with_reducible apply iOg); first | refine OJ.guardY ?_ | refine OJ.guardN ?_ | refine OJ.guardNd ?_ | refine OJ.guardU ?_ | refine OJ.guardS (fun _ => ?_) (fun _ => ?_) | fail) | ((with_reducible apply iOstore); first | (refine OJ.as AS.store ?_; rintro _ _ rfl) | (refine OJ.as AS.storeA ?_; rintro _ _ rfl) | (refine OJ.as AS.storeAV ?_; rintro _ _ rfl) | (refine OJ.as AS.storeE ?_; rintro _ _ rfl) | (refine OJ.as AS.storeEA ?_; rintro _ _ rfl) | (refine OJ.as AS.storeP ?_; rintro _ _ rfl) | fail) | ((with_reducible apply iOcall); first | (refine OJ.as AS.append1 ?_; rintro _ _ rfl) | (refine OJ.as AS.append ?_; rintro _ _ rfl) | (refine OJ.as (AS.call1 (one_c b v _ l _ _ ?_ ?_)) ?_; rotate_right; rintro _ _ ⟨y, hy, rfl, rfl⟩) | fail) | ((with_reducible apply iObox); first | (refine OJ.as AS.box1 ?_; rintro _ _ ⟨_, rfl, rfl⟩) | (refine OJ.as AS.boxA ?_; rintro _ _ ⟨_, rfl, rfl⟩) | fail) | ((with_reducible apply iOalloc); first | (refine OJ.as AS.alloc ?_; rintro _ _ ⟨_, rfl, rfl⟩) | fail) | ((with_reducible apply iObuildSlice); first | (refine OJ.as AS.buildSlice ?_; rintro _ _ ⟨_, rfl, rfl⟩) | fail) | ((with_reducible apply iOmakeSlice); first | (refine OJ.as AS.makeSlice ?_; rintro _ _ rfl) | fail) | ((with_reducible apply iOmakeMap); first | (refine OJ.as AS.makeMap ?_; rintro _ _ ⟨_, rfl, rfl⟩) | fail) | ((with_reducible apply iOmapEntry); first | (refine OJ.as AS.mapEntry ?_; rintro _ _ ⟨_, _, rfl, rfl⟩) | fail) | ((with_reducible apply iOentryStore); first | (refine OJ.as AS.entryStore ?_; rintro _ _ rfl) | fail) | ((with_reducible apply iOinsert); first | (refine OJ.as AS.insert ?_; rintro _ _ rfl) | fail) | ((with_reducible apply iOmapUpdate); first | (refine OJ.as AS.mapUpdate ?_; rintro _ _ rfl) | fail) | refine OJ.unboxP fun _ => ?_ | fail) | ((with_reducible apply iJ); first | refine J.seq ?_ | refine J.region ?_ | refine J.block ?_ | refine J.skip ?_ | refine J.exit ?_ | refine J.condT ?_ | refine J.condF ?_ | refine J.cond (fun _ => ?_) (fun _ => ?_) | refine J.ret (ends (u, acc) ?_ rfl ?_) | fail) | ((with_reducible apply iJK); first | refine JK.code ?_ | refine JK.blk ?_ | refine JK.loop ?_ | refine JK.begin ?_ | refine JK.more ?_ | fail) | ((with_reducible apply iJL); first | refine JL.useL (ih ?_ () _ ?_ ?_) ?_ | fail) | ((with_reducible apply iEnt); first | exact Ent.nil | ((with_reducible apply iERow); refine Ent.row ?_ ?_) | ((with_reducible apply iEBox); first | refine Ent.box ?_ ?_ | refine Ent.box2 ?_ ?_) | ((with_reducible apply iEBlk); refine Ent.blk ?_ ?_) | ((with_reducible apply iEPure); refine Ent.pure ?_ ?_) | ((with_reducible apply iERdR); first | refine Ent.rdR ?_ | refine Ent.any ?_ | fail) | refine Ent.any ?_ | with_reducible exact Ent.refl | refine Ent.rdrUp ?_ ?_ | fail) | ((with_reducible apply iEq); with_reducible rfl) | fail)
    all_goals clear ih
    all_goals try simp only [List.length_append, List.length_cons, List.length_nil]
    all_goals omega
  all_goals omega
set_option maxRecDepth 100000 in
set_option maxHeartbeats 8000000 in
theorem l13Words_c (b : Nat) (v : Value) (l : List UInt8) (N : Nat) (hN : N ≤ 700000) : Spec Tryz.prog 61 [.pointer (some ⟨b, 0, none⟩)] [rd eByte v l] [rdr b v N] (fun q : Value × List Int => q.1) (fun q => [row eInt 3 q.1 q.2, rdr b v (N + 400)]) (fun q => q.2.length ≤ 80) := by
  refine Spec.mk Tryz.func61 rfl Tryz.ntmps61 rfl ?_
  intro w0 O hR hS0
  have hr := hR _ List.mem_cons_self; clear hR hS0
  repeat' (first | ((with_reducible apply iOJ); first | ((with_reducible apply iOp); refine OJ.p ?_) | with_reducible apply OJ.nil | ((with_reducible apply iOg); first | refine OJ.guardY ?_ | refine OJ.guardN ?_ | refine OJ.guardNd ?_ | refine OJ.guardU ?_ | refine OJ.guardS (fun _ => ?_) (fun _ => ?_) | fail) | ((with_reducible apply iOstore); first | (refine OJ.as AS.store ?_; rintro _ _ rfl) | (refine OJ.as AS.storeA ?_; rintro _ _ rfl) | (refine OJ.as AS.storeAV ?_; rintro _ _ rfl) | (refine OJ.as AS.storeE ?_; rintro _ _ rfl) | (refine OJ.as AS.storeEA ?_; rintro _ _ rfl) | (refine OJ.as AS.storeP ?_; rintro _ _ rfl) | fail) | ((with_reducible apply iOcall); first | (refine OJ.as AS.append1 ?_; rintro _ _ rfl) | (refine OJ.as AS.append ?_; rintro _ _ rfl) | (refine OJ.as (AS.call1 (pick_c b v l _ _ ?_ ?_)) ?_; rotate_right; rintro _ _ ⟨y, hy, rfl, rfl⟩) | (refine OJ.as (AS.call2 (l13Runes_c b v l _ ?_)) ?_; rotate_right; rintro _ _ ⟨y, hy, rfl, rfl⟩) | fail) | ((with_reducible apply iObox); first | (refine OJ.as AS.box1 ?_; rintro _ _ ⟨_, rfl, rfl⟩) | (refine OJ.as AS.boxA ?_; rintro _ _ ⟨_, rfl, rfl⟩) | fail) | ((with_reducible apply iOalloc); first | (refine OJ.as AS.alloc ?_; rintro _ _ ⟨_, rfl, rfl⟩) | fail) | ((with_reducible apply iObuildSlice); first | (refine OJ.as AS.buildSlice ?_; rintro _ _ ⟨_, rfl, rfl⟩) | fail) | ((with_reducible apply iOmakeSlice); first | (refine OJ.as AS.makeSlice ?_; rintro _ _ rfl) | fail) | ((with_reducible apply iOmakeMap); first | (refine OJ.as AS.makeMap ?_; rintro _ _ ⟨_, rfl, rfl⟩) | fail) | ((with_reducible apply iOmapEntry); first | (refine OJ.as AS.mapEntry ?_; rintro _ _ ⟨_, _, rfl, rfl⟩) | fail) | ((with_reducible apply iOentryStore); first | (refine OJ.as AS.entryStore ?_; rintro _ _ rfl) | fail) | ((with_reducible apply iOinsert); first | (refine OJ.as AS.insert ?_; rintro _ _ rfl) | fail) | ((with_reducible apply iOmapUpdate); first | (refine OJ.as AS.mapUpdate ?_; rintro _ _ rfl) | fail) | refine OJ.unboxP fun _ => ?_ | fail) | ((with_reducible apply iJ); first | refine J.seq ?_ | refine J.region ?_ | refine J.block ?_ | refine J.skip ?_ | refine J.exit ?_ | refine J.condT ?_ | refine J.condF ?_ | refine J.cond (fun _ => ?_) (fun _ => ?_) | refine J.ret (ends (_, ?_) ?_ rfl ?_) | fail) | ((with_reducible apply iJK); first | refine JK.code ?_ | refine JK.blk ?_ | refine JK.loop ?_ | refine JK.begin ?_ | refine JK.more ?_ | fail) | ((with_reducible apply iEnt); first | exact Ent.nil | ((with_reducible apply iERow); refine Ent.row ?_ ?_) | ((with_reducible apply iEBox); first | refine Ent.box ?_ ?_ | refine Ent.box2 ?_ ?_) | ((with_reducible apply iEBlk); refine Ent.blk ?_ ?_) | ((with_reducible apply iEPure); refine Ent.pure ?_ ?_) | ((with_reducible apply iERdR); first | refine Ent.rdR ?_ | refine Ent.any ?_ | fail) | refine Ent.any ?_ | with_reducible exact Ent.refl | refine Ent.rdrUp ?_ ?_ | fail) | ((with_reducible apply iEq); with_reducible rfl) | fail)
  all_goals first | omega | assumption | skip
  refine J.loopW (fun (acc : List Int) (n : Int) (_ : Value) => acc.length + 5 * n ≤ 45 ∧ 0 ≤ n) (fun acc => 50 - acc.length) (fun acc n u => [(3, u), (4, .int .i64 n), (0, .pointer (some ⟨b, 0, none⟩))]) (fun acc _ u => [row eInt 3 u acc, rdr b v (N + 2 + 3 * acc.length)]) [] (1 + y) _ ⟨by simp; omega, by omega⟩ ?_ (hL := by refine Ent.rowL ?_; refine Ent.rdrUp Ent.nil ?_; simp; try omega)
  rintro acc n u ⟨ha, h0⟩ ih
  repeat' (first | ((with_reducible apply iOJ); first | ((with_reducible apply iOp); refine OJ.p ?_) | with_reducible apply OJ.nil | ((with_reducible apply iOg); first | refine OJ.guardY ?_ | refine OJ.guardN ?_ | refine OJ.guardNd ?_ | refine OJ.guardU ?_ | refine OJ.guardS (fun _ => ?_) (fun _ => ?_) | fail) | ((with_reducible apply iOstore); first | (refine OJ.as AS.store ?_; rintro _ _ rfl) | (refine OJ.as AS.storeA ?_; rintro _ _ rfl) | (refine OJ.as AS.storeAV ?_; rintro _ _ rfl) | (refine OJ.as AS.storeE ?_; rintro _ _ rfl) | (refine OJ.as AS.storeEA ?_; rintro _ _ rfl) | (refine OJ.as AS.storeP ?_; rintro _ _ rfl) | fail) | ((with_reducible apply iOcall); first | (refine OJ.as AS.append1 ?_; rintro _ _ rfl) | (refine OJ.as AS.append ?_; rintro _ _ rfl) | (refine OJ.as (AS.call1 (pick_c b v l _ _ ?_ ?_)) ?_; rotate_right; rintro _ _ ⟨y, hy, rfl, rfl⟩) | fail) | ((with_reducible apply iObox); first | (refine OJ.as AS.box1 ?_; rintro _ _ ⟨_, rfl, rfl⟩) | (refine OJ.as AS.boxA ?_; rintro _ _ ⟨_, rfl, rfl⟩) | fail) | ((with_reducible apply iOalloc); first | (refine OJ.as AS.alloc ?_; rintro _ _ ⟨_, rfl, rfl⟩) | fail) | ((with_reducible apply iObuildSlice); first | (refine OJ.as AS.buildSlice ?_; rintro _ _ ⟨_, rfl, rfl⟩) | fail) | ((with_reducible apply iOmakeSlice); first | (refine OJ.as AS.makeSlice ?_; rintro _ _ rfl) | fail) | ((with_reducible apply iOmakeMap); first | (refine OJ.as AS.makeMap ?_; rintro _ _ ⟨_, rfl, rfl⟩) | fail) | ((with_reducible apply iOmapEntry); first | (refine OJ.as AS.mapEntry ?_; rintro _ _ ⟨_, _, rfl, rfl⟩) | fail) | ((with_reducible apply iOentryStore); first | (refine OJ.as AS.entryStore ?_; rintro _ _ rfl) | fail) | ((with_reducible apply iOinsert); first | (refine OJ.as AS.insert ?_; rintro _ _ rfl) | fail) | ((with_reducible apply iOmapUpdate); first | (refine OJ.as AS.mapUpdate ?_; rintro _ _ rfl) | fail) | refine OJ.unboxP fun _ => ?_ | fail) | ((with_reducible apply iJ); first | refine J.seq ?_ | refine J.region ?_ | refine J.block ?_ | refine J.skip ?_ | refine J.exit ?_ | refine J.condT ?_ | refine J.condF ?_ | refine J.cond (fun _ => ?_) (fun _ => ?_) | refine J.ret (ends (u, acc) ?_ rfl ?_) | fail) | ((with_reducible apply iJK); first | refine JK.code ?_ | refine JK.blk ?_ | refine JK.loop ?_ | refine JK.begin ?_ | refine JK.more ?_ | fail) | ((with_reducible apply iEnt); first | exact Ent.nil | ((with_reducible apply iERow); refine Ent.row ?_ ?_) | ((with_reducible apply iEBox); first | refine Ent.box ?_ ?_ | refine Ent.box2 ?_ ?_) | ((with_reducible apply iEBlk); refine Ent.blk ?_ ?_) | ((with_reducible apply iEPure); refine Ent.pure ?_ ?_) | ((with_reducible apply iERdR); first | refine Ent.rdR ?_ | refine Ent.any ?_ | fail) | refine Ent.any ?_ | with_reducible exact Ent.refl | refine Ent.rdrUp ?_ ?_ | fail) | ((with_reducible apply iEq); with_reducible rfl) | fail)
  all_goals first | omega | (show List.length _ ≤ 80; omega) | skip
  refine J.loopW (fun (acc2 : List Int) (m : Int) (_ : Value) => acc2.length + m ≤ acc.length + 4 ∧ acc.length ≤ acc2.length ∧ 0 ≤ m) (fun acc => 60 - acc.length) (fun acc m u => [(3, u), (5, .int .i64 m), (4, .int .i64 n), (0, .pointer (some ⟨b, 0, none⟩))]) (fun acc2 _ u => [row eInt 3 u acc2, rdr b v (N + 2 + 3 * acc.length + 1 + (acc2.length - acc.length))]) acc (1 + y) _ ⟨by omega, by omega, by omega⟩ ?_ (hL := by refine Ent.rowL ?_; refine Ent.rdrUp Ent.nil ?_; omega)
  rintro acc2 m u2 ⟨ha2, h2, h02⟩ ih2
  repeat' (first | ((with_reducible apply iOJ); first | ((with_reducible apply iOp); refine OJ.p ?_) | with_reducible apply OJ.nil | ((with_reducible apply iOg); first | refine OJ.guardY ?_ | refine OJ.guardN ?_ | refine OJ.guardNd ?_ | refine OJ.guardU ?_ | refine OJ.guardS (fun _ => ?_) (fun _ => ?_) | fail) | ((with_reducible apply iOstore); first | (refine OJ.as AS.store ?_; rintro _ _ rfl) | (refine OJ.as AS.storeA ?_; rintro _ _ rfl) | (refine OJ.as AS.storeAV ?_; rintro _ _ rfl) | (refine OJ.as AS.storeE ?_; rintro _ _ rfl) | (refine OJ.as AS.storeEA ?_; rintro _ _ rfl) | (refine OJ.as AS.storeP ?_; rintro _ _ rfl) | fail) | ((with_reducible apply iOcall); first | (refine OJ.as AS.append1 ?_; rintro _ _ rfl) | (refine OJ.as AS.append ?_; rintro _ _ rfl) | (refine OJ.as (AS.call1 (one_c b v _ l _ _ ?_ ?_)) ?_; rotate_right; rintro _ _ ⟨y, hy, rfl, rfl⟩) | fail) | ((with_reducible apply iObox); first | (refine OJ.as AS.box1 ?_; rintro _ _ ⟨_, rfl, rfl⟩) | (refine OJ.as AS.boxA ?_; rintro _ _ ⟨_, rfl, rfl⟩) | fail) | ((with_reducible apply iOalloc); first | (refine OJ.as AS.alloc ?_; rintro _ _ ⟨_, rfl, rfl⟩) | fail) | ((with_reducible apply iObuildSlice); first | (refine OJ.as AS.buildSlice ?_; rintro _ _ ⟨_, rfl, rfl⟩) | fail) | ((with_reducible apply iOmakeSlice); first | (refine OJ.as AS.makeSlice ?_; rintro _ _ rfl) | fail) | ((with_reducible apply iOmakeMap); first | (refine OJ.as AS.makeMap ?_; rintro _ _ ⟨_, rfl, rfl⟩) | fail) | ((with_reducible apply iOmapEntry); first | (refine OJ.as AS.mapEntry ?_; rintro _ _ ⟨_, _, rfl, rfl⟩) | fail) | ((with_reducible apply iOentryStore); first | (refine OJ.as AS.entryStore ?_; rintro _ _ rfl) | fail) | ((with_reducible apply iOinsert); first | (refine OJ.as AS.insert ?_; rintro _ _ rfl) | fail) | ((with_reducible apply iOmapUpdate); first | (refine OJ.as AS.mapUpdate ?_; rintro _ _ rfl) | fail) | refine OJ.unboxP fun _ => ?_ | fail) | ((with_reducible apply iJ); first | refine J.seq ?_ | refine J.region ?_ | refine J.block ?_ | refine J.skip ?_ | refine J.exit ?_ | refine J.condT ?_ | refine J.condF ?_ | refine J.cond (fun _ => ?_) (fun _ => ?_) | fail) | ((with_reducible apply iJK); first | refine JK.code ?_ | refine JK.blk ?_ | refine JK.loop ?_ | refine JK.begin ?_ | refine JK.more ?_ | fail) | ((with_reducible apply iJL); first | refine JL.useL (ih2 ?_ _ _ ?_ ?_) ?_ | refine JL.useL (ih ?_ _ _ ?_ ?_) ?_ | fail) | ((with_reducible apply iEnt); first | exact Ent.nil | ((with_reducible apply iERow); refine Ent.row ?_ ?_) | ((with_reducible apply iEBox); first | refine Ent.box ?_ ?_ | refine Ent.box2 ?_ ?_) | ((with_reducible apply iEBlk); refine Ent.blk ?_ ?_) | ((with_reducible apply iEPure); refine Ent.pure ?_ ?_) | ((with_reducible apply iERdR); first | refine Ent.rdR ?_ | refine Ent.any ?_ | fail) | refine Ent.any ?_ | with_reducible exact Ent.refl | refine Ent.rdrUp ?_ ?_ | fail) | ((with_reducible apply iEq); with_reducible rfl) | fail)
  all_goals try clear ih2
  all_goals clear ih
  all_goals try simp only [List.length_append, List.length_cons, List.length_nil]
  all_goals first
    | omega
    | exact ⟨by omega, by omega⟩
    | exact ⟨by omega, by omega, by omega⟩
end Go.SL

/- The drawing of spans. -/
set_option linter.unusedVariables false
set_option linter.unusedSimpArgs false
namespace Go.SL
open Go.RowKit Go.Proofs
set_option maxRecDepth 100000 in
set_option maxHeartbeats 4000000 in
theorem l13Spans_c (b : Nat) (v : Value) (l : List UInt8) (N : Nat) (c : Int) (hN : N ≤ 900000) (hc : 0 ≤ c ∧ c ≤ 1000) : Spec Tryz.prog 62 [.pointer (some ⟨b, 0, none⟩), .int .i64 c] [rd eByte v l] [rdr b v N] (fun q : Value × List Span => q.1) (fun q => [row eSpan 62 q.1 q.2, rdr b v (N + 100)]) (fun q => q.2.length ≤ 12) := by
  refine Spec.mk Tryz.func62 rfl Tryz.ntmps62 rfl ?_
  intro w0 O hR hS0
  have hr := hR _ List.mem_cons_self; clear hR hS0
  repeat' (first | ((with_reducible apply iOJ); first | ((with_reducible apply iOp); refine OJ.p ?_) | with_reducible apply OJ.nil | ((with_reducible apply iOg); first | refine OJ.guardY ?_ | refine OJ.guardN ?_ | refine OJ.guardNd ?_ | refine OJ.guardU ?_ | refine OJ.guardS (fun _ => ?_) (fun _ => ?_) | fail) | ((with_reducible apply iOstore); first | (refine OJ.as AS.store ?_; rintro _ _ rfl) | (refine OJ.as AS.storeA ?_; rintro _ _ rfl) | (refine OJ.as AS.storeAV ?_; rintro _ _ rfl) | (refine OJ.as AS.storeE ?_; rintro _ _ rfl) | (refine OJ.as AS.storeEA ?_; rintro _ _ rfl) | (refine OJ.as AS.storeP ?_; rintro _ _ rfl) | fail) | ((with_reducible apply iOcall); first | (refine OJ.as AS.append1 ?_; rintro _ _ rfl) | (refine OJ.as AS.append ?_; rintro _ _ rfl) | (refine OJ.as (AS.call1 (pick_c b v l _ _ ?_ ?_)) ?_; rotate_right; rintro _ _ ⟨y, hy, rfl, rfl⟩) | fail) | ((with_reducible apply iObox); first | (refine OJ.as AS.box1 ?_; rintro _ _ ⟨_, rfl, rfl⟩) | (refine OJ.as AS.boxA ?_; rintro _ _ ⟨_, rfl, rfl⟩) | fail) | ((with_reducible apply iOalloc); first | (refine OJ.as AS.alloc ?_; rintro _ _ ⟨_, rfl, rfl⟩) | fail) | ((with_reducible apply iObuildSlice); first | (refine OJ.as AS.buildSlice ?_; rintro _ _ ⟨_, rfl, rfl⟩) | fail) | ((with_reducible apply iOmakeSlice); first | (refine OJ.as AS.makeSlice ?_; rintro _ _ rfl) | fail) | ((with_reducible apply iOmakeMap); first | (refine OJ.as AS.makeMap ?_; rintro _ _ ⟨_, rfl, rfl⟩) | fail) | ((with_reducible apply iOmapEntry); first | (refine OJ.as AS.mapEntry ?_; rintro _ _ ⟨_, _, rfl, rfl⟩) | fail) | ((with_reducible apply iOentryStore); first | (refine OJ.as AS.entryStore ?_; rintro _ _ rfl) | fail) | ((with_reducible apply iOinsert); first | (refine OJ.as AS.insert ?_; rintro _ _ rfl) | fail) | ((with_reducible apply iOmapUpdate); first | (refine OJ.as AS.mapUpdate ?_; rintro _ _ rfl) | fail) | refine OJ.unboxP fun _ => ?_ | fail) | ((with_reducible apply iJ); first | refine J.seq ?_ | refine J.region ?_ | refine J.block ?_ | refine J.skip ?_ | refine J.exit ?_ | refine J.condT ?_ | refine J.condF ?_ | refine J.cond (fun _ => ?_) (fun _ => ?_) | fail) | ((with_reducible apply iJK); first | refine JK.code ?_ | refine JK.blk ?_ | refine JK.loop ?_ | refine JK.begin ?_ | refine JK.more ?_ | fail) | ((with_reducible apply iEnt); first | exact Ent.nil | ((with_reducible apply iERow); refine Ent.row ?_ ?_) | ((with_reducible apply iEBox); first | refine Ent.box ?_ ?_ | refine Ent.box2 ?_ ?_) | ((with_reducible apply iEBlk); refine Ent.blk ?_ ?_) | ((with_reducible apply iEPure); refine Ent.pure ?_ ?_) | ((with_reducible apply iERdR); first | refine Ent.rdR ?_ | refine Ent.any ?_ | fail) | refine Ent.any ?_ | with_reducible exact Ent.refl | fail) | ((with_reducible apply iEq); with_reducible rfl) | fail)
  · have hyy := hy
    refine J.loopW (fun (acc : List Span) (at_ : Int) (u : Value) => acc.length ≤ 12 ∧ 0 ≤ at_ ∧ at_ ≤ c + 4) (fun acc => 13 - acc.length) (fun acc at_ u => [(5, u), (6, .int .i64 at_), (0, .pointer (some ⟨b, 0, none⟩)), (1, .int .i64 c)]) (fun acc _ u => [row eSpan 62 u acc, rdr b v (N + 1 + 5 * acc.length)]) [] y _ ⟨by simp, by omega, by omega⟩ ?_ (hL := by refine Ent.rowL ?_; refine Ent.rdrUp Ent.nil ?_; simp)
    rintro acc at_ u ⟨ha, h0, h1⟩ ih
    repeat' (first | ((with_reducible apply iOJ); first | ((with_reducible apply iOp); refine OJ.p ?_) | with_reducible apply OJ.nil | ((with_reducible apply iOg); first | refine OJ.guardY ?_ | refine OJ.guardN ?_ | refine OJ.guardNd ?_ | refine OJ.guardU ?_ | refine OJ.guardS (fun _ => ?_) (fun _ => ?_) | fail) | ((with_reducible apply iOstore); first | (refine OJ.as AS.store ?_; rintro _ _ rfl) | (refine OJ.as AS.storeA ?_; rintro _ _ rfl) | (refine OJ.as AS.storeAV ?_; rintro _ _ rfl) | (refine OJ.as AS.storeE ?_; rintro _ _ rfl) | (refine OJ.as AS.storeEA ?_; rintro _ _ rfl) | (refine OJ.as AS.storeP ?_; rintro _ _ rfl) | fail) | ((with_reducible apply iOcall); first | (refine OJ.as AS.append1 ?_; rintro _ _ rfl) | (refine OJ.as AS.append ?_; rintro _ _ rfl) | (refine OJ.as (AS.call1 (pick_c b v l _ _ ?_ ?_)) ?_; rotate_right; rintro _ _ ⟨y, hy, rfl, rfl⟩) | fail) | ((with_reducible apply iObox); first | (refine OJ.as AS.box1 ?_; rintro _ _ ⟨_, rfl, rfl⟩) | (refine OJ.as AS.boxA ?_; rintro _ _ ⟨_, rfl, rfl⟩) | fail) | ((with_reducible apply iOalloc); first | (refine OJ.as AS.alloc ?_; rintro _ _ ⟨_, rfl, rfl⟩) | fail) | ((with_reducible apply iObuildSlice); first | (refine OJ.as AS.buildSlice ?_; rintro _ _ ⟨_, rfl, rfl⟩) | fail) | ((with_reducible apply iOmakeSlice); first | (refine OJ.as AS.makeSlice ?_; rintro _ _ rfl) | fail) | ((with_reducible apply iOmakeMap); first | (refine OJ.as AS.makeMap ?_; rintro _ _ ⟨_, rfl, rfl⟩) | fail) | ((with_reducible apply iOmapEntry); first | (refine OJ.as AS.mapEntry ?_; rintro _ _ ⟨_, _, rfl, rfl⟩) | fail) | ((with_reducible apply iOentryStore); first | (refine OJ.as AS.entryStore ?_; rintro _ _ rfl) | fail) | ((with_reducible apply iOinsert); first | (refine OJ.as AS.insert ?_; rintro _ _ rfl) | fail) | ((with_reducible apply iOmapUpdate); first | (refine OJ.as AS.mapUpdate ?_; rintro _ _ rfl) | fail) | refine OJ.unboxP fun _ => ?_ | fail) | ((with_reducible apply iJ); first | refine J.seq ?_ | refine J.region ?_ | refine J.block ?_ | refine J.skip ?_ | refine J.exit ?_ | refine J.condT ?_ | refine J.condF ?_ | refine J.cond (fun _ => ?_) (fun _ => ?_) | refine J.draw ?_ | refine J.ret (ends (u, acc) ?_ rfl ?_) | fail) | ((with_reducible apply iJK); first | refine JK.code ?_ | refine JK.blk ?_ | refine JK.loop ?_ | refine JK.begin ?_ | refine JK.more ?_ | fail) | ((with_reducible apply iAJ); first | refine AJ.rebase ?_ | refine AJ.regain ?_ | refine AJ.take ?_ | refine AJ.takeY ?_ | refine AJ.takeN ?_ | refine AJ.takeNd ?_ | refine AJ.takeNS ?_ | refine AJ.takeU ?_ | refine AJ.sel ?_ | refine AJ.selY ?_ | refine AJ.sel2 ?_ ?_ | refine AJ.split (fun _ => ?_) (fun _ => ?_) | refine AJ.done ?_ | fail) | ((with_reducible apply iAO); first | ((with_reducible apply iAstore); first | (refine AO.as AS.store ?_; rotate_right; rintro _ _ rfl; refine AO.step ?_) | (refine AO.as AS.storeA ?_; rotate_right; rintro _ _ rfl; refine AO.step ?_) | (refine AO.as AS.storeAV ?_; rotate_right; rintro _ _ rfl; refine AO.step ?_) | (refine AO.as AS.storeE ?_; rotate_right; rintro _ _ rfl; refine AO.step ?_) | (refine AO.as AS.storeEA ?_; rotate_right; rintro _ _ rfl; refine AO.step ?_) | (refine AO.as AS.storeP ?_; rotate_right; rintro _ _ rfl; refine AO.step ?_) | fail) | ((with_reducible apply iAcall); first | (refine AO.as AS.append1 ?_; rotate_right; rintro _ _ rfl; refine AO.step ?_) | (refine AO.as AS.append ?_; rotate_right; rintro _ _ rfl; refine AO.step ?_) | (refine AO.as (AS.call1 (pick_c b v l _ _ ?_ ?_)) ?_; rotate_right; rintro _ _ ⟨y, hy, rfl, rfl⟩; refine AO.step ?_) | fail) | ((with_reducible apply iAbox); first | (refine AO.as AS.box1 ?_; rotate_right; rintro _ _ ⟨_, rfl, rfl⟩; refine AO.step ?_) | (refine AO.as AS.boxA ?_; rotate_right; rintro _ _ ⟨_, rfl, rfl⟩; refine AO.step ?_) | fail) | ((with_reducible apply iAalloc); first | (refine AO.as AS.alloc ?_; rotate_right; rintro _ _ ⟨_, rfl, rfl⟩; refine AO.step ?_) | fail) | ((with_reducible apply iAbuildSlice); first | (refine AO.as AS.buildSlice ?_; rotate_right; rintro _ _ ⟨_, rfl, rfl⟩; refine AO.step ?_) | fail) | ((with_reducible apply iAmakeSlice); first | (refine AO.as AS.makeSlice ?_; rotate_right; rintro _ _ rfl; refine AO.step ?_) | fail) | ((with_reducible apply iAmakeMap); first | (refine AO.as AS.makeMap ?_; rotate_right; rintro _ _ ⟨_, rfl, rfl⟩; refine AO.step ?_) | fail) | ((with_reducible apply iAmapEntry); first | (refine AO.as AS.mapEntry ?_; rotate_right; rintro _ _ ⟨_, _, rfl, rfl⟩; refine AO.step ?_) | fail) | ((with_reducible apply iAentryStore); first | (refine AO.as AS.entryStore ?_; rotate_right; rintro _ _ rfl; refine AO.step ?_) | fail) | ((with_reducible apply iAinsert); first | (refine AO.as AS.insert ?_; rotate_right; rintro _ _ rfl; refine AO.step ?_) | fail) | ((with_reducible apply iAmapUpdate); first | (refine AO.as AS.mapUpdate ?_; rotate_right; rintro _ _ rfl; refine AO.step ?_) | fail) | fail) | ((with_reducible apply iJL); first | refine JL.useL (ih ?_ _ _ ?_ ?_) ?_ | fail) | ((with_reducible apply iEnt); first | exact Ent.nil | ((with_reducible apply iERow); refine Ent.row ?_ ?_) | ((with_reducible apply iEBox); first | refine Ent.box ?_ ?_ | refine Ent.box2 ?_ ?_) | ((with_reducible apply iEBlk); refine Ent.blk ?_ ?_) | ((with_reducible apply iEPure); refine Ent.pure ?_ ?_) | ((with_reducible apply iERdR); first | refine Ent.rdR ?_ | refine Ent.any ?_ | fail) | refine Ent.any ?_ | with_reducible exact Ent.refl | refine Ent.rdrUp ?_ ?_ | fail) | ((with_reducible apply iEq); with_reducible rfl) | fail)
    all_goals clear ih hr
    all_goals try simp only [List.length_append, List.length_cons, List.length_nil]
    all_goals first
      | omega
      | exact ⟨by omega, by omega, by omega⟩
  all_goals omega
end Go.SL

/- The drawing of spans that are spoilt, and of any. -/
set_option linter.unusedVariables false
set_option linter.unusedSimpArgs false
namespace Go.SL
open Go.RowKit Go.Proofs
set_option maxRecDepth 100000 in
set_option maxHeartbeats 4000000 in
theorem l13SpoilSpans_c (b : Nat) (v u : Value) (l : List UInt8) (xs : List Span) (N : Nat) (c : Int) (hN : N ≤ 900000) (hc : 0 ≤ c ∧ c ≤ 1000) (hx : xs.length ≤ 12) : Spec Tryz.prog 33 [.pointer (some ⟨b, 0, none⟩), u, .int .i64 c] [rd eByte v l, rd eSpan u xs] [rdr b v N] (fun q : Value × List Span => q.1) (fun q => [row eSpan 62 q.1 q.2, rdr b v (N + 10)]) (fun q => q.2.length ≤ 14) := by
  refine Spec.mk Tryz.func33 rfl Tryz.ntmps33 rfl ?_
  intro w0 O hR hS0
  have hr := hR _ List.mem_cons_self
  have hr2 := hR _ (List.mem_cons_of_mem _ List.mem_cons_self); clear hR hS0
  repeat' (first | ((with_reducible apply iOJ); first | ((with_reducible apply iOp); refine OJ.p ?_) | with_reducible apply OJ.nil | ((with_reducible apply iOg); first | refine OJ.guardY ?_ | refine OJ.guardN ?_ | refine OJ.guardNd ?_ | refine OJ.guardU ?_ | refine OJ.guardS (fun _ => ?_) (fun _ => ?_) | fail) | ((with_reducible apply iOstore); first | (refine OJ.as AS.store ?_; rintro _ _ rfl) | (refine OJ.as AS.storeA ?_; rintro _ _ rfl) | (refine OJ.as AS.storeAV ?_; rintro _ _ rfl) | (refine OJ.as AS.storeE ?_; rintro _ _ rfl) | (refine OJ.as AS.storeEA ?_; rintro _ _ rfl) | (refine OJ.as AS.storeP ?_; rintro _ _ rfl) | fail) | ((with_reducible apply iOcall); first | (refine OJ.as AS.append1 ?_; rintro _ _ rfl) | (refine OJ.as AS.append ?_; rintro _ _ rfl) | (refine OJ.as (AS.call1 (pick_c b v l _ _ ?_ ?_)) ?_; rotate_right; rintro _ _ ⟨y, hy, rfl, rfl⟩) | (refine OJ.as (AS.call1 (one_c b v _ l _ _ ?_ ?_)) ?_; rotate_right; rintro _ _ ⟨y, hy, rfl, rfl⟩) | fail) | ((with_reducible apply iObox); first | (refine OJ.as AS.box1 ?_; rintro _ _ ⟨_, rfl, rfl⟩) | (refine OJ.as AS.boxA ?_; rintro _ _ ⟨_, rfl, rfl⟩) | fail) | ((with_reducible apply iOalloc); first | (refine OJ.as AS.alloc ?_; rintro _ _ ⟨_, rfl, rfl⟩) | fail) | ((with_reducible apply iObuildSlice); first | (refine OJ.as AS.buildSlice ?_; rintro _ _ ⟨_, rfl, rfl⟩) | fail) | ((with_reducible apply iOmakeSlice); first | (refine OJ.as AS.makeSlice ?_; rintro _ _ rfl) | fail) | ((with_reducible apply iOmakeMap); first | (refine OJ.as AS.makeMap ?_; rintro _ _ ⟨_, rfl, rfl⟩) | fail) | ((with_reducible apply iOmapEntry); first | (refine OJ.as AS.mapEntry ?_; rintro _ _ ⟨_, _, rfl, rfl⟩) | fail) | ((with_reducible apply iOentryStore); first | (refine OJ.as AS.entryStore ?_; rintro _ _ rfl) | fail) | ((with_reducible apply iOinsert); first | (refine OJ.as AS.insert ?_; rintro _ _ rfl) | fail) | ((with_reducible apply iOmapUpdate); first | (refine OJ.as AS.mapUpdate ?_; rintro _ _ rfl) | fail) | refine OJ.unboxP fun _ => ?_ | fail) | ((with_reducible apply iJ); first | refine J.seq ?_ | refine J.region ?_ | refine J.block ?_ | refine J.skip ?_ | refine J.exit ?_ | refine J.condT ?_ | refine J.condF ?_ | refine J.cond (fun _ => ?_) (fun _ => ?_) | refine J.draw ?_ | refine J.ret (ends (_, ?_) ?_ rfl ?_) | fail) | ((with_reducible apply iJK); first | refine JK.code ?_ | refine JK.blk ?_ | refine JK.loop ?_ | refine JK.begin ?_ | refine JK.more ?_ | fail) | ((with_reducible apply iAJ); first | refine AJ.rebase ?_ | refine AJ.regain ?_ | refine AJ.take ?_ | refine AJ.takeY ?_ | refine AJ.takeN ?_ | refine AJ.takeNd ?_ | refine AJ.takeNS ?_ | refine AJ.takeU ?_ | refine AJ.sel ?_ | refine AJ.selY ?_ | refine AJ.sel2 ?_ ?_ | refine AJ.split (fun _ => ?_) (fun _ => ?_) | refine AJ.done ?_ | fail) | ((with_reducible apply iAO); first | ((with_reducible apply iAstore); first | (refine AO.as AS.store ?_; rotate_right; rintro _ _ rfl; refine AO.step ?_) | (refine AO.as AS.storeA ?_; rotate_right; rintro _ _ rfl; refine AO.step ?_) | (refine AO.as AS.storeAV ?_; rotate_right; rintro _ _ rfl; refine AO.step ?_) | (refine AO.as AS.storeE ?_; rotate_right; rintro _ _ rfl; refine AO.step ?_) | (refine AO.as AS.storeEA ?_; rotate_right; rintro _ _ rfl; refine AO.step ?_) | (refine AO.as AS.storeP ?_; rotate_right; rintro _ _ rfl; refine AO.step ?_) | fail) | ((with_reducible apply iAcall); first | (refine AO.as AS.append1 ?_; rotate_right; rintro _ _ rfl; refine AO.step ?_) | (refine AO.as AS.append ?_; rotate_right; rintro _ _ rfl; refine AO.step ?_) | fail) | ((with_reducible apply iAbox); first | (refine AO.as AS.box1 ?_; rotate_right; rintro _ _ ⟨_, rfl, rfl⟩; refine AO.step ?_) | (refine AO.as AS.boxA ?_; rotate_right; rintro _ _ ⟨_, rfl, rfl⟩; refine AO.step ?_) | fail) | ((with_reducible apply iAalloc); first | (refine AO.as AS.alloc ?_; rotate_right; rintro _ _ ⟨_, rfl, rfl⟩; refine AO.step ?_) | fail) | ((with_reducible apply iAbuildSlice); first | (refine AO.as AS.buildSlice ?_; rotate_right; rintro _ _ ⟨_, rfl, rfl⟩; refine AO.step ?_) | fail) | ((with_reducible apply iAmakeSlice); first | (refine AO.as AS.makeSlice ?_; rotate_right; rintro _ _ rfl; refine AO.step ?_) | fail) | ((with_reducible apply iAmakeMap); first | (refine AO.as AS.makeMap ?_; rotate_right; rintro _ _ ⟨_, rfl, rfl⟩; refine AO.step ?_) | fail) | ((with_reducible apply iAmapEntry); first | (refine AO.as AS.mapEntry ?_; rotate_right; rintro _ _ ⟨_, _, rfl, rfl⟩; refine AO.step ?_) | fail) | ((with_reducible apply iAentryStore); first | (refine AO.as AS.entryStore ?_; rotate_right; rintro _ _ rfl; refine AO.step ?_) | fail) | ((with_reducible apply iAinsert); first | (refine AO.as AS.insert ?_; rotate_right; rintro _ _ rfl; refine AO.step ?_) | fail) | ((with_reducible apply iAmapUpdate); first | (refine AO.as AS.mapUpdate ?_; rotate_right; rintro _ _ rfl; refine AO.step ?_) | fail) | fail) | ((with_reducible apply iEnt); first | exact Ent.nil | ((with_reducible apply iERow); refine Ent.row ?_ ?_) | ((with_reducible apply iEBox); first | refine Ent.box ?_ ?_ | refine Ent.box2 ?_ ?_) | ((with_reducible apply iEBlk); refine Ent.blk ?_ ?_) | ((with_reducible apply iEPure); refine Ent.pure ?_ ?_) | ((with_reducible apply iERdR); first | refine Ent.rdR ?_ | refine Ent.any ?_ | fail) | refine Ent.any ?_ | with_reducible exact Ent.refl | refine Ent.rdrUp ?_ ?_ | fail) | ((with_reducible apply iEq); with_reducible rfl) | fail)
  all_goals try clear hr
  all_goals first
    | omega
    | (show List.length _ ≤ 14; simp; omega)
    | (simp only [List.length_append, List.length_cons, List.length_nil]; omega)
    | skip
  rename_i w1 v1 hl k hk h0 h1 h2 h3 h4
  simp only [List.nil_append] at hl hk ⊢
  refine J.loopW (fun (acc : List Span) (_ : Unit) (_ : Value) => acc.length ≤ 13 ∧ k < acc.length) (fun acc => 13 - acc.length) (fun _ _ u => [(7, u), (8, .int .i64 k)]) (fun acc _ u => [rdr b v (N + 1 + 1), row eSpan 62 u acc]) xs () _ ⟨by omega, by omega⟩ ?_ (hL := by refine Ent.rdrUp ?_ ?_; refine Ent.rowL ?_; exact Ent.nil; omega)
  rintro acc _ u' ⟨ha, hka⟩ ih
  repeat' (first | ((with_reducible apply iOJ); first | ((with_reducible apply iOp); refine OJ.p ?_) | with_reducible apply OJ.nil | ((with_reducible apply iOg); first | refine OJ.guardY ?_ | refine OJ.guardN ?_ | refine OJ.guardNd ?_ | refine OJ.guardU ?_ | refine OJ.guardS (fun _ => ?_) (fun _ => ?_) | fail) | ((with_reducible apply iOstore); first | (refine OJ.as AS.store ?_; rintro _ _ rfl) | (refine OJ.as AS.storeA ?_; rintro _ _ rfl) | (refine OJ.as AS.storeAV ?_; rintro _ _ rfl) | (refine OJ.as AS.storeE ?_; rintro _ _ rfl) | (refine OJ.as AS.storeEA ?_; rintro _ _ rfl) | (refine OJ.as AS.storeP ?_; rintro _ _ rfl) | fail) | ((with_reducible apply iOcall); first | (refine OJ.as AS.append1 ?_; rintro _ _ rfl) | (refine OJ.as AS.append ?_; rintro _ _ rfl) | fail) | ((with_reducible apply iObox); first | (refine OJ.as AS.box1 ?_; rintro _ _ ⟨_, rfl, rfl⟩) | (refine OJ.as AS.boxA ?_; rintro _ _ ⟨_, rfl, rfl⟩) | fail) | ((with_reducible apply iOalloc); first | (refine OJ.as AS.alloc ?_; rintro _ _ ⟨_, rfl, rfl⟩) | fail) | ((with_reducible apply iObuildSlice); first | (refine OJ.as AS.buildSlice ?_; rintro _ _ ⟨_, rfl, rfl⟩) | fail) | ((with_reducible apply iOmakeSlice); first | (refine OJ.as AS.makeSlice ?_; rintro _ _ rfl) | fail) | ((with_reducible apply iOmakeMap); first | (refine OJ.as AS.makeMap ?_; rintro _ _ ⟨_, rfl, rfl⟩) | fail) | ((with_reducible apply iOmapEntry); first | (refine OJ.as AS.mapEntry ?_; rintro _ _ ⟨_, _, rfl, rfl⟩) | fail) | ((with_reducible apply iOentryStore); first | (refine OJ.as AS.entryStore ?_; rintro _ _ rfl) | fail) | ((with_reducible apply iOinsert); first | (refine OJ.as AS.insert ?_; rintro _ _ rfl) | fail) | ((with_reducible apply iOmapUpdate); first | (refine OJ.as AS.mapUpdate ?_; rintro _ _ rfl) | fail) | refine OJ.unboxP fun _ => ?_ | fail) | ((with_reducible apply iJ); first | refine J.seq ?_ | refine J.region ?_ | refine J.block ?_ | refine J.skip ?_ | refine J.exit ?_ | refine J.condT ?_ | refine J.condF ?_ | refine J.cond (fun _ => ?_) (fun _ => ?_) | refine J.draw ?_ | refine J.ret (ends (_, ?_) ?_ rfl ?_) | fail) | ((with_reducible apply iJK); first | refine JK.code ?_ | refine JK.blk ?_ | refine JK.loop ?_ | refine JK.begin ?_ | refine JK.more ?_ | fail) | ((with_reducible apply iAJ); first | refine AJ.rebase ?_ | refine AJ.regain ?_ | refine AJ.take ?_ | refine AJ.takeY ?_ | refine AJ.takeN ?_ | refine AJ.takeNd ?_ | refine AJ.takeNS ?_ | refine AJ.takeU ?_ | refine AJ.sel ?_ | refine AJ.selY ?_ | refine AJ.sel2 ?_ ?_ | refine AJ.split (fun _ => ?_) (fun _ => ?_) | refine AJ.done ?_ | fail) | ((with_reducible apply iAO); first | ((with_reducible apply iAstore); first | (refine AO.as AS.store ?_; rotate_right; rintro _ _ rfl; refine AO.step ?_) | (refine AO.as AS.storeA ?_; rotate_right; rintro _ _ rfl; refine AO.step ?_) | (refine AO.as AS.storeAV ?_; rotate_right; rintro _ _ rfl; refine AO.step ?_) | (refine AO.as AS.storeE ?_; rotate_right; rintro _ _ rfl; refine AO.step ?_) | (refine AO.as AS.storeEA ?_; rotate_right; rintro _ _ rfl; refine AO.step ?_) | (refine AO.as AS.storeP ?_; rotate_right; rintro _ _ rfl; refine AO.step ?_) | fail) | ((with_reducible apply iAcall); first | (refine AO.as AS.append1 ?_; rotate_right; rintro _ _ rfl; refine AO.step ?_) | (refine AO.as AS.append ?_; rotate_right; rintro _ _ rfl; refine AO.step ?_) | fail) | ((with_reducible apply iAbox); first | (refine AO.as AS.box1 ?_; rotate_right; rintro _ _ ⟨_, rfl, rfl⟩; refine AO.step ?_) | (refine AO.as AS.boxA ?_; rotate_right; rintro _ _ ⟨_, rfl, rfl⟩; refine AO.step ?_) | fail) | ((with_reducible apply iAalloc); first | (refine AO.as AS.alloc ?_; rotate_right; rintro _ _ ⟨_, rfl, rfl⟩; refine AO.step ?_) | fail) | ((with_reducible apply iAbuildSlice); first | (refine AO.as AS.buildSlice ?_; rotate_right; rintro _ _ ⟨_, rfl, rfl⟩; refine AO.step ?_) | fail) | ((with_reducible apply iAmakeSlice); first | (refine AO.as AS.makeSlice ?_; rotate_right; rintro _ _ rfl; refine AO.step ?_) | fail) | ((with_reducible apply iAmakeMap); first | (refine AO.as AS.makeMap ?_; rotate_right; rintro _ _ ⟨_, rfl, rfl⟩; refine AO.step ?_) | fail) | ((with_reducible apply iAmapEntry); first | (refine AO.as AS.mapEntry ?_; rotate_right; rintro _ _ ⟨_, _, rfl, rfl⟩; refine AO.step ?_) | fail) | ((with_reducible apply iAentryStore); first | (refine AO.as AS.entryStore ?_; rotate_right; rintro _ _ rfl; refine AO.step ?_) | fail) | ((with_reducible apply iAinsert); first | (refine AO.as AS.insert ?_; rotate_right; rintro _ _ rfl; refine AO.step ?_) | fail) | ((with_reducible apply iAmapUpdate); first | (refine AO.as AS.mapUpdate ?_; rotate_right; rintro _ _ rfl; refine AO.step ?_) | fail) | fail) | ((with_reducible apply iJL); first | refine JL.useL (ih ?_ () _ ?_ ?_) ?_ | fail) | ((with_reducible apply iEnt); first | exact Ent.nil | ((with_reducible apply iERow); refine Ent.row ?_ ?_) | ((with_reducible apply iEBox); first | refine Ent.box ?_ ?_ | refine Ent.box2 ?_ ?_) | ((with_reducible apply iEBlk); refine Ent.blk ?_ ?_) | ((with_reducible apply iEPure); refine Ent.pure ?_ ?_) | ((with_reducible apply iERdR); first | refine Ent.rdR ?_ | refine Ent.any ?_ | fail) | refine Ent.any ?_ | with_reducible exact Ent.refl | refine Ent.rdrUp ?_ ?_ | fail) | ((with_reducible apply iEq); with_reducible rfl) | fail)
  all_goals clear ih
  all_goals first
    | omega
    | (show List.length _ ≤ 14; omega)
    | (simp only [List.length_append, List.length_cons, List.length_nil]; omega)
end Go.SL

/- The drawing of paragraphs: l13Para, l13AnyPara, DrawParaCut. -/
set_option linter.unusedVariables false
set_option linter.unusedSimpArgs false
namespace Go.SL
open Go.RowKit Go.Proofs
/-- What a call hands back as a row is a slice as it is written. -/
theorem Spec.sliced {P : Program} {f : FuncId} {args : List Value} {Rs : List (World → Prop)} {Lin : List HP} {X : Type} {ret : X → Value} {α : Type} {q : Enc α} {t : TypeId} {xs : X → List α} {Lo : X → List HP} {po : X → Prop}
    (h : Spec P f args Rs Lin ret (fun x => row q t (ret x) (xs x) :: Lo x) po) : Spec P f args Rs Lin (fun y : X × Option Addr × Nat => .slice y.2.1 (xs y.1).length y.2.2) (fun y => row q t (.slice y.2.1 (xs y.1).length y.2.2) (xs y.1) :: Lo y.1) (fun y => po y.1) := by
  intro w0 O hR hS
  refine (h w0 O hR hS).mono fun e w' ⟨x, hp, he, hs⟩ => ?_
  obtain ⟨A, c, e1, _⟩ := (Rd.row (Pick.here)).h w' hs
  exact ⟨(x, A, c), hp, by rw [he, e1], by dsimp only at hs; rw [e1] at hs; exact hs⟩
theorem putS_len : ∀ (l : List Int) (i : Nat) (acc : List UInt8), (putS i l acc).length ≤ acc.length + 4 * l.length
  | [], i, acc => by simp [putS]
  | x :: l, i, acc => by
    by_cases h1 : rsize x = 0 ∨ 80 ≤ (i : Int)
    · rw [putS_no h1]
      simp
    · rw [putS_yes (fun e => h1 (.inl e)) (fun e => h1 (.inr e))]
      have := putS_len l (i + 1) (acc ++ txt (letB x))
      have h2 := letB_len x
      simp only [List.length_append, txt, List.length_map, List.length_cons] at this ⊢
      omega
theorem sPut_le (l : List Int) : (sPut l).length ≤ 4 * l.length := by
  have := putS_len l 0 []
  simpa [sPut] using this
theorem iGet_le (l : List UInt8) : ((iGet l).getD []).length ≤ 80 := by
  cases h : iGet l with
  | none => simp
  | some xs => exact iGet_len h
structure DPara where
  p : Para
  v : Value
theorem J.retPara {P : Program} {x : Cx} {E : List (Nat × Value)} {L : List HP} {k : List Fr} {rs : List ResultVar} {S : List UInt8} {b w m a : Int} {u : Value} (sp : List Span) {Lo : DPara → List HP} {po : DPara → Prop} (hp : po ⟨⟨S, b, w, m, a, sp⟩, u⟩) (hL : Ent L (Lo ⟨⟨S, b, w, m, a, sp⟩, u⟩))
    (hR : x.R = Ends x.w0 x.O (fun q : DPara => pv q.p q.v) Lo po := by rfl) (hf : x.fn.results = rs.toArray := by rfl) (hv : autoParam (ResIn P x E L rs [.agg #[sv S, .int .i64 b, .int .i64 w, .int .i64 m, .int .i64 a, u]]) ARES.h._autoParam) (hq : x.Q0 = bodyPost P x.fn x.R := by rfl) (hds : x.ds = [] := by rfl) : J P x E L .ret k :=
  J.retX (fun w' hS => hR ▸ ends (⟨⟨S, b, w, m, a, sp⟩, u⟩ : DPara) hp rfl hL w' hS) hf hv hq hds
set_option maxRecDepth 100000 in
set_option maxHeartbeats 8000000 in
theorem l13Para_c (b : Nat) (v : Value) (l : List UInt8) (N : Nat) (hN : N ≤ 600000) : Spec Tryz.prog 32 [.pointer (some ⟨b, 0, none⟩)] [rd eByte v l] [rdr b v N] (fun q : DPara => pv q.p q.v) (fun q => [row eSpan 62 q.v q.p.spans, rdr b v (N + 600)]) (fun q => q.p.text.length ≤ 320 ∧ q.p.spans.length ≤ 12) := by
  refine Spec.mk Tryz.func32 rfl Tryz.ntmps32 rfl ?_
  intro w0 O hR hS0
  have hr := hR _ List.mem_cons_self; clear hR hS0
  repeat' (first | ((with_reducible apply iOJ); first | ((with_reducible apply iOp); refine OJ.p ?_) | with_reducible apply OJ.nil | ((with_reducible apply iOg); first | refine OJ.guardY ?_ | refine OJ.guardN ?_ | refine OJ.guardNd ?_ | refine OJ.guardU ?_ | refine OJ.guardS (fun _ => ?_) (fun _ => ?_) | fail) | ((with_reducible apply iOstore); first | (refine OJ.as AS.store ?_; rintro _ _ rfl) | (refine OJ.as AS.storeA ?_; rintro _ _ rfl) | (refine OJ.as AS.storeAV ?_; rintro _ _ rfl) | (refine OJ.as AS.storeE ?_; rintro _ _ rfl) | (refine OJ.as AS.storeEA ?_; rintro _ _ rfl) | (refine OJ.as AS.storeP ?_; rintro _ _ rfl) | fail) | ((with_reducible apply iOcall); first | (refine OJ.as AS.append1 ?_; rintro _ _ rfl) | (refine OJ.as AS.append ?_; rintro _ _ rfl) | (refine OJ.as (AS.call2 (l13Words_c b v l _ ?_)) ?_; rotate_right; rintro _ _ ⟨y, hy, rfl, rfl⟩) | fail) | ((with_reducible apply iObox); first | (refine OJ.as AS.box1 ?_; rintro _ _ ⟨_, rfl, rfl⟩) | (refine OJ.as AS.boxA ?_; rintro _ _ ⟨_, rfl, rfl⟩) | fail) | ((with_reducible apply iOalloc); first | (refine OJ.as AS.alloc ?_; rintro _ _ ⟨_, rfl, rfl⟩) | fail) | ((with_reducible apply iObuildSlice); first | (refine OJ.as AS.buildSlice ?_; rintro _ _ ⟨_, rfl, rfl⟩) | fail) | ((with_reducible apply iOmakeSlice); first | (refine OJ.as AS.makeSlice ?_; rintro _ _ rfl) | fail) | ((with_reducible apply iOmakeMap); first | (refine OJ.as AS.makeMap ?_; rintro _ _ ⟨_, rfl, rfl⟩) | fail) | ((with_reducible apply iOmapEntry); first | (refine OJ.as AS.mapEntry ?_; rintro _ _ ⟨_, _, rfl, rfl⟩) | fail) | ((with_reducible apply iOentryStore); first | (refine OJ.as AS.entryStore ?_; rintro _ _ rfl) | fail) | ((with_reducible apply iOinsert); first | (refine OJ.as AS.insert ?_; rintro _ _ rfl) | fail) | ((with_reducible apply iOmapUpdate); first | (refine OJ.as AS.mapUpdate ?_; rintro _ _ rfl) | fail) | refine OJ.unboxP fun _ => ?_ | fail) | ((with_reducible apply iJ); first | refine J.seq ?_ | refine J.region ?_ | refine J.block ?_ | refine J.skip ?_ | refine J.exit ?_ | refine J.condT ?_ | refine J.condF ?_ | refine J.cond (fun _ => ?_) (fun _ => ?_) | fail) | ((with_reducible apply iJK); first | refine JK.code ?_ | refine JK.blk ?_ | refine JK.loop ?_ | refine JK.begin ?_ | refine JK.more ?_ | fail) | ((with_reducible apply iEnt); first | exact Ent.nil | ((with_reducible apply iERow); refine Ent.row ?_ ?_) | ((with_reducible apply iEBox); first | refine Ent.box ?_ ?_ | refine Ent.box2 ?_ ?_) | ((with_reducible apply iEBlk); refine Ent.blk ?_ ?_) | ((with_reducible apply iEPure); refine Ent.pure ?_ ?_) | ((with_reducible apply iERdR); first | refine Ent.rdR ?_ | refine Ent.any ?_ | fail) | refine Ent.any ?_ | with_reducible exact Ent.refl | fail) | ((with_reducible apply iEq); with_reducible rfl) | fail)
  all_goals try omega
  rename Value × List Int => q
  obtain ⟨u, xs⟩ := q
  dsimp only at hy
  refine J.know (R := rd eInt u xs) fun w hw => ?_
  obtain ⟨A, cp, rfl, _, _, hw⟩ := hw
  clear hw w
  dsimp only
  have hq := sPut_le xs
  obtain ⟨S, hS⟩ : ∃ S, sPut xs = S := ⟨_, rfl⟩
  have hP := fun v => sPut_c v xs
  simp only [hS] at hP hq
  repeat' (first | ((with_reducible apply iOJ); first | ((with_reducible apply iOp); refine OJ.p ?_) | with_reducible apply OJ.nil | ((with_reducible apply iOg); first | refine OJ.guardY ?_ | refine OJ.guardN ?_ | refine OJ.guardNd ?_ | refine OJ.guardU ?_ | refine OJ.guardS (fun _ => ?_) (fun _ => ?_) | fail) | ((with_reducible apply iOstore); first | (refine OJ.as AS.store ?_; rintro _ _ rfl) | (refine OJ.as AS.storeA ?_; rintro _ _ rfl) | (refine OJ.as AS.storeAV ?_; rintro _ _ rfl) | (refine OJ.as AS.storeE ?_; rintro _ _ rfl) | (refine OJ.as AS.storeEA ?_; rintro _ _ rfl) | (refine OJ.as AS.storeP ?_; rintro _ _ rfl) | fail) | ((with_reducible apply iOcall); first | (refine OJ.as AS.append1 ?_; rintro _ _ rfl) | (refine OJ.as AS.append ?_; rintro _ _ rfl) | fail) | ((with_reducible apply iObox); first | (refine OJ.as AS.box1 ?_; rintro _ _ ⟨_, rfl, rfl⟩) | (refine OJ.as AS.boxA ?_; rintro _ _ ⟨_, rfl, rfl⟩) | fail) | ((with_reducible apply iOalloc); first | (refine OJ.as AS.alloc ?_; rintro _ _ ⟨_, rfl, rfl⟩) | fail) | ((with_reducible apply iObuildSlice); first | (refine OJ.as AS.buildSlice ?_; rintro _ _ ⟨_, rfl, rfl⟩) | fail) | ((with_reducible apply iOmakeSlice); first | (refine OJ.as AS.makeSlice ?_; rintro _ _ rfl) | fail) | ((with_reducible apply iOmakeMap); first | (refine OJ.as AS.makeMap ?_; rintro _ _ ⟨_, rfl, rfl⟩) | fail) | ((with_reducible apply iOmapEntry); first | (refine OJ.as AS.mapEntry ?_; rintro _ _ ⟨_, _, rfl, rfl⟩) | fail) | ((with_reducible apply iOentryStore); first | (refine OJ.as AS.entryStore ?_; rintro _ _ rfl) | fail) | ((with_reducible apply iOinsert); first | (refine OJ.as AS.insert ?_; rintro _ _ rfl) | fail) | ((with_reducible apply iOmapUpdate); first | (refine OJ.as AS.mapUpdate ?_; rintro _ _ rfl) | fail) | refine OJ.unboxP fun _ => ?_ | fail) | ((with_reducible apply iJ); first | refine J.seq ?_ | refine J.region ?_ | refine J.block ?_ | refine J.skip ?_ | refine J.exit ?_ | refine J.condT ?_ | refine J.condF ?_ | refine J.cond (fun _ => ?_) (fun _ => ?_) | refine J.draw ?_ | fail) | ((with_reducible apply iJK); first | refine JK.code ?_ | refine JK.blk ?_ | refine JK.loop ?_ | refine JK.begin ?_ | refine JK.more ?_ | fail) | ((with_reducible apply iAJ); first | refine AJ.rebase ?_ | refine AJ.regain ?_ | refine AJ.take ?_ | refine AJ.takeY ?_ | refine AJ.takeN ?_ | refine AJ.takeNd ?_ | refine AJ.takeNS ?_ | refine AJ.takeU ?_ | refine AJ.sel ?_ | refine AJ.selY ?_ | refine AJ.sel2 ?_ ?_ | refine AJ.split (fun _ => ?_) (fun _ => ?_) | refine AJ.done ?_ | fail) | ((with_reducible apply iAO); first | ((with_reducible apply iAstore); first | (refine AO.as AS.store ?_; rotate_right; rintro _ _ rfl; refine AO.step ?_) | (refine AO.as AS.storeA ?_; rotate_right; rintro _ _ rfl; refine AO.step ?_) | (refine AO.as AS.storeAV ?_; rotate_right; rintro _ _ rfl; refine AO.step ?_) | (refine AO.as AS.storeE ?_; rotate_right; rintro _ _ rfl; refine AO.step ?_) | (refine AO.as AS.storeEA ?_; rotate_right; rintro _ _ rfl; refine AO.step ?_) | (refine AO.as AS.storeP ?_; rotate_right; rintro _ _ rfl; refine AO.step ?_) | fail) | ((with_reducible apply iAcall); first | (refine AO.as AS.append1 ?_; rotate_right; rintro _ _ rfl; refine AO.step ?_) | (refine AO.as AS.append ?_; rotate_right; rintro _ _ rfl; refine AO.step ?_) | (refine AO.as (AS.call0 (hP _)) ?_; rotate_right; rintro _ _ ⟨y, hy, rfl, rfl⟩; refine AO.step ?_) | (refine AO.as (AS.call1 (pick_c b v l _ _ ?_ ?_)) ?_; rotate_right; rintro _ _ ⟨y, hy, rfl, rfl⟩; refine AO.step ?_) | (refine AO.as (AS.call2 (Spec.sliced (l13Spans_c b v l _ _ ?_ ?_))) ?_; rotate_right; rintro _ _ ⟨y, hy, rfl, rfl⟩; refine AO.step ?_) | fail) | ((with_reducible apply iAbox); first | (refine AO.as AS.box1 ?_; rotate_right; rintro _ _ ⟨_, rfl, rfl⟩; refine AO.step ?_) | (refine AO.as AS.boxA ?_; rotate_right; rintro _ _ ⟨_, rfl, rfl⟩; refine AO.step ?_) | fail) | ((with_reducible apply iAalloc); first | (refine AO.as AS.alloc ?_; rotate_right; rintro _ _ ⟨_, rfl, rfl⟩; refine AO.step ?_) | fail) | ((with_reducible apply iAbuildSlice); first | (refine AO.as AS.buildSlice ?_; rotate_right; rintro _ _ ⟨_, rfl, rfl⟩; refine AO.step ?_) | fail) | ((with_reducible apply iAmakeSlice); first | (refine AO.as AS.makeSlice ?_; rotate_right; rintro _ _ rfl; refine AO.step ?_) | fail) | ((with_reducible apply iAmakeMap); first | (refine AO.as AS.makeMap ?_; rotate_right; rintro _ _ ⟨_, rfl, rfl⟩; refine AO.step ?_) | fail) | ((with_reducible apply iAmapEntry); first | (refine AO.as AS.mapEntry ?_; rotate_right; rintro _ _ ⟨_, _, rfl, rfl⟩; refine AO.step ?_) | fail) | ((with_reducible apply iAentryStore); first | (refine AO.as AS.entryStore ?_; rotate_right; rintro _ _ rfl; refine AO.step ?_) | fail) | ((with_reducible apply iAinsert); first | (refine AO.as AS.insert ?_; rotate_right; rintro _ _ rfl; refine AO.step ?_) | fail) | ((with_reducible apply iAmapUpdate); first | (refine AO.as AS.mapUpdate ?_; rotate_right; rintro _ _ rfl; refine AO.step ?_) | fail) | fail) | ((with_reducible apply iEnt); first | exact Ent.nil | ((with_reducible apply iERow); refine Ent.row ?_ ?_) | ((with_reducible apply iEBox); first | refine Ent.box ?_ ?_ | refine Ent.box2 ?_ ?_) | ((with_reducible apply iEBlk); refine Ent.blk ?_ ?_) | ((with_reducible apply iEPure); refine Ent.pure ?_ ?_) | ((with_reducible apply iERdR); first | refine Ent.rdR ?_ | refine Ent.any ?_ | fail) | refine Ent.any ?_ | with_reducible exact Ent.refl | refine Ent.rdrUp ?_ ?_ | fail) | ((with_reducible apply iEq); with_reducible rfl) | fail)
  all_goals try omega
  all_goals
    refine J.retPara y.1.2 ?_ ?_
    · exact ⟨by dsimp only; omega, hy⟩
    · refine Ent.rowL ?_
      refine Ent.rdrUp Ent.nil ?_
      omega
set_option maxRecDepth 100000 in
set_option maxHeartbeats 8000000 in
theorem l13AnyPara_c (b : Nat) (v : Value) (l : List UInt8) (N : Nat) (hN : N ≤ 500000) : Spec Tryz.prog 15 [.pointer (some ⟨b, 0, none⟩)] [rd eByte v l] [rdr b v N] (fun q : DPara => pv q.p q.v) (fun q => [row eSpan 62 q.v q.p.spans, rdr b v (N + 700)]) (fun q => q.p.text.length ≤ 321 ∧ q.p.spans.length ≤ 14) := by
  refine Spec.mk Tryz.func15 rfl Tryz.ntmps15 rfl ?_
  intro w0 O hR hS0
  have hr := hR _ List.mem_cons_self; clear hR hS0
  repeat' (first | ((with_reducible apply iOJ); first | ((with_reducible apply iOp); refine OJ.p ?_) | with_reducible apply OJ.nil | ((with_reducible apply iOg); first | refine OJ.guardY ?_ | refine OJ.guardN ?_ | refine OJ.guardNd ?_ | refine OJ.guardU ?_ | refine OJ.guardS (fun _ => ?_) (fun _ => ?_) | fail) | ((with_reducible apply iOstore); first | (refine OJ.as AS.store ?_; rintro _ _ rfl) | (refine OJ.as AS.storeA ?_; rintro _ _ rfl) | (refine OJ.as AS.storeAV ?_; rintro _ _ rfl) | (refine OJ.as AS.storeE ?_; rintro _ _ rfl) | (refine OJ.as AS.storeEA ?_; rintro _ _ rfl) | (refine OJ.as AS.storeP ?_; rintro _ _ rfl) | fail) | ((with_reducible apply iOcall); first | (refine OJ.as AS.append1 ?_; rintro _ _ rfl) | (refine OJ.as AS.append ?_; rintro _ _ rfl) | (refine OJ.as (AS.call2 (l13Para_c b v l _ ?_)) ?_; rotate_right; rintro _ _ ⟨y, hy, rfl, rfl⟩) | (refine OJ.as (AS.call1 (pick_c b v l _ _ ?_ ?_)) ?_; rotate_right; rintro _ _ ⟨y, hy, rfl, rfl⟩) | (refine OJ.as (AS.call1 (one_c b v _ l _ _ ?_ ?_)) ?_; rotate_right; rintro _ _ ⟨y, hy, rfl, rfl⟩) | (refine OJ.as (AS.call2 (Spec.sliced (l13SpoilSpans_c b v _ l _ _ _ ?_ ?_ ?_))) ?_; rotate_right; rintro _ _ ⟨y, hy, rfl, rfl⟩) | fail) | ((with_reducible apply iObox); first | (refine OJ.as AS.box1 ?_; rintro _ _ ⟨_, rfl, rfl⟩) | (refine OJ.as AS.boxA ?_; rintro _ _ ⟨_, rfl, rfl⟩) | fail) | ((with_reducible apply iOalloc); first | (refine OJ.as AS.alloc ?_; rintro _ _ ⟨_, rfl, rfl⟩) | fail) | ((with_reducible apply iObuildSlice); first | (refine OJ.as AS.buildSlice ?_; rintro _ _ ⟨_, rfl, rfl⟩) | fail) | ((with_reducible apply iOmakeSlice); first | (refine OJ.as AS.makeSlice ?_; rintro _ _ rfl) | fail) | ((with_reducible apply iOmakeMap); first | (refine OJ.as AS.makeMap ?_; rintro _ _ ⟨_, rfl, rfl⟩) | fail) | ((with_reducible apply iOmapEntry); first | (refine OJ.as AS.mapEntry ?_; rintro _ _ ⟨_, _, rfl, rfl⟩) | fail) | ((with_reducible apply iOentryStore); first | (refine OJ.as AS.entryStore ?_; rintro _ _ rfl) | fail) | ((with_reducible apply iOinsert); first | (refine OJ.as AS.insert ?_; rintro _ _ rfl) | fail) | ((with_reducible apply iOmapUpdate); first | (refine OJ.as AS.mapUpdate ?_; rintro _ _ rfl) | fail) | refine OJ.unboxP fun _ => ?_ | fail) | ((with_reducible apply iJ); first | refine J.seq ?_ | refine J.region ?_ | refine J.block ?_ | refine J.skip ?_ | refine J.exit ?_ | refine J.condT ?_ | refine J.condF ?_ | refine J.cond (fun _ => ?_) (fun _ => ?_) | refine J.draw ?_ | fail) | ((with_reducible apply iJK); first | refine JK.code ?_ | refine JK.blk ?_ | refine JK.loop ?_ | refine JK.begin ?_ | refine JK.more ?_ | fail) | ((with_reducible apply iAJ); first | refine AJ.rebase ?_ | refine AJ.regain ?_ | refine AJ.take ?_ | refine AJ.takeY ?_ | refine AJ.takeN ?_ | refine AJ.takeNd ?_ | refine AJ.takeNS ?_ | refine AJ.takeU ?_ | refine AJ.sel ?_ | refine AJ.selY ?_ | refine AJ.sel2 ?_ ?_ | refine AJ.split (fun _ => ?_) (fun _ => ?_) | refine AJ.done ?_ | fail) | ((with_reducible apply iAO); first | ((with_reducible apply iAstore); first | (refine AO.as AS.store ?_; rotate_right; rintro _ _ rfl; refine AO.step ?_) | (refine AO.as AS.storeA ?_; rotate_right; rintro _ _ rfl; refine AO.step ?_) | (refine AO.as AS.storeAV ?_; rotate_right; rintro _ _ rfl; refine AO.step ?_) | (refine AO.as AS.storeE ?_; rotate_right; rintro _ _ rfl; refine AO.step ?_) | (refine AO.as AS.storeEA ?_; rotate_right; rintro _ _ rfl; refine AO.step ?_) | (refine AO.as AS.storeP ?_; rotate_right; rintro _ _ rfl; refine AO.step ?_) | fail) | ((with_reducible apply iAcall); first | (refine AO.as AS.append1 ?_; rotate_right; rintro _ _ rfl; refine AO.step ?_) | (refine AO.as AS.append ?_; rotate_right; rintro _ _ rfl; refine AO.step ?_) | fail) | ((with_reducible apply iAbox); first | (refine AO.as AS.box1 ?_; rotate_right; rintro _ _ ⟨_, rfl, rfl⟩; refine AO.step ?_) | (refine AO.as AS.boxA ?_; rotate_right; rintro _ _ ⟨_, rfl, rfl⟩; refine AO.step ?_) | fail) | ((with_reducible apply iAalloc); first | (refine AO.as AS.alloc ?_; rotate_right; rintro _ _ ⟨_, rfl, rfl⟩; refine AO.step ?_) | fail) | ((with_reducible apply iAbuildSlice); first | (refine AO.as AS.buildSlice ?_; rotate_right; rintro _ _ ⟨_, rfl, rfl⟩; refine AO.step ?_) | fail) | ((with_reducible apply iAmakeSlice); first | (refine AO.as AS.makeSlice ?_; rotate_right; rintro _ _ rfl; refine AO.step ?_) | fail) | ((with_reducible apply iAmakeMap); first | (refine AO.as AS.makeMap ?_; rotate_right; rintro _ _ ⟨_, rfl, rfl⟩; refine AO.step ?_) | fail) | ((with_reducible apply iAmapEntry); first | (refine AO.as AS.mapEntry ?_; rotate_right; rintro _ _ ⟨_, _, rfl, rfl⟩; refine AO.step ?_) | fail) | ((with_reducible apply iAentryStore); first | (refine AO.as AS.entryStore ?_; rotate_right; rintro _ _ rfl; refine AO.step ?_) | fail) | ((with_reducible apply iAinsert); first | (refine AO.as AS.insert ?_; rotate_right; rintro _ _ rfl; refine AO.step ?_) | fail) | ((with_reducible apply iAmapUpdate); first | (refine AO.as AS.mapUpdate ?_; rotate_right; rintro _ _ rfl; refine AO.step ?_) | fail) | fail) | ((with_reducible apply iEnt); first | exact Ent.nil | ((with_reducible apply iERow); refine Ent.row ?_ ?_) | ((with_reducible apply iEBox); first | refine Ent.box ?_ ?_ | refine Ent.box2 ?_ ?_) | ((with_reducible apply iEBlk); refine Ent.blk ?_ ?_) | ((with_reducible apply iEPure); refine Ent.pure ?_ ?_) | ((with_reducible apply iERdR); first | refine Ent.rdR ?_ | refine Ent.any ?_ | fail) | refine Ent.any ?_ | with_reducible exact Ent.refl | fail) | ((with_reducible apply iEq); with_reducible rfl) | fail)
  all_goals first
    | omega
    | exact hy.2
    | (simp only [List.length_cons, List.length_nil]; omega)
    | skip
  all_goals try (exact ⟨by omega, by omega⟩)
  all_goals rename DPara => q
  all_goals rename (List.length q.p.text ≤ 320 ∧ List.length q.p.spans ≤ 12) => hq
  all_goals first
    | (refine J.retPara q.p.spans ?_ ?_
       · exact ⟨by (try simp only [List.length_append, List.length_cons, List.length_nil]); omega, by dsimp only; omega⟩
       · refine Ent.rowS ?_
         refine Ent.rdrUp Ent.nil ?_
         omega)
    | (refine J.retPara y.1.2 ?_ ?_
       · exact ⟨by dsimp only; omega, by dsimp only; omega⟩
       · refine Ent.rowS ?_
         refine Ent.rdrUp Ent.nil ?_
         omega)
end Go.SL

/- FnParaCut: the walk. -/
set_option linter.unusedVariables false
set_option linter.unusedSimpArgs false
namespace Go.SL
open Go.RowKit Go.Proofs
theorem check_len {p : Para} (h : sCheck p = 0) : p.text.length ≤ 320 ∧ p.spans.length ≤ 12 := by
  obtain ⟨xs, h1, h2, _⟩ := check_ok h
  have h3 := iGet_len h1
  have h4 := sPut_le xs
  rw [(iGet_ok h1).2] at h4
  simp only [sSpansOk, Bool.and_eq_true, decide_eq_true_eq] at h2
  exact ⟨by omega, h2.2.1⟩
end Go.SL

/- What was put in and is cut out again leaves the paragraph as it was. -/
set_option linter.unusedVariables false
set_option linter.unusedSimpArgs false
namespace Go.SL
open Go.RowKit Go.Proofs
structure PutIs (p : Para) (i : Int) (l : List UInt8) (G : Para) : Prop where
  xs : ∃ xs zs : List Int, iGet p.text = some xs ∧ iGet l = some zs ∧ sCheck p = 0 ∧ (0 ≤ i ∧ i ≤ xs.length) ∧ xs.length + zs.length ≤ 80 ∧ sMoveOk p.spans xs.length i zs.length = true ∧
    G = sMake p (xs.take i.toNat ++ zs ++ xs.drop i.toNat) (sSpansMove p.spans xs.length i zs.length) ∧ sCheck G = 0 ∧ iGet G.text = some (xs.take i.toNat ++ zs ++ xs.drop i.toNat)
theorem put_len {xs zs : List Int} {i : Int} (h : 0 ≤ i ∧ i ≤ xs.length) : (xs.take i.toNat ++ zs ++ xs.drop i.toNat).length = xs.length + zs.length := by
  rw [List.length_append, List.length_append, List.length_take, List.length_drop]
  omega
theorem sPutP_is {p G : Para} {i : Int} {l : List UInt8} (h : sPutP p i l = some G) : PutIs p i l G := by
  unfold sPutP at h
  split at h
  · rename_i xs zs h1 h2
    split at h
    · rename_i hk
      injection h with h
      rw [Bool.and_eq_true, Bool.and_eq_true, Bool.not_eq_true', decide_eq_false_iff_not, decide_eq_true_eq, inR_eq] at hk
      obtain ⟨⟨k1, k2⟩, k3⟩ := hk
      obtain ⟨ys, e1, e2, _⟩ := check_ok k1
      rw [h1] at e1
      injection e1 with e1
      subst e1
      have hM := okM (a := i) (k := zs.length) e2 (by omega) (by omega)
      have hc := put_len (zs := zs) k2
      have hok := made_ok (xs := xs) (ys := xs.take i.toNat ++ zs ++ xs.drop i.toNat) (sp := sSpansMove p.spans xs.length i zs.length) k1
        (by
          have a1 := (iGet_ok h1).1
          have a2 := (iGet_ok h2).1
          simp only [lettersOk, Bool.and_eq_true, decide_eq_true_eq, List.all_eq_true] at a1 a2 ⊢
          refine ⟨by rw [hc]; omega, fun y hy => ?_⟩
          rcases List.mem_append.1 hy with hy | hy
          · rcases List.mem_append.1 hy with hy | hy
            · exact a1.2 y (List.mem_of_mem_take hy)
            · exact a2.2 y hy
          · exact a1.2 y (List.mem_of_mem_drop hy)) (by rw [hc]; have := moved_ok hM; rwa [← Int.natCast_add] at this)
      rw [h] at hok
      exact ⟨xs, zs, h1, h2, k1, k2, by omega, hM, h.symm, hok.1, hok.2⟩
    · cases h
  · cases h
theorem put3 {α : Type} (l m : List α) {i : Nat} (h : i ≤ l.length) : (l.take i ++ m ++ l.drop i).take i ++ (l.take i ++ m ++ l.drop i).drop (i + m.length) = l := by
  have e : (l.take i).length = i := by rw [List.length_take]; omega
  rw [List.append_assoc, List.take_append_of_le_length (by omega), List.take_take, Nat.min_self, ← List.drop_drop, List.drop_left' e, List.drop_left, List.take_append_drop]
theorem put_mid {α : Type} (l m : List α) {i : Nat} (h : i ≤ l.length) : ((l.take i ++ m ++ l.drop i).drop i).take m.length = m := by
  have e : (l.take i).length = i := by rw [List.length_take]; omega
  rw [List.append_assoc, List.drop_left' e, List.take_left]
/-- Put in and cut out. -/
theorem put_cut {p G : Para} {i : Int} {l : List UInt8} (h : sPutP p i l = some G) {xs zs : List Int} (hx : iGet p.text = some xs) (hz : iGet l = some zs) : ∃ Y, sCut G i (i + zs.length) = some Y ∧ Y.text = p.text ∧ Y.spans = iPlain p.spans xs.length := by
  obtain ⟨xs', zs', h1, h2, h3, h4, h5, h6, h7, h8, h9⟩ := (sPutP_is h).xs
  rw [hx] at h1
  injection h1 with h1
  subst h1
  rw [hz] at h2
  injection h2 with h2
  subst h2
  have hc := put_len (zs := zs) h4
  have hC := sCut_yes (f := i) (t := i + zs.length) h9 h8 (by rw [hc]; omega)
  refine ⟨_, hC, ?_, ?_⟩
  · show sPut _ = p.text
    rw [show (i + (zs.length : Int)).toNat = i.toNat + zs.length by omega, put3 xs zs (by omega)]
    exact (iGet_ok hx).2
  · show sSpansMove G.spans _ i _ = _
    rw [hc, h7]
    show sSpansMove (sSpansMove p.spans xs.length i zs.length) _ i _ = _
    rw [show (i - (i + (zs.length : Int))) = -(zs.length : Int) by omega, Int.natCast_add]
    exact moved_back h6 (by omega)
end Go.SL

/- The drawing of what is put into a paragraph. -/
set_option linter.unusedVariables false
set_option linter.unusedSimpArgs false
namespace Go.SL
open Go.RowKit Go.Proofs
/-- A text in a row of texts. -/
def eStr : Enc (List UInt8) where
  sz := 1
  f x := [sv x]
  d := []
  dec
    | [.string s] => some s.data.toList
    | _ => none
  pos := by decide
  len _ := rfl
  one x u hu := by rw [List.mem_singleton.1 hu]; rfl
  inv cs x h := by
    split at h
    · injection h with h
      rw [← h]
      simp [sv]
    · cases h
instance : EncN 9 eStr := ⟨trivial⟩
set_option maxRecDepth 100000 in
set_option maxHeartbeats 8000000 in
theorem DrawParaPut_c (v : Value) (l : List UInt8) : Spec Tryz.prog 4 [v] [rd eByte v l] [] (fun q : DPara × Int × List UInt8 => .tuple #[pv q.1.p q.1.v, .int .i64 q.2.1, sv q.2.2]) (fun q => [row eSpan 62 q.1.v q.1.p.spans])
    (fun q => (q.1.p.text.length ≤ 321 ∧ q.1.p.spans.length ≤ 14) ∧ q.2.2.length ≤ 320) := by
  refine Spec.mk Tryz.func4 rfl Tryz.ntmps4 rfl ?_
  intro w0 O hR hS0
  have hr0 := hR _ List.mem_cons_self; clear hR hS0
  repeat' (first | ((with_reducible apply iOJ); first | ((with_reducible apply iOp); refine OJ.p ?_) | with_reducible apply OJ.nil | ((with_reducible apply iOg); first | refine OJ.guardY ?_ | refine OJ.guardN ?_ | refine OJ.guardNd ?_ | refine OJ.guardU ?_ | refine OJ.guardS (fun _ => ?_) (fun _ => ?_) | fail) | ((with_reducible apply iOstore); first | (refine OJ.as AS.store ?_; rintro _ _ rfl) | (refine OJ.as AS.storeA ?_; rintro _ _ rfl) | (refine OJ.as AS.storeAV ?_; rintro _ _ rfl) | (refine OJ.as AS.storeE ?_; rintro _ _ rfl) | (refine OJ.as AS.storeEA ?_; rintro _ _ rfl) | (refine OJ.as AS.storeP ?_; rintro _ _ rfl) | fail) | ((with_reducible apply iOcall); first | (refine OJ.as AS.append1 ?_; rintro _ _ rfl) | (refine OJ.as AS.append ?_; rintro _ _ rfl) | (refine OJ.as (AS.call1 (l1Open_c v l)) ?_; rotate_right; rintro _ _ ⟨y, hy, rfl, rfl⟩) | fail) | ((with_reducible apply iObox); first | (refine OJ.as AS.box1 ?_; rintro _ _ ⟨_, rfl, rfl⟩) | (refine OJ.as AS.boxA ?_; rintro _ _ ⟨_, rfl, rfl⟩) | fail) | ((with_reducible apply iOalloc); first | (refine OJ.as AS.alloc ?_; rintro _ _ ⟨_, rfl, rfl⟩) | fail) | ((with_reducible apply iObuildSlice); first | (refine OJ.as AS.buildSlice ?_; rintro _ _ ⟨_, rfl, rfl⟩) | fail) | ((with_reducible apply iOmakeSlice); first | (refine OJ.as AS.makeSlice ?_; rintro _ _ rfl) | fail) | ((with_reducible apply iOmakeMap); first | (refine OJ.as AS.makeMap ?_; rintro _ _ ⟨_, rfl, rfl⟩) | fail) | ((with_reducible apply iOmapEntry); first | (refine OJ.as AS.mapEntry ?_; rintro _ _ ⟨_, _, rfl, rfl⟩) | fail) | ((with_reducible apply iOentryStore); first | (refine OJ.as AS.entryStore ?_; rintro _ _ rfl) | fail) | ((with_reducible apply iOinsert); first | (refine OJ.as AS.insert ?_; rintro _ _ rfl) | fail) | ((with_reducible apply iOmapUpdate); first | (refine OJ.as AS.mapUpdate ?_; rintro _ _ rfl) | fail) | refine OJ.unboxP fun _ => ?_ | fail) | ((with_reducible apply iJ); first | refine J.seq ?_ | refine J.region ?_ | refine J.block ?_ | refine J.skip ?_ | refine J.exit ?_ | refine J.condT ?_ | refine J.condF ?_ | refine J.cond (fun _ => ?_) (fun _ => ?_) | fail) | ((with_reducible apply iJK); first | refine JK.code ?_ | refine JK.blk ?_ | refine JK.loop ?_ | refine JK.begin ?_ | refine JK.more ?_ | fail) | ((with_reducible apply iEnt); first | exact Ent.nil | ((with_reducible apply iERow); refine Ent.row ?_ ?_) | ((with_reducible apply iEBox); first | refine Ent.box ?_ ?_ | refine Ent.box2 ?_ ?_) | ((with_reducible apply iEBlk); refine Ent.blk ?_ ?_) | ((with_reducible apply iEPure); refine Ent.pure ?_ ?_) | ((with_reducible apply iERdR); first | refine Ent.rdR ?_ | refine Ent.any ?_ | fail) | refine Ent.any ?_ | with_reducible exact Ent.refl | fail) | ((with_reducible apply iEq); with_reducible rfl) | fail)
  rename Nat × Value × List UInt8 => z
  have hr := hr0.imp hy
  clear hr0 hy
  repeat' (first | ((with_reducible apply iOJ); first | ((with_reducible apply iOp); refine OJ.p ?_) | with_reducible apply OJ.nil | ((with_reducible apply iOg); first | refine OJ.guardY ?_ | refine OJ.guardN ?_ | refine OJ.guardNd ?_ | refine OJ.guardU ?_ | refine OJ.guardS (fun _ => ?_) (fun _ => ?_) | fail) | ((with_reducible apply iOstore); first | (refine OJ.as AS.store ?_; rintro _ _ rfl) | (refine OJ.as AS.storeA ?_; rintro _ _ rfl) | (refine OJ.as AS.storeAV ?_; rintro _ _ rfl) | (refine OJ.as AS.storeE ?_; rintro _ _ rfl) | (refine OJ.as AS.storeEA ?_; rintro _ _ rfl) | (refine OJ.as AS.storeP ?_; rintro _ _ rfl) | fail) | ((with_reducible apply iOcall); first | (refine OJ.as AS.append1 ?_; rintro _ _ rfl) | (refine OJ.as AS.append ?_; rintro _ _ rfl) | (refine OJ.as (AS.call1 (pick_c z.1 z.2.1 z.2.2 _ _ ?_ ?_)) ?_; rotate_right; rintro _ _ ⟨y, hy, rfl, rfl⟩) | (refine OJ.as (AS.call2 (l13AnyPara_c z.1 z.2.1 z.2.2 _ ?_)) ?_; rotate_right; rintro _ _ ⟨y, hy, rfl, rfl⟩) | (refine OJ.as (AS.call1 (sGet_c _ ?_)) ?_; rotate_right; rintro _ _ ⟨y, hy, rfl, rfl⟩) | fail) | ((with_reducible apply iObox); first | (refine OJ.as AS.box1 ?_; rintro _ _ ⟨_, rfl, rfl⟩) | (refine OJ.as AS.boxA ?_; rintro _ _ ⟨_, rfl, rfl⟩) | fail) | ((with_reducible apply iOalloc); first | (refine OJ.as AS.alloc ?_; rintro _ _ ⟨_, rfl, rfl⟩) | fail) | ((with_reducible apply iObuildSlice); first | (refine OJ.as AS.buildSlice ?_; rintro _ _ ⟨_, rfl, rfl⟩) | fail) | ((with_reducible apply iOmakeSlice); first | (refine OJ.as AS.makeSlice ?_; rintro _ _ rfl) | fail) | ((with_reducible apply iOmakeMap); first | (refine OJ.as AS.makeMap ?_; rintro _ _ ⟨_, rfl, rfl⟩) | fail) | ((with_reducible apply iOmapEntry); first | (refine OJ.as AS.mapEntry ?_; rintro _ _ ⟨_, _, rfl, rfl⟩) | fail) | ((with_reducible apply iOentryStore); first | (refine OJ.as AS.entryStore ?_; rintro _ _ rfl) | fail) | ((with_reducible apply iOinsert); first | (refine OJ.as AS.insert ?_; rintro _ _ rfl) | fail) | ((with_reducible apply iOmapUpdate); first | (refine OJ.as AS.mapUpdate ?_; rintro _ _ rfl) | fail) | refine OJ.unboxP fun _ => ?_ | fail) | ((with_reducible apply iJ); first | refine J.seq ?_ | refine J.region ?_ | refine J.block ?_ | refine J.skip ?_ | refine J.exit ?_ | refine J.condT ?_ | refine J.condF ?_ | refine J.cond (fun _ => ?_) (fun _ => ?_) | refine J.draw ?_ | fail) | ((with_reducible apply iJK); first | refine JK.code ?_ | refine JK.blk ?_ | refine JK.loop ?_ | refine JK.begin ?_ | refine JK.more ?_ | fail) | ((with_reducible apply iAJ); first | refine AJ.rebase ?_ | refine AJ.regain ?_ | refine AJ.take ?_ | refine AJ.takeY ?_ | refine AJ.takeN ?_ | refine AJ.takeNd ?_ | refine AJ.takeNS ?_ | refine AJ.takeU ?_ | refine AJ.sel ?_ | refine AJ.selY ?_ | refine AJ.sel2 ?_ ?_ | refine AJ.split (fun _ => ?_) (fun _ => ?_) | refine AJ.done ?_ | fail) | ((with_reducible apply iAO); first | ((with_reducible apply iAstore); first | (refine AO.as AS.store ?_; rotate_right; rintro _ _ rfl; refine AO.step ?_) | (refine AO.as AS.storeA ?_; rotate_right; rintro _ _ rfl; refine AO.step ?_) | (refine AO.as AS.storeAV ?_; rotate_right; rintro _ _ rfl; refine AO.step ?_) | (refine AO.as AS.storeE ?_; rotate_right; rintro _ _ rfl; refine AO.step ?_) | (refine AO.as AS.storeEA ?_; rotate_right; rintro _ _ rfl; refine AO.step ?_) | (refine AO.as AS.storeP ?_; rotate_right; rintro _ _ rfl; refine AO.step ?_) | fail) | ((with_reducible apply iAcall); first | (refine AO.as AS.append1 ?_; rotate_right; rintro _ _ rfl; refine AO.step ?_) | (refine AO.as AS.append ?_; rotate_right; rintro _ _ rfl; refine AO.step ?_) | (refine AO.as (AS.call1 (pick_c z.1 z.2.1 z.2.2 _ _ ?_ ?_)) ?_; rotate_right; rintro _ _ ⟨y, hy, rfl, rfl⟩; refine AO.step ?_) | (refine AO.as (AS.call2 (l13Runes_c z.1 z.2.1 z.2.2 _ ?_)) ?_; rotate_right; rintro _ _ ⟨y, hy, rfl, rfl⟩; refine AO.step ?_) | (refine AO.as (AS.call0 (sPut_c _ _)) ?_; rotate_right; rintro _ _ ⟨y, hy, rfl, rfl⟩; refine AO.step ?_) | fail) | ((with_reducible apply iAbox); first | (refine AO.as AS.box1 ?_; rotate_right; rintro _ _ ⟨_, rfl, rfl⟩; refine AO.step ?_) | (refine AO.as AS.boxA ?_; rotate_right; rintro _ _ ⟨_, rfl, rfl⟩; refine AO.step ?_) | fail) | ((with_reducible apply iAalloc); first | (refine AO.as AS.alloc ?_; rotate_right; rintro _ _ ⟨_, rfl, rfl⟩; refine AO.step ?_) | fail) | ((with_reducible apply iAbuildSlice); first | (refine AO.as AS.buildSlice ?_; rotate_right; rintro _ _ ⟨_, rfl, rfl⟩; refine AO.step ?_) | fail) | ((with_reducible apply iAmakeSlice); first | (refine AO.as AS.makeSlice ?_; rotate_right; rintro _ _ rfl; refine AO.step ?_) | fail) | ((with_reducible apply iAmakeMap); first | (refine AO.as AS.makeMap ?_; rotate_right; rintro _ _ ⟨_, rfl, rfl⟩; refine AO.step ?_) | fail) | ((with_reducible apply iAmapEntry); first | (refine AO.as AS.mapEntry ?_; rotate_right; rintro _ _ ⟨_, _, rfl, rfl⟩; refine AO.step ?_) | fail) | ((with_reducible apply iAentryStore); first | (refine AO.as AS.entryStore ?_; rotate_right; rintro _ _ rfl; refine AO.step ?_) | fail) | ((with_reducible apply iAinsert); first | (refine AO.as AS.insert ?_; rotate_right; rintro _ _ rfl; refine AO.step ?_) | fail) | ((with_reducible apply iAmapUpdate); first | (refine AO.as AS.mapUpdate ?_; rotate_right; rintro _ _ rfl; refine AO.step ?_) | fail) | fail) | ((with_reducible apply iEnt); first | exact Ent.nil | ((with_reducible apply iERow); refine Ent.row ?_ ?_) | ((with_reducible apply iEBox); first | refine Ent.box ?_ ?_ | refine Ent.box2 ?_ ?_) | ((with_reducible apply iEBlk); refine Ent.blk ?_ ?_) | ((with_reducible apply iEPure); refine Ent.pure ?_ ?_) | ((with_reducible apply iERdR); first | refine Ent.rdR ?_ | refine Ent.any ?_ | fail) | refine Ent.any ?_ | with_reducible exact Ent.refl | fail) | ((with_reducible apply iEq); with_reducible rfl) | fail)
  all_goals first
    | omega
    | (rename DPara => q
       have := iGet_le q.p.text
       omega)
    | (rename DPara => q
       have := iGet_le q.p.text
       rw [IntWalk.i64_in _ (by omega)]
       omega)
    | skip
  all_goals
    rename DPara => q
    rename Value × List Int => ys
    have hp := sPut_le ys.2
    refine J.retX (ends (q, _, _) ?_ rfl ?_)
    · refine ⟨by assumption, ?_⟩
      refine getD_all (p := fun t : List UInt8 => t.length ≤ 320) (fun t ht => ?_) (by decide)
      simp only [List.mem_cons, List.not_mem_nil, or_false] at ht
      rcases ht with rfl | rfl | rfl | rfl
      · show (sPut ys.2).length ≤ 320
        omega
      · decide
      · decide
      · decide
    · exact Ent.rowS Ent.nil
end Go.SL

/- laws: toSpanS, szSpanS, markSpanS, heldSpanS -/
set_option linter.unusedVariables false
set_option linter.unusedSimpArgs false
namespace Go.SL
open Go.RowKit Go.Proofs
theorem take_step {l : List Span} {i : Nat} {z : Span} (h : i < l.length) : (l.take i ++ List.replicate (l.length - i) z).set i (l.getD i eSpan.d) = l.take (i + 1) ++ List.replicate (l.length - (i + 1)) z := by
  rw [List.set_append_right _ _ (by simp; omega), show i - (l.take i).length = 0 by simp; omega, show l.length - i = (l.length - (i + 1)) + 1 by omega, List.replicate_succ, List.set_cons_zero]
  rw [List.take_succ_eq_append_getElem h, List.append_assoc]
  congr 1
  simp [List.getD_eq_getElem?_getD, h]
def szS (l : List Span) (n : Int) : Int := match decide (w64 (n - l.length) < 0) with
  | true => -1
  | false => w64 (n - l.length)
theorem getD_set {α : Type} {l : List α} {i : Nat} {a d : α} (h : i < l.length) : (l.set i a).getD i d = a := by simp [List.getD_eq_getElem?_getD, h]
/-- Marked: each field has a number of its own. -/
def markAt (k : Int) (i : Nat) : Span := ⟨k + 4 * i, k + 4 * i + 1, k + 4 * i + 2, k + 4 * i + 3⟩
def markS (k : Int) (n : Nat) : List Span := (List.range n).map (markAt k)
theorem markS_len (k : Int) (n : Nat) : (markS k n).length = n := by simp [markS]
theorem markS_succ (k : Int) (n : Nat) : markS k (n + 1) = markS k n ++ [markAt k n] := by simp [markS, List.range_succ]
theorem mark_step {l : List Span} {i : Nat} {k : Int} (h : i < l.length) : (markS k i ++ l.drop i).set i (markAt k i) = markS k (i + 1) ++ l.drop (i + 1) := by
  rw [List.set_append_right _ _ (by rw [markS_len]; omega), markS_len, Nat.sub_self, dropD (d := eSpan.d) h, List.set_cons_zero, markS_succ]
  simp
end Go.SL

/- laws: toPara, szPara, eqPara, markPara, heldPara. -/
set_option linter.unusedVariables false
set_option linter.unusedSimpArgs false
namespace Go.SL
open Go.RowKit Go.Proofs
def szP (p : Para) (n : Int) : Int := match decide (w64 (n - p.text.length) < 0) with
  | true => -1
  | false => match decide (szS p.spans (w64 (n - p.text.length)) < 0) with
    | true => -1
    | false => szS p.spans (w64 (n - p.text.length))
end Go.SL

/- FnExactParaCut: the walk. -/
set_option linter.unusedVariables false
set_option linter.unusedSimpArgs false
namespace Go.SL
open Go.RowKit Go.Proofs
theorem szP_big {p : Para} (ht : p.text.length ≤ 9223372036854775807) (hs : p.spans.length ≤ 9223372036854775807) (h : ¬ (p.text.length + p.spans.length ≤ 1048576)) : szP p 1048576 = -1 := by
  unfold szP
  rw [w64_in (by omega)]
  by_cases h1 : (1048576 : Int) - p.text.length < 0
  · rw [decide_eq_true h1]
  · have e : szS p.spans (1048576 - p.text.length) = -1 := by
      unfold szS
      rw [w64_in (by omega), decide_eq_true (by omega)]
    rw [decide_eq_false h1, e]
    rfl
theorem szP_ok {p : Para} (h : p.text.length + p.spans.length ≤ 1048576) : szP p 1048576 = 1048576 - p.text.length - p.spans.length := by
  unfold szP
  rw [w64_in (by omega), decide_eq_false (by omega)]
  have e : szS p.spans (1048576 - p.text.length) = 1048576 - p.text.length - p.spans.length := by
    unfold szS
    rw [w64_in (by omega), decide_eq_false (by omega)]
  rw [e, decide_eq_false (by omega)]
theorem sCut_len (p : Para) (f t : Int) : ((sCut p f t).getD zPara).spans.length ≤ 80 := by
  unfold sCut
  cases iGet p.text with
  | none => simp [zPara]
  | some xs =>
    dsimp only
    split
    · have := sSpansMove_len p.spans xs.length f (f - t)
      simp only [Option.getD_some, sMake]
      omega
    · simp [zPara]
end Go.SL

/- FnExactParaPut: the walk. -/
set_option linter.unusedVariables false
set_option linter.unusedSimpArgs false
namespace Go.SL
open Go.RowKit Go.Proofs
theorem sPutP_len (p : Para) (i : Int) (l : List UInt8) : ((sPutP p i l).getD zPara).spans.length ≤ 80 := by
  unfold sPutP
  split
  · rename_i xs zs _ _
    split
    · have := sSpansMove_len p.spans xs.length i zs.length
      simp only [Option.getD_some, sMake]
      omega
    · simp [zPara]
  · simp [zPara]
end Go.SL

/- FnParaPut: the walk. -/
set_option linter.unusedVariables false
set_option linter.unusedSimpArgs false
namespace Go.SL
open Go.RowKit Go.Proofs
set_option maxRecDepth 100000 in
set_option maxHeartbeats 8000000 in
theorem FnParaPut_c (v : Value) (l0 : List UInt8) : Spec Tryz.prog 3 [v] [rd eByte v l0, tabs] [] (fun _ : Unit => .bool true) (fun _ => []) (fun _ => True) := by
  refine Spec.mk Tryz.func3 rfl Tryz.ntmps3 rfl ?_
  intro w0 O hR hS0
  have hr := hR _ List.mem_cons_self
  have hr2 := hR _ (List.mem_cons_of_mem _ List.mem_cons_self); clear hR hS0
  repeat' (first | ((with_reducible apply iOJ); first | ((with_reducible apply iOp); refine OJ.p ?_) | with_reducible apply OJ.nil | ((with_reducible apply iOg); first | refine OJ.guardY ?_ | refine OJ.guardN ?_ | refine OJ.guardNd ?_ | refine OJ.guardU ?_ | refine OJ.guardS (fun _ => ?_) (fun _ => ?_) | fail) | ((with_reducible apply iOstore); first | (refine OJ.as AS.store ?_; rintro _ _ rfl) | (refine OJ.as AS.storeA ?_; rintro _ _ rfl) | (refine OJ.as AS.storeAV ?_; rintro _ _ rfl) | (refine OJ.as AS.storeE ?_; rintro _ _ rfl) | (refine OJ.as AS.storeEA ?_; rintro _ _ rfl) | (refine OJ.as AS.storeP ?_; rintro _ _ rfl) | fail) | ((with_reducible apply iOcall); first | (refine OJ.as AS.append1 ?_; rintro _ _ rfl) | (refine OJ.as AS.append ?_; rintro _ _ rfl) | (refine OJ.as (AS.call1 (DrawParaPut_c v l0)) ?_; rotate_right; rintro _ _ ⟨y, hy, rfl, rfl⟩) | fail) | ((with_reducible apply iObox); first | (refine OJ.as AS.box1 ?_; rintro _ _ ⟨_, rfl, rfl⟩) | (refine OJ.as AS.boxA ?_; rintro _ _ ⟨_, rfl, rfl⟩) | fail) | ((with_reducible apply iOalloc); first | (refine OJ.as AS.alloc ?_; rintro _ _ ⟨_, rfl, rfl⟩) | fail) | ((with_reducible apply iObuildSlice); first | (refine OJ.as AS.buildSlice ?_; rintro _ _ ⟨_, rfl, rfl⟩) | fail) | ((with_reducible apply iOmakeSlice); first | (refine OJ.as AS.makeSlice ?_; rintro _ _ rfl) | fail) | ((with_reducible apply iOmakeMap); first | (refine OJ.as AS.makeMap ?_; rintro _ _ ⟨_, rfl, rfl⟩) | fail) | ((with_reducible apply iOmapEntry); first | (refine OJ.as AS.mapEntry ?_; rintro _ _ ⟨_, _, rfl, rfl⟩) | fail) | ((with_reducible apply iOentryStore); first | (refine OJ.as AS.entryStore ?_; rintro _ _ rfl) | fail) | ((with_reducible apply iOinsert); first | (refine OJ.as AS.insert ?_; rintro _ _ rfl) | fail) | ((with_reducible apply iOmapUpdate); first | (refine OJ.as AS.mapUpdate ?_; rintro _ _ rfl) | fail) | refine OJ.unboxP fun _ => ?_ | fail) | ((with_reducible apply iJ); first | refine J.seq ?_ | refine J.region ?_ | refine J.block ?_ | refine J.skip ?_ | refine J.exit ?_ | refine J.condT ?_ | refine J.condF ?_ | refine J.cond (fun _ => ?_) (fun _ => ?_) | refine J.retB ?_ | fail) | ((with_reducible apply iJK); first | refine JK.code ?_ | refine JK.blk ?_ | refine JK.loop ?_ | refine JK.begin ?_ | refine JK.more ?_ | fail) | ((with_reducible apply iEnt); first | exact Ent.nil | ((with_reducible apply iERow); refine Ent.row ?_ ?_) | ((with_reducible apply iEBox); first | refine Ent.box ?_ ?_ | refine Ent.box2 ?_ ?_) | ((with_reducible apply iEBlk); refine Ent.blk ?_ ?_) | ((with_reducible apply iEPure); refine Ent.pure ?_ ?_) | ((with_reducible apply iERdR); first | refine Ent.rdR ?_ | refine Ent.any ?_ | fail) | refine Ent.any ?_ | with_reducible exact Ent.refl | fail) | ((with_reducible apply iEq); with_reducible rfl) | fail)
  rename DPara × Int × List UInt8 => q
  obtain ⟨⟨p, vp⟩, i, l⟩ := q
  dsimp only at hy
  have hy' := hy
  have hI := fun v => iPutP_c p v i l (by omega) (by omega) (by omega)
  have hS := fun v => sPutP_c p v i l (by omega) (by omega)
  have hZ := fun v u => wcPara_alike zPara v u
  cases hc : sPutP p i l with
  | none =>
    rw [hc] at hI hS
    dsimp only [Option.getD, Option.isSome] at hI hS
    repeat' (first | ((with_reducible apply iOJ); first | ((with_reducible apply iOp); refine OJ.p ?_) | with_reducible apply OJ.nil | ((with_reducible apply iOg); first | refine OJ.guardY ?_ | refine OJ.guardN ?_ | refine OJ.guardNd ?_ | refine OJ.guardU ?_ | refine OJ.guardS (fun _ => ?_) (fun _ => ?_) | fail) | ((with_reducible apply iOstore); first | (refine OJ.as AS.store ?_; rintro _ _ rfl) | (refine OJ.as AS.storeA ?_; rintro _ _ rfl) | (refine OJ.as AS.storeAV ?_; rintro _ _ rfl) | (refine OJ.as AS.storeE ?_; rintro _ _ rfl) | (refine OJ.as AS.storeEA ?_; rintro _ _ rfl) | (refine OJ.as AS.storeP ?_; rintro _ _ rfl) | fail) | ((with_reducible apply iOcall); first | (refine OJ.as AS.append1 ?_; rintro _ _ rfl) | (refine OJ.as AS.append ?_; rintro _ _ rfl) | (refine OJ.as (AS.call1 (hI _)) ?_; rotate_right; rintro _ _ ⟨y, hy, rfl, rfl⟩) | (refine OJ.as (AS.call1 (hS _)) ?_; rotate_right; rintro _ _ ⟨y, hy, rfl, rfl⟩) | (refine OJ.as (AS.call0 (hZ _ _)) ?_; rotate_right; rintro _ _ ⟨y, hy, rfl, rfl⟩) | fail) | ((with_reducible apply iObox); first | (refine OJ.as AS.box1 ?_; rintro _ _ ⟨_, rfl, rfl⟩) | (refine OJ.as AS.boxA ?_; rintro _ _ ⟨_, rfl, rfl⟩) | fail) | ((with_reducible apply iOalloc); first | (refine OJ.as AS.alloc ?_; rintro _ _ ⟨_, rfl, rfl⟩) | fail) | ((with_reducible apply iObuildSlice); first | (refine OJ.as AS.buildSlice ?_; rintro _ _ ⟨_, rfl, rfl⟩) | fail) | ((with_reducible apply iOmakeSlice); first | (refine OJ.as AS.makeSlice ?_; rintro _ _ rfl) | fail) | ((with_reducible apply iOmakeMap); first | (refine OJ.as AS.makeMap ?_; rintro _ _ ⟨_, rfl, rfl⟩) | fail) | ((with_reducible apply iOmapEntry); first | (refine OJ.as AS.mapEntry ?_; rintro _ _ ⟨_, _, rfl, rfl⟩) | fail) | ((with_reducible apply iOentryStore); first | (refine OJ.as AS.entryStore ?_; rintro _ _ rfl) | fail) | ((with_reducible apply iOinsert); first | (refine OJ.as AS.insert ?_; rintro _ _ rfl) | fail) | ((with_reducible apply iOmapUpdate); first | (refine OJ.as AS.mapUpdate ?_; rintro _ _ rfl) | fail) | refine OJ.unboxP fun _ => ?_ | fail) | ((with_reducible apply iJ); first | refine J.seq ?_ | refine J.region ?_ | refine J.block ?_ | refine J.skip ?_ | refine J.exit ?_ | refine J.condT ?_ | refine J.condF ?_ | refine J.cond (fun _ => ?_) (fun _ => ?_) | refine J.retB ?_ | fail) | ((with_reducible apply iJK); first | refine JK.code ?_ | refine JK.blk ?_ | refine JK.loop ?_ | refine JK.begin ?_ | refine JK.more ?_ | fail) | ((with_reducible apply iEnt); first | exact Ent.nil | ((with_reducible apply iERow); refine Ent.row ?_ ?_) | ((with_reducible apply iEBox); first | refine Ent.box ?_ ?_ | refine Ent.box2 ?_ ?_) | ((with_reducible apply iEBlk); refine Ent.blk ?_ ?_) | ((with_reducible apply iEPure); refine Ent.pure ?_ ?_) | ((with_reducible apply iERdR); first | refine Ent.rdR ?_ | refine Ent.any ?_ | fail) | refine Ent.any ?_ | with_reducible exact Ent.refl | fail) | ((with_reducible apply iEq); with_reducible rfl) | fail)
    all_goals first | rfl | decide | (exfalso; simp_all; done)
  | some G =>
    rw [hc] at hI hS
    dsimp only [Option.getD, Option.isSome] at hI hS
    have hE := fun v u => wcPara_alike G v u
    obtain ⟨xs, zs, h1, h2, h3, h4, h5, h6, h7, h8, h9⟩ := (sPutP_is hc).xs
    obtain ⟨Y, hY1, hY2, hY3⟩ := put_cut hc h1 h2
    have hxl := iGet_len h1
    have hzl := iGet_len h2
    have hlG := check_len h8
    have hIA := fun v => iCut_c G v i (i + zs.length) (by omega) (by omega)
    rw [hY1] at hIA
    dsimp only [Option.getD, Option.isSome] at hIA
    have hU := iGet_c p.text (by omega)
    have hW := iGet_c l (by omega)
    have hV := iGet_c G.text (by omega)
    rw [h1] at hU
    rw [h2] at hW
    rw [h9] at hV
    dsimp only [Option.getD, Option.isSome] at hU hV hW
    have hK := fun v => checkOk_c G v (by omega) h8 (by omega)
    have hP := fun v => iPlain_c v p.spans xs.length (by omega)
    have hX := fun v u => wcSpans_alike v u (iPlain p.spans xs.length)
    have hAl : (xs.take i.toNat ++ zs ++ xs.drop i.toNat).length = xs.length + zs.length := put_len h4
    have hmid : List.take ((i + (zs.length : Int)).toNat - i.toNat) (List.drop i.toNat (xs.take i.toNat ++ zs ++ xs.drop i.toNat)) = zs := by
      rw [show (i + (zs.length : Int)).toNat - i.toNat = zs.length by omega]
      exact put_mid xs zs (by omega)
    obtain ⟨A, hA⟩ : ∃ A, xs.take i.toNat ++ zs ++ xs.drop i.toNat = A := ⟨_, rfl⟩
    rw [hA] at hAl hmid hV
    have hN : ∀ v u, Spec Tryz.prog 10 [v, u] [rd eInt v (List.take ((i + (zs.length : Int)).toNat - i.toNat) (List.drop i.toNat A)), rd eInt u zs] [] (fun _ : Unit => .bool true) (fun _ => []) (fun _ => True) := fun v u => by
      rw [hmid]
      exact wcInts_alike v u _
    clear hmid hA h7 h9 hc hY1 h6
    rw [← hY3] at hX hP
    dsimp only
    repeat' (first | ((with_reducible apply iOJ); first | ((with_reducible apply iOp); refine OJ.p ?_) | with_reducible apply OJ.nil | ((with_reducible apply iOg); first | refine OJ.guardY ?_ | refine OJ.guardN ?_ | refine OJ.guardNd ?_ | refine OJ.guardU ?_ | refine OJ.guardS (fun _ => ?_) (fun _ => ?_) | fail) | ((with_reducible apply iOstore); first | (refine OJ.as AS.store ?_; rintro _ _ rfl) | (refine OJ.as AS.storeA ?_; rintro _ _ rfl) | (refine OJ.as AS.storeAV ?_; rintro _ _ rfl) | (refine OJ.as AS.storeE ?_; rintro _ _ rfl) | (refine OJ.as AS.storeEA ?_; rintro _ _ rfl) | (refine OJ.as AS.storeP ?_; rintro _ _ rfl) | fail) | ((with_reducible apply iOcall); first | (refine OJ.as AS.append1 ?_; rintro _ _ rfl) | (refine OJ.as AS.append ?_; rintro _ _ rfl) | (refine OJ.as (AS.call1 (hI _)) ?_; rotate_right; rintro _ _ ⟨y, hy, rfl, rfl⟩) | (refine OJ.as (AS.call1 (hS _)) ?_; rotate_right; rintro _ _ ⟨y, hy, rfl, rfl⟩) | (refine OJ.as (AS.call0 (hE _ _)) ?_; rotate_right; rintro _ _ ⟨y, hy, rfl, rfl⟩) | (refine OJ.as (AS.call1 (hU)) ?_; rotate_right; rintro _ _ ⟨y, hy, rfl, rfl⟩) | (refine OJ.as (AS.call1 (hW)) ?_; rotate_right; rintro _ _ ⟨y, hy, rfl, rfl⟩) | (refine OJ.as (AS.call1 (hV)) ?_; rotate_right; rintro _ _ ⟨y, hy, rfl, rfl⟩) | (refine OJ.as (AS.call1 (hIA _)) ?_; rotate_right; rintro _ _ ⟨y, hy, rfl, rfl⟩) | fail) | ((with_reducible apply iObox); first | (refine OJ.as AS.box1 ?_; rintro _ _ ⟨_, rfl, rfl⟩) | (refine OJ.as AS.boxA ?_; rintro _ _ ⟨_, rfl, rfl⟩) | fail) | ((with_reducible apply iOalloc); first | (refine OJ.as AS.alloc ?_; rintro _ _ ⟨_, rfl, rfl⟩) | fail) | ((with_reducible apply iObuildSlice); first | (refine OJ.as AS.buildSlice ?_; rintro _ _ ⟨_, rfl, rfl⟩) | fail) | ((with_reducible apply iOmakeSlice); first | (refine OJ.as AS.makeSlice ?_; rintro _ _ rfl) | fail) | ((with_reducible apply iOmakeMap); first | (refine OJ.as AS.makeMap ?_; rintro _ _ ⟨_, rfl, rfl⟩) | fail) | ((with_reducible apply iOmapEntry); first | (refine OJ.as AS.mapEntry ?_; rintro _ _ ⟨_, _, rfl, rfl⟩) | fail) | ((with_reducible apply iOentryStore); first | (refine OJ.as AS.entryStore ?_; rintro _ _ rfl) | fail) | ((with_reducible apply iOinsert); first | (refine OJ.as AS.insert ?_; rintro _ _ rfl) | fail) | ((with_reducible apply iOmapUpdate); first | (refine OJ.as AS.mapUpdate ?_; rintro _ _ rfl) | fail) | refine OJ.unboxP fun _ => ?_ | fail) | ((with_reducible apply iJ); first | refine J.seq ?_ | refine J.region ?_ | refine J.block ?_ | refine J.skip ?_ | refine J.exit ?_ | refine J.condT ?_ | refine J.condF ?_ | refine J.cond (fun _ => ?_) (fun _ => ?_) | fail) | ((with_reducible apply iJK); first | refine JK.code ?_ | refine JK.blk ?_ | refine JK.loop ?_ | refine JK.begin ?_ | refine JK.more ?_ | fail) | ((with_reducible apply iEnt); first | exact Ent.nil | ((with_reducible apply iERow); refine Ent.row ?_ ?_) | ((with_reducible apply iEBox); first | refine Ent.box ?_ ?_ | refine Ent.box2 ?_ ?_) | ((with_reducible apply iEBlk); refine Ent.blk ?_ ?_) | ((with_reducible apply iEPure); refine Ent.pure ?_ ?_) | ((with_reducible apply iERdR); first | refine Ent.rdR ?_ | refine Ent.any ?_ | fail) | refine Ent.any ?_ | with_reducible exact Ent.refl | fail) | ((with_reducible apply iEq); with_reducible rfl) | fail)
    all_goals clear hI hS hE hIA hU hW hV
    refine J.draw (hL := KeepIf.mk Ent.refl) ?_
    repeat' (first | ((with_reducible apply iOJ); first | ((with_reducible apply iOp); refine OJ.p ?_) | with_reducible apply OJ.nil | ((with_reducible apply iOg); first | refine OJ.guardY ?_ | refine OJ.guardN ?_ | refine OJ.guardNd ?_ | refine OJ.guardU ?_ | refine OJ.guardS (fun _ => ?_) (fun _ => ?_) | fail) | ((with_reducible apply iOstore); first | (refine OJ.as AS.store ?_; rintro _ _ rfl) | (refine OJ.as AS.storeA ?_; rintro _ _ rfl) | (refine OJ.as AS.storeAV ?_; rintro _ _ rfl) | (refine OJ.as AS.storeE ?_; rintro _ _ rfl) | (refine OJ.as AS.storeEA ?_; rintro _ _ rfl) | (refine OJ.as AS.storeP ?_; rintro _ _ rfl) | fail) | ((with_reducible apply iOcall); first | (refine OJ.as AS.append1 ?_; rintro _ _ rfl) | (refine OJ.as AS.append ?_; rintro _ _ rfl) | fail) | ((with_reducible apply iObox); first | (refine OJ.as AS.box1 ?_; rintro _ _ ⟨_, rfl, rfl⟩) | (refine OJ.as AS.boxA ?_; rintro _ _ ⟨_, rfl, rfl⟩) | fail) | ((with_reducible apply iOalloc); first | (refine OJ.as AS.alloc ?_; rintro _ _ ⟨_, rfl, rfl⟩) | fail) | ((with_reducible apply iObuildSlice); first | (refine OJ.as AS.buildSlice ?_; rintro _ _ ⟨_, rfl, rfl⟩) | fail) | ((with_reducible apply iOmakeSlice); first | (refine OJ.as AS.makeSlice ?_; rintro _ _ rfl) | fail) | ((with_reducible apply iOmakeMap); first | (refine OJ.as AS.makeMap ?_; rintro _ _ ⟨_, rfl, rfl⟩) | fail) | ((with_reducible apply iOmapEntry); first | (refine OJ.as AS.mapEntry ?_; rintro _ _ ⟨_, _, rfl, rfl⟩) | fail) | ((with_reducible apply iOentryStore); first | (refine OJ.as AS.entryStore ?_; rintro _ _ rfl) | fail) | ((with_reducible apply iOinsert); first | (refine OJ.as AS.insert ?_; rintro _ _ rfl) | fail) | ((with_reducible apply iOmapUpdate); first | (refine OJ.as AS.mapUpdate ?_; rintro _ _ rfl) | fail) | refine OJ.unboxP fun _ => ?_ | fail) | ((with_reducible apply iJ); first | refine J.seq ?_ | refine J.region ?_ | refine J.block ?_ | refine J.skip ?_ | refine J.exit ?_ | refine J.condT ?_ | refine J.condF ?_ | refine J.cond (fun _ => ?_) (fun _ => ?_) | refine J.retB ?_ | fail) | ((with_reducible apply iJK); first | refine JK.code ?_ | refine JK.blk ?_ | refine JK.loop ?_ | refine JK.begin ?_ | refine JK.more ?_ | fail) | ((with_reducible apply iAJ); first | refine AJ.rebase (hL := KeepIf.mk (ent_drop Ent.refl)) ?_ | refine AJ.regain (hL := KeepIf.mk (ent_drop Ent.refl)) ?_ | refine AJ.take ?_ | refine AJ.takeY ?_ | refine AJ.takeN ?_ | refine AJ.takeNd ?_ | refine AJ.takeNS ?_ | refine AJ.takeU ?_ | refine AJ.sel ?_ | refine AJ.selY ?_ | refine AJ.sel2 ?_ ?_ | refine AJ.split (fun _ => ?_) (fun _ => ?_) | refine AJ.done ?_ | fail) | ((with_reducible apply iAO); first | ((with_reducible apply iAstore); first | (refine AO.as AS.store ?_; rotate_right; rintro _ _ rfl; refine AO.step ?_) | (refine AO.as AS.storeA ?_; rotate_right; rintro _ _ rfl; refine AO.step ?_) | (refine AO.as AS.storeAV ?_; rotate_right; rintro _ _ rfl; refine AO.step ?_) | (refine AO.as AS.storeE ?_; rotate_right; rintro _ _ rfl; refine AO.step ?_) | (refine AO.as AS.storeEA ?_; rotate_right; rintro _ _ rfl; refine AO.step ?_) | (refine AO.as AS.storeP ?_; rotate_right; rintro _ _ rfl; refine AO.step ?_) | fail) | ((with_reducible apply iAcall); first | (refine AO.as AS.append1 ?_; rotate_right; rintro _ _ rfl; refine AO.step ?_) | (refine AO.as AS.append ?_; rotate_right; rintro _ _ rfl; refine AO.step ?_) | (refine AO.as (AS.call0 (hN _ _)) ?_; rotate_right; rintro _ _ ⟨y, hy, rfl, rfl⟩; refine AO.step ?_) | (refine AO.as (AS.call0 (hK _)) ?_; rotate_right; rintro _ _ ⟨y, hy, rfl, rfl⟩; refine AO.step ?_) | (refine AO.as (AS.call1 (hP _)) ?_; rotate_right; rintro _ _ ⟨y, hy, rfl, rfl⟩; refine AO.step ?_) | (refine AO.as (AS.call0 (hX _ _)) ?_; rotate_right; rintro _ _ ⟨y, hy, rfl, rfl⟩; refine AO.step ?_) | fail) | ((with_reducible apply iAbox); first | (refine AO.as AS.box1 ?_; rotate_right; rintro _ _ ⟨_, rfl, rfl⟩; refine AO.step ?_) | (refine AO.as AS.boxA ?_; rotate_right; rintro _ _ ⟨_, rfl, rfl⟩; refine AO.step ?_) | fail) | ((with_reducible apply iAalloc); first | (refine AO.as AS.alloc ?_; rotate_right; rintro _ _ ⟨_, rfl, rfl⟩; refine AO.step ?_) | fail) | ((with_reducible apply iAbuildSlice); first | (refine AO.as AS.buildSlice ?_; rotate_right; rintro _ _ ⟨_, rfl, rfl⟩; refine AO.step ?_) | fail) | ((with_reducible apply iAmakeSlice); first | (refine AO.as AS.makeSlice ?_; rotate_right; rintro _ _ rfl; refine AO.step ?_) | fail) | ((with_reducible apply iAmakeMap); first | (refine AO.as AS.makeMap ?_; rotate_right; rintro _ _ ⟨_, rfl, rfl⟩; refine AO.step ?_) | fail) | ((with_reducible apply iAmapEntry); first | (refine AO.as AS.mapEntry ?_; rotate_right; rintro _ _ ⟨_, _, rfl, rfl⟩; refine AO.step ?_) | fail) | ((with_reducible apply iAentryStore); first | (refine AO.as AS.entryStore ?_; rotate_right; rintro _ _ rfl; refine AO.step ?_) | fail) | ((with_reducible apply iAinsert); first | (refine AO.as AS.insert ?_; rotate_right; rintro _ _ rfl; refine AO.step ?_) | fail) | ((with_reducible apply iAmapUpdate); first | (refine AO.as AS.mapUpdate ?_; rotate_right; rintro _ _ rfl; refine AO.step ?_) | fail) | fail) | ((with_reducible apply iEnt); first | exact Ent.nil | ((with_reducible apply iERow); refine Ent.row ?_ ?_) | ((with_reducible apply iEBox); first | refine Ent.box ?_ ?_ | refine Ent.box2 ?_ ?_) | ((with_reducible apply iEBlk); refine Ent.blk ?_ ?_) | ((with_reducible apply iEPure); refine Ent.pure ?_ ?_) | ((with_reducible apply iERdR); first | refine Ent.rdR ?_ | refine Ent.any ?_ | fail) | refine Ent.any ?_ | with_reducible exact Ent.refl | fail) | ((with_reducible apply iEq); with_reducible rfl) | fail)
    all_goals first | rfl | (exfalso; omega) | exact absurd hY2 (by assumption)
end Go.SL
