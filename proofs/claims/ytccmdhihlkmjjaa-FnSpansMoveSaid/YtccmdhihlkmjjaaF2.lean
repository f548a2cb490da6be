/- FnSpansMove: the walk, and what it answers. -/
import Derived.Test.YtccmdhihlkmjjaaF0
import Derived.Test.YtccmdhihlkmjjaaD0
import Derived.Test.YtccmdhihlkmjjaaE4
namespace Go.SL
open Go.RowKit Go.Proofs
theorem wcSpans_same (v u : Value) (l : List Span) : Spec Try.prog 13 [v, u] [rd eSpan v l, rd eSpan u l] [] (fun _ : Unit => .bool true) (fun _ => []) (fun _ => True) := by
  have := wcSpans_c v u l l
  rwa [eqSpS_refl] at this
theorem law_at {l : List Span} {n a k : Int} (h : sMoveOk l n a k = true) {i : Nat} (hi : (i : Int) < n + k) : iSpanAt (sSpansMove l n a k) i =
    if k < 0 then (if a ≤ i then iSpanAt l (i - k) else iSpanAt l i) else if (i : Int) < a then iSpanAt l i else if (i : Int) < a + k then (if a = 0 then ⟨10, 0⟩ else iSpanAt l (a - 1)) else iSpanAt l (i - k) := by
  have hn := ok_n h
  have hs : sSpansOk l n = true := by simp only [sMoveOk, Bool.and_eq_true] at h; exact h.1
  have e : ∀ j : Int, 0 ≤ j → iSpanAt l j = lookOf l j.toNat := fun j hj => by
    have := iSpanAt_eq hs j.toNat
    rwa [Int.toNat_of_nonneg hj] at this
  rw [at_moved h hi, mvd_at h hi]
  repeat' split
  all_goals first
    | rfl
    | (exfalso; omega)
    | rw [e _ (by omega)]; done
    | (rw [e _ (by omega)]; rfl)
theorem ok_wc {l : List Span} {n a k : Int} (h1 : sSpansOk l n = true) (h2 : inR a 0 n = true) (h3 : inR k (a - n) (80 - n) = true) : sMoveOk l n a k = true := by
  have hn := ok_c h1
  simp only [sMoveOk, Bool.and_eq_true, inR_eq] at *
  rw [w64_in (n := n - a) (by omega), w64_in (by omega), w64_in (by omega)]
  exact ⟨h1, h2, by omega, by omega⟩
set_option maxRecDepth 100000 in
set_option maxHeartbeats 8000000 in
theorem FnSpansMove_c (v : Value) (l0 : List UInt8) : Spec Try.prog 4 [v] [rd eByte v l0] [] (fun _ : Unit => .bool true) (fun _ => []) (fun _ => True) := by
  refine Spec.mk Try.func4 rfl Try.ntmps4 rfl ?_
  intro w0 O hR hS0
  have hr := hR _ List.mem_cons_self; clear hR hS0
  repeat' (first | ((with_reducible apply iOJ); first | ((with_reducible apply iOp); refine OJ.p ?_) | with_reducible apply OJ.nil | ((with_reducible apply iOg); first | refine OJ.guardY ?_ | refine OJ.guardN ?_ | refine OJ.guardNd ?_ | refine OJ.guardU ?_ | refine OJ.guardS (fun _ => ?_) (fun _ => ?_) | fail) | ((with_reducible apply iOstore); first | (refine OJ.as AS.store ?_; rintro _ _ rfl) | (refine OJ.as AS.storeA ?_; rintro _ _ rfl) | (refine OJ.as AS.storeE ?_; rintro _ _ rfl) | (refine OJ.as AS.storeEA ?_; rintro _ _ rfl) | fail) | ((with_reducible apply iOcall); first | (refine OJ.as AS.append1 ?_; rintro _ _ rfl) | (refine OJ.as AS.append ?_; rintro _ _ rfl) | (refine OJ.as (AS.call1 (DrawSpansMove_c v l0)) ?_; rotate_right; rintro _ _ ⟨y, hy, rfl, rfl⟩) | fail) | ((with_reducible apply iObox); first | (refine OJ.as AS.box1 ?_; rintro _ _ ⟨_, rfl, rfl⟩) | (refine OJ.as AS.boxA ?_; rintro _ _ ⟨_, rfl, rfl⟩) | fail) | ((with_reducible apply iOalloc); first | (refine OJ.as AS.alloc ?_; rintro _ _ ⟨_, rfl, rfl⟩) | fail) | ((with_reducible apply iObuildSlice); first | (refine OJ.as AS.buildSlice ?_; rintro _ _ ⟨_, rfl, rfl⟩) | fail) | ((with_reducible apply iOmakeSlice); first | (refine OJ.as AS.makeSlice ?_; rintro _ _ rfl) | fail) | refine OJ.unboxP fun _ => ?_ | fail) | ((with_reducible apply iJ); first | refine J.seq ?_ | refine J.region ?_ | refine J.block ?_ | refine J.skip ?_ | refine J.exit ?_ | refine J.condT ?_ | refine J.condF ?_ | refine J.cond (fun _ => ?_) (fun _ => ?_) | refine J.retB ?_ | fail) | ((with_reducible apply iJK); first | refine JK.code ?_ | refine JK.blk ?_ | refine JK.loop ?_ | refine JK.begin ?_ | refine JK.more ?_ | fail) | ((with_reducible apply iEnt); first | exact Ent.nil | ((with_reducible apply iERow); refine Ent.row ?_ ?_) | ((with_reducible apply iEBox); first | refine Ent.box ?_ ?_ | refine Ent.box2 ?_ ?_) | ((with_reducible apply iEBlk); refine Ent.blk ?_ ?_) | refine Ent.any ?_ | with_reducible exact Ent.refl | fail) | ((with_reducible apply iEq); with_reducible rfl) | fail)
  rename Value × List Span × Int × Int × Int => q
  have hq := hy; clear hy
  have hI := fun v => iSpansMove_any v q.2.1 q.2.2.1 q.2.2.2.1 q.2.2.2.2
  have hSp := fun v => sSpansMove_c v q.2.1 q.2.2.1 q.2.2.2.1 q.2.2.2.2
  have hSl := sSpansMove_len q.2.1 q.2.2.1 q.2.2.2.1 q.2.2.2.2
  have hAt := fun h (i : Nat) => @law_at q.2.1 q.2.2.1 q.2.2.2.1 q.2.2.2.2 h i
  have hBk := @moved_back q.2.1 q.2.2.1 q.2.2.2.1 q.2.2.2.2
  have hOk := @ok_wc q.2.1 q.2.2.1 q.2.2.2.1 q.2.2.2.2
  obtain ⟨S, hSe⟩ : ∃ S, sSpansMove q.2.1 q.2.2.1 q.2.2.2.1 q.2.2.2.2 = S := ⟨_, rfl⟩
  simp only [hSe] at hI hSp hSl hAt hBk
  clear hSe
  repeat' (first | ((with_reducible apply iOJ); first | ((with_reducible apply iOp); refine OJ.p ?_) | with_reducible apply OJ.nil | ((with_reducible apply iOg); first | refine OJ.guardY ?_ | refine OJ.guardN ?_ | refine OJ.guardNd ?_ | refine OJ.guardU ?_ | refine OJ.guardS (fun _ => ?_) (fun _ => ?_) | fail) | ((with_reducible apply iOstore); first | (refine OJ.as AS.store ?_; rintro _ _ rfl) | (refine OJ.as AS.storeA ?_; rintro _ _ rfl) | (refine OJ.as AS.storeE ?_; rintro _ _ rfl) | (refine OJ.as AS.storeEA ?_; rintro _ _ rfl) | fail) | ((with_reducible apply iOcall); first | (refine OJ.as AS.append1 ?_; rintro _ _ rfl) | (refine OJ.as AS.append ?_; rintro _ _ rfl) | (refine OJ.as (AS.call1 (hI _)) ?_; rotate_right; rintro _ _ ⟨y, hy, rfl, rfl⟩) | (refine OJ.as (AS.call1 (hSp _)) ?_; rotate_right; rintro _ _ ⟨y, hy, rfl, rfl⟩) | (refine OJ.as (AS.call0 (wcSpans_same _ _ S)) ?_; rotate_right; rintro _ _ ⟨y, hy, rfl, rfl⟩) | (refine OJ.as (AS.call0 (SpansOk_c _ q.2.1 q.2.2.1)) ?_; rotate_right; rintro _ _ ⟨y, hy, rfl, rfl⟩) | (refine OJ.as (AS.call0 (wcIn_c _ _ _)) ?_; rotate_right; rintro _ _ ⟨y, hy, rfl, rfl⟩) | fail) | ((with_reducible apply iObox); first | (refine OJ.as AS.box1 ?_; rintro _ _ ⟨_, rfl, rfl⟩) | (refine OJ.as AS.boxA ?_; rintro _ _ ⟨_, rfl, rfl⟩) | fail) | ((with_reducible apply iOalloc); first | (refine OJ.as AS.alloc ?_; rintro _ _ ⟨_, rfl, rfl⟩) | fail) | ((with_reducible apply iObuildSlice); first | (refine OJ.as AS.buildSlice ?_; rintro _ _ ⟨_, rfl, rfl⟩) | fail) | ((with_reducible apply iOmakeSlice); first | (refine OJ.as AS.makeSlice ?_; rintro _ _ rfl) | fail) | refine OJ.unboxP fun _ => ?_ | fail) | ((with_reducible apply iJ); first | refine J.seq ?_ | refine J.region ?_ | refine J.block ?_ | refine J.skip ?_ | refine J.exit ?_ | refine J.condT ?_ | refine J.condF ?_ | refine J.cond (fun _ => ?_) (fun _ => ?_) | refine J.retB ?_ | fail) | ((with_reducible apply iJK); first | refine JK.code ?_ | refine JK.blk ?_ | refine JK.loop ?_ | refine JK.begin ?_ | refine JK.more ?_ | fail) | ((with_reducible apply iEnt); first | exact Ent.nil | ((with_reducible apply iERow); refine Ent.row ?_ ?_) | ((with_reducible apply iEBox); first | refine Ent.box ?_ ?_ | refine Ent.box2 ?_ ?_) | ((with_reducible apply iEBlk); refine Ent.blk ?_ ?_) | refine Ent.any ?_ | with_reducible exact Ent.refl | fail) | ((with_reducible apply iEq); with_reducible rfl) | fail)
  all_goals try (exfalso; simp at *; done)
  rename_i u2 _ u1 _ _ _ _ _ hok _ _ hin1 hin2
  have hM := hOk hok hin1 hin2
  have hn := ok_n hM
  have hAt := hAt hM
  have hBk := hBk hM
  clear hok hin1 hin2 hOk hM hI hSp
  have hI2 : 0 ≤ q.2.2.2.2 → Spec Try.prog 8 [u2, .int .i64 (q.2.2.1 + q.2.2.2.2), .int .i64 q.2.2.2.1, .int .i64 (-q.2.2.2.2)] [rd eSpan u2 S] [] (fun u : Value => u) (fun u => [row eSpan 44 u (iPlain q.2.1 q.2.2.1)]) (fun _ => True) := fun h => by
    have := iSpansMove_any u2 S (q.2.2.1 + q.2.2.2.2) q.2.2.2.1 (-q.2.2.2.2)
    rwa [hBk h] at this
  have hP := iPlain_c q.1 q.2.1 q.2.2.1 (by omega)
  obtain ⟨T, hT⟩ : ∃ T, iPlain q.2.1 q.2.2.1 = T := ⟨_, rfl⟩
  rw [hT] at hI2 hP
  refine J.loopI (fun i : Nat => (i : Int) ≤ q.2.2.1 + q.2.2.2.2) (fun i => (q.2.2.1 + q.2.2.2.2 - i).toNat) (fun i => [(8, .int .i64 i), (3, q.1), (4, .int .i64 q.2.2.1), (5, .int .i64 q.2.2.2.1), (6, .int .i64 q.2.2.2.2), (7, u2)]) (fun _ => [row eSpan 44 u2 S, row eSpan 44 q.1 q.2.1]) 0 (by omega) ?_
  rintro i hi ih
  repeat' (first | ((with_reducible apply iOJ); first | ((with_reducible apply iOp); refine OJ.p ?_) | with_reducible apply OJ.nil | ((with_reducible apply iOg); first | refine OJ.guardY ?_ | refine OJ.guardN ?_ | refine OJ.guardNd ?_ | refine OJ.guardU ?_ | refine OJ.guardS (fun _ => ?_) (fun _ => ?_) | fail) | ((with_reducible apply iOstore); first | (refine OJ.as AS.store ?_; rintro _ _ rfl) | (refine OJ.as AS.storeA ?_; rintro _ _ rfl) | (refine OJ.as AS.storeE ?_; rintro _ _ rfl) | (refine OJ.as AS.storeEA ?_; rintro _ _ rfl) | fail) | ((with_reducible apply iOcall); first | (refine OJ.as AS.append1 ?_; rintro _ _ rfl) | (refine OJ.as AS.append ?_; rintro _ _ rfl) | (refine OJ.as (AS.call0 (iSpanAt_c _ q.2.1 _)) ?_; rotate_right; rintro _ _ ⟨y, hy, rfl, rfl⟩) | (refine OJ.as (AS.call0 (iSpanAt_c _ S _)) ?_; rotate_right; rintro _ _ ⟨y, hy, rfl, rfl⟩) | (refine OJ.as (AS.call1 (hI2 (by omega))) ?_; rotate_right; rintro _ _ ⟨y, hy, rfl, rfl⟩) | (refine OJ.as (AS.call1 (hP)) ?_; rotate_right; rintro _ _ ⟨y, hy, rfl, rfl⟩) | (refine OJ.as (AS.call0 (wcSpans_same _ _ T)) ?_; rotate_right; rintro _ _ ⟨y, hy, rfl, rfl⟩) | fail) | ((with_reducible apply iObox); first | (refine OJ.as AS.box1 ?_; rintro _ _ ⟨_, rfl, rfl⟩) | (refine OJ.as AS.boxA ?_; rintro _ _ ⟨_, rfl, rfl⟩) | fail) | ((with_reducible apply iOalloc); first | (refine OJ.as AS.alloc ?_; rintro _ _ ⟨_, rfl, rfl⟩) | fail) | ((with_reducible apply iObuildSlice); first | (refine OJ.as AS.buildSlice ?_; rintro _ _ ⟨_, rfl, rfl⟩) | fail) | ((with_reducible apply iOmakeSlice); first | (refine OJ.as AS.makeSlice ?_; rintro _ _ rfl) | fail) | refine OJ.unboxP fun _ => ?_ | fail) | ((with_reducible apply iJ); first | refine J.seq ?_ | refine J.region ?_ | refine J.block ?_ | refine J.skip ?_ | refine J.exit ?_ | refine J.condT ?_ | refine J.condF ?_ | refine J.cond (fun _ => ?_) (fun _ => ?_) | refine J.retB ?_ | fail) | ((with_reducible apply iJK); first | refine JK.code ?_ | refine JK.blk ?_ | refine JK.loop ?_ | refine JK.begin ?_ | refine JK.more ?_ | fail) | ((with_reducible apply iJL); first | refine JL.use (ih (i + 1) (by omega) (by omega)) | fail) | ((with_reducible apply iEnt); first | exact Ent.nil | ((with_reducible apply iERow); refine Ent.row ?_ ?_) | ((with_reducible apply iEBox); first | refine Ent.box ?_ ?_ | refine Ent.box2 ?_ ?_) | ((with_reducible apply iEBlk); refine Ent.blk ?_ ?_) | refine Ent.any ?_ | with_reducible exact Ent.refl | fail) | ((with_reducible apply iEq); with_reducible rfl) | fail)
  all_goals clear ih hr hI2 hP
  all_goals first
    | rfl
    | (exfalso; omega)
    | (exfalso; have e := hAt i (by omega); (repeat' split at e) <;> first | omega | (simp [e] at *; done))
end Go.SL
