/- spec.SpansMove -/
import Derived.Test.YtccmdhihlkmjjaaA9
import Derived.Test.YtccmdhihlkmjjaaA4
namespace Go.SL
open Go.RowKit Go.Proofs
theorem l6Looks_i (v : Value) (l : List Span) (c : Int) (h0 : 0 ≤ c) (h1 : c ≤ 1000000) : Spec Try.prog 21 [v, .int .i64 c] [rd eSpan v l] [] (fun u : Value => u) (fun u => [row eLook 66 u (sLooks l c.toNat)]) (fun _ => True) := by
  have h := l6Looks_c v l c.toNat (by omega)
  rwa [Int.toNat_of_nonneg h0] at h
theorem l6Move_i (v : Value) (l : List Look) (a n : Int) (h0 : 0 ≤ a) (hl : l.length ≤ 1000000) (ha : a ≤ l.length) (hn : -((l.length : Int) - a) ≤ n) (hn2 : n ≤ 1000000) : Spec Try.prog 20 [v, .int .i64 a, .int .i64 n] [rd eLook v l] [] (fun u : Value => u) (fun u => [row eLook 66 u (sMove l a.toNat n)]) (fun _ => True) := by
  have h := l6Move_c v l a.toNat n hl (by omega) (by omega) hn2
  rwa [Int.toNat_of_nonneg h0] at h
def sMoveOk (l : List Span) (c a n : Int) : Bool := sSpansOk l c && (inR a 0 c && inR n (w64 (0 - w64 (c - a))) (w64 (80 - c)))
def sSpansMove (l : List Span) (c a n : Int) : List Span := match sMoveOk l c a n with
  | true => sSpans (sMove (sLooks l c.toNat) a.toNat n)
  | false => []
theorem inR_eq {n lo hi : Int} : inR n lo hi = true ↔ lo ≤ n ∧ n ≤ hi := by simp [inR]
theorem ok_c {l : List Span} {c : Int} (h : sSpansOk l c = true) : 0 ≤ c ∧ c ≤ 80 := by
  simp only [sSpansOk, Bool.and_eq_true, inR_eq] at h
  exact h.2.2
theorem w64_in {n : Int} (h : -9223372036854775808 ≤ n ∧ n ≤ 9223372036854775807) : w64 n = n := IntWalk.i64_in n (by omega)
theorem ok_n {l : List Span} {c a n : Int} (h : sMoveOk l c a n = true) : (0 ≤ c ∧ c ≤ 80) ∧ (0 ≤ a ∧ a ≤ c) ∧ a - c ≤ n ∧ n ≤ 80 - c := by
  simp only [sMoveOk, Bool.and_eq_true, inR_eq] at h
  obtain ⟨h1, h2, h3⟩ := h
  have hc := ok_c h1
  rw [w64_in (n := c - a) (by omega), w64_in (by omega), w64_in (by omega)] at h3
  omega
theorem sMove_len {l : List Look} {a : Nat} {n : Int} (ha : a ≤ l.length) (hn : (a : Int) - l.length ≤ n) : ((sMove l a n).length : Int) = l.length + n := by
  unfold sMove
  split
  · rename_i h
    have := of_decide_eq_true h
    simp
    omega
  · rename_i h
    have := of_decide_eq_false h
    simp
    omega
set_option maxRecDepth 100000 in
set_option maxHeartbeats 8000000 in
theorem sSpansMove_c (v : Value) (l : List Span) (c a n : Int) : Spec Try.prog 6 [v, .int .i64 c, .int .i64 a, .int .i64 n] [rd eSpan v l] [] (fun u : Value => u) (fun u => [row eSpan 44 u (sSpansMove l c a n)]) (fun _ => True) := by
  refine Spec.mk Try.func6 rfl Try.ntmps6 rfl ?_
  intro w0 O hR hS0
  have hr := hR _ List.mem_cons_self; clear hR hS0
  cases hk : sMoveOk l c a n with
  | true =>
    have hb := ok_n hk
    have h1 : (sLooks l c.toNat).length = c.toNat := sLooks_len _ _
    have h2 := sMove_len (l := sLooks l c.toNat) (a := a.toNat) (n := n) (by omega) (by omega)
    have h3 : inR n (-(c - a)) (80 - c) = true := inR_eq.2 (by omega)
    have hk1 := hk
    simp only [sMoveOk, Bool.and_eq_true] at hk1
    repeat' (first | ((with_reducible apply iOJ); first | ((with_reducible apply iOp); refine OJ.p ?_) | with_reducible apply OJ.nil | ((with_reducible apply iOg); first | refine OJ.guardY ?_ | refine OJ.guardN ?_ | refine OJ.guardNd ?_ | refine OJ.guardU ?_ | refine OJ.guardS (fun _ => ?_) (fun _ => ?_) | fail) | ((with_reducible apply iOstore); first | (refine OJ.as AS.store ?_; rintro _ _ rfl) | (refine OJ.as AS.storeA ?_; rintro _ _ rfl) | (refine OJ.as AS.storeE ?_; rintro _ _ rfl) | (refine OJ.as AS.storeEA ?_; rintro _ _ rfl) | fail) | ((with_reducible apply iOcall); first | (refine OJ.as AS.append1 ?_; rintro _ _ rfl) | (refine OJ.as AS.append ?_; rintro _ _ rfl) | (refine OJ.as (AS.call0 (SpansOk_c _ l _)) ?_; rotate_right; rintro _ _ ⟨y, hy, rfl, rfl⟩) | (refine OJ.as (AS.call0 (l1In_c _ _ _)) ?_; rotate_right; rintro _ _ ⟨y, hy, rfl, rfl⟩) | (refine OJ.as (AS.call1 (l6Looks_i _ l c (by omega) (by omega))) ?_; rotate_right; rintro _ _ ⟨y, hy, rfl, rfl⟩) | (refine OJ.as (AS.call1 (l6Move_i _ (sLooks l c.toNat) a n (by omega) (by omega) (by omega) (by omega) (by omega))) ?_; rotate_right; rintro _ _ ⟨y, hy, rfl, rfl⟩) | (refine OJ.as (AS.call1 (l6Spans_c _ (sMove (sLooks l c.toNat) a.toNat n) (by omega))) ?_; rotate_right; rintro _ _ ⟨y, hy, rfl, rfl⟩) | fail) | ((with_reducible apply iObox); first | (refine OJ.as AS.box1 ?_; rintro _ _ ⟨_, rfl, rfl⟩) | (refine OJ.as AS.boxA ?_; rintro _ _ ⟨_, rfl, rfl⟩) | fail) | ((with_reducible apply iOalloc); first | (refine OJ.as AS.alloc ?_; rintro _ _ ⟨_, rfl, rfl⟩) | fail) | ((with_reducible apply iObuildSlice); first | (refine OJ.as AS.buildSlice ?_; rintro _ _ ⟨_, rfl, rfl⟩) | fail) | ((with_reducible apply iOmakeSlice); first | (refine OJ.as AS.makeSlice ?_; rintro _ _ rfl) | fail) | refine OJ.unboxP fun _ => ?_ | fail) | ((with_reducible apply iJ); first | refine J.seq ?_ | refine J.region ?_ | refine J.block ?_ | refine J.skip ?_ | refine J.exit ?_ | refine J.condT ?_ | refine J.condF ?_ | refine J.cond (fun _ => ?_) (fun _ => ?_) | refine J.draw ?_ | refine J.ret (ends _ trivial rfl ?_) | fail) | ((with_reducible apply iJK); first | refine JK.code ?_ | refine JK.blk ?_ | refine JK.loop ?_ | refine JK.begin ?_ | refine JK.more ?_ | fail) | ((with_reducible apply iAJ); first | refine AJ.rebase ?_ | refine AJ.regain ?_ | refine AJ.take ?_ | refine AJ.takeY ?_ | refine AJ.takeN ?_ | refine AJ.takeNd ?_ | refine AJ.takeNS ?_ | refine AJ.takeU ?_ | refine AJ.sel ?_ | refine AJ.selY ?_ | refine AJ.sel2 ?_ ?_ | refine AJ.split (fun _ => ?_) (fun _ => ?_) | refine AJ.done ?_ | fail) | ((with_reducible apply iAO); first | ((with_reducible apply iAstore); first | (refine AO.as AS.store ?_; rotate_right; rintro _ _ rfl; refine AO.step ?_) | (refine AO.as AS.storeA ?_; rotate_right; rintro _ _ rfl; refine AO.step ?_) | (refine AO.as AS.storeE ?_; rotate_right; rintro _ _ rfl; refine AO.step ?_) | (refine AO.as AS.storeEA ?_; rotate_right; rintro _ _ rfl; refine AO.step ?_) | fail) | ((with_reducible apply iAcall); first | (refine AO.as AS.append1 ?_; rotate_right; rintro _ _ rfl; refine AO.step ?_) | (refine AO.as AS.append ?_; rotate_right; rintro _ _ rfl; refine AO.step ?_) | fail) | ((with_reducible apply iAbox); first | (refine AO.as AS.box1 ?_; rotate_right; rintro _ _ ⟨_, rfl, rfl⟩; refine AO.step ?_) | (refine AO.as AS.boxA ?_; rotate_right; rintro _ _ ⟨_, rfl, rfl⟩; refine AO.step ?_) | fail) | ((with_reducible apply iAalloc); first | (refine AO.as AS.alloc ?_; rotate_right; rintro _ _ ⟨_, rfl, rfl⟩; refine AO.step ?_) | fail) | ((with_reducible apply iAbuildSlice); first | (refine AO.as AS.buildSlice ?_; rotate_right; rintro _ _ ⟨_, rfl, rfl⟩; refine AO.step ?_) | fail) | ((with_reducible apply iAmakeSlice); first | (refine AO.as AS.makeSlice ?_; rotate_right; rintro _ _ rfl; refine AO.step ?_) | fail) | fail) | ((with_reducible apply iEnt); first | exact Ent.nil | ((with_reducible apply iERow); refine Ent.row ?_ ?_) | ((with_reducible apply iEBox); first | refine Ent.box ?_ ?_ | refine Ent.box2 ?_ ?_) | ((with_reducible apply iEBlk); refine Ent.blk ?_ ?_) | refine Ent.any ?_ | with_reducible exact Ent.refl | fail) | ((with_reducible apply iEq); with_reducible rfl) | fail)
    all_goals clear hr
    all_goals first
      | (simp [sSpansMove, hk]; done)
      | (exfalso; simp_all; done)
  | false =>
    repeat' (first | ((with_reducible apply iOJ); first | ((with_reducible apply iOp); refine OJ.p ?_) | with_reducible apply OJ.nil | ((with_reducible apply iOg); first | refine OJ.guardY ?_ | refine OJ.guardN ?_ | refine OJ.guardNd ?_ | refine OJ.guardU ?_ | refine OJ.guardS (fun _ => ?_) (fun _ => ?_) | fail) | ((with_reducible apply iOstore); first | (refine OJ.as AS.store ?_; rintro _ _ rfl) | (refine OJ.as AS.storeA ?_; rintro _ _ rfl) | (refine OJ.as AS.storeE ?_; rintro _ _ rfl) | (refine OJ.as AS.storeEA ?_; rintro _ _ rfl) | fail) | ((with_reducible apply iOcall); first | (refine OJ.as AS.append1 ?_; rintro _ _ rfl) | (refine OJ.as AS.append ?_; rintro _ _ rfl) | (refine OJ.as (AS.call0 (SpansOk_c _ l _)) ?_; rotate_right; rintro _ _ ⟨y, hy, rfl, rfl⟩) | (refine OJ.as (AS.call0 (l1In_c _ _ _)) ?_; rotate_right; rintro _ _ ⟨y, hy, rfl, rfl⟩) | fail) | ((with_reducible apply iObox); first | (refine OJ.as AS.box1 ?_; rintro _ _ ⟨_, rfl, rfl⟩) | (refine OJ.as AS.boxA ?_; rintro _ _ ⟨_, rfl, rfl⟩) | fail) | ((with_reducible apply iOalloc); first | (refine OJ.as AS.alloc ?_; rintro _ _ ⟨_, rfl, rfl⟩) | fail) | ((with_reducible apply iObuildSlice); first | (refine OJ.as AS.buildSlice ?_; rintro _ _ ⟨_, rfl, rfl⟩) | fail) | ((with_reducible apply iOmakeSlice); first | (refine OJ.as AS.makeSlice ?_; rintro _ _ rfl) | fail) | refine OJ.unboxP fun _ => ?_ | fail) | ((with_reducible apply iJ); first | refine J.seq ?_ | refine J.region ?_ | refine J.block ?_ | refine J.skip ?_ | refine J.exit ?_ | refine J.condT ?_ | refine J.condF ?_ | refine J.cond (fun _ => ?_) (fun _ => ?_) | refine J.draw ?_ | refine J.ret (ends _ trivial rfl ?_) | fail) | ((with_reducible apply iJK); first | refine JK.code ?_ | refine JK.blk ?_ | refine JK.loop ?_ | refine JK.begin ?_ | refine JK.more ?_ | fail) | ((with_reducible apply iAJ); first | refine AJ.rebase ?_ | refine AJ.regain ?_ | refine AJ.take ?_ | refine AJ.takeY ?_ | refine AJ.takeN ?_ | refine AJ.takeNd ?_ | refine AJ.takeNS ?_ | refine AJ.takeU ?_ | refine AJ.sel ?_ | refine AJ.selY ?_ | refine AJ.sel2 ?_ ?_ | refine AJ.split (fun _ => ?_) (fun _ => ?_) | refine AJ.done ?_ | fail) | ((with_reducible apply iAO); first | ((with_reducible apply iAstore); first | (refine AO.as AS.store ?_; rotate_right; rintro _ _ rfl; refine AO.step ?_) | (refine AO.as AS.storeA ?_; rotate_right; rintro _ _ rfl; refine AO.step ?_) | (refine AO.as AS.storeE ?_; rotate_right; rintro _ _ rfl; refine AO.step ?_) | (refine AO.as AS.storeEA ?_; rotate_right; rintro _ _ rfl; refine AO.step ?_) | fail) | ((with_reducible apply iAcall); first | (refine AO.as AS.append1 ?_; rotate_right; rintro _ _ rfl; refine AO.step ?_) | (refine AO.as AS.append ?_; rotate_right; rintro _ _ rfl; refine AO.step ?_) | fail) | ((with_reducible apply iAbox); first | (refine AO.as AS.box1 ?_; rotate_right; rintro _ _ ⟨_, rfl, rfl⟩; refine AO.step ?_) | (refine AO.as AS.boxA ?_; rotate_right; rintro _ _ ⟨_, rfl, rfl⟩; refine AO.step ?_) | fail) | ((with_reducible apply iAalloc); first | (refine AO.as AS.alloc ?_; rotate_right; rintro _ _ ⟨_, rfl, rfl⟩; refine AO.step ?_) | fail) | ((with_reducible apply iAbuildSlice); first | (refine AO.as AS.buildSlice ?_; rotate_right; rintro _ _ ⟨_, rfl, rfl⟩; refine AO.step ?_) | fail) | ((with_reducible apply iAmakeSlice); first | (refine AO.as AS.makeSlice ?_; rotate_right; rintro _ _ rfl; refine AO.step ?_) | fail) | fail) | ((with_reducible apply iEnt); first | exact Ent.nil | ((with_reducible apply iERow); refine Ent.row ?_ ?_) | ((with_reducible apply iEBox); first | refine Ent.box ?_ ?_ | refine Ent.box2 ?_ ?_) | ((with_reducible apply iEBlk); refine Ent.blk ?_ ?_) | refine Ent.any ?_ | with_reducible exact Ent.refl | fail) | ((with_reducible apply iEq); with_reducible rfl) | fail)
    all_goals clear hr
    all_goals first
      | (simp [sSpansMove, hk]; done)
      | (exfalso; simp_all [sMoveOk, w64]; done)
end Go.SL
