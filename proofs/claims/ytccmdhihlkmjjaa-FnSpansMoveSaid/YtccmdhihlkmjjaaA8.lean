/- spec.l6Spans -/
import Derived.Test.YtccmdhihlkmjjaaA7
namespace Go.SL
open Go.RowKit Go.Proofs
def eqLk (a b : Look) : Bool := a.size == b.size && a.mark == b.mark
def push (x : Look) : List (Look × Nat) → List (Look × Nat)
  | [] => [(x, 1)]
  | (y, n) :: r => match eqLk y x with
    | true => (x, n + 1) :: r
    | false => (x, 1) :: (y, n) :: r
def groups : List Look → List (Look × Nat)
  | [] => []
  | x :: l => push x (groups l)
def pushN (x : Look) : Nat → List (Look × Nat) → List (Look × Nat)
  | 0, g => g
  | n + 1, g => pushN x n (push x g)
def spansOf : Nat → List (Look × Nat) → List Span
  | _, [] => []
  | i, (x, n) :: r => (match decide (x.size = 10) && decide (x.mark = 0) with
    | true => []
    | false => [⟨(i : Nat), ((i + n : Nat) : Int), x.size, x.mark⟩]) ++ spansOf (i + n) r
def sSpans (l : List Look) : List Span := spansOf 0 (groups l)
theorem push_head (x : Look) (g : List (Look × Nat)) : ∃ n r, push x g = (x, n + 1) :: r := by
  rcases g with _ | ⟨⟨y, m⟩, r⟩
  · exact ⟨0, [], rfl⟩
  · simp only [push]
    split
    · exact ⟨m, r, rfl⟩
    · exact ⟨0, _, rfl⟩
theorem eqLk_refl (x : Look) : eqLk x x = true := by simp [eqLk]
theorem eqLk_eq {x y : Look} (h : eqLk x y = true) : x = y := by
  cases x; cases y
  simp [eqLk] at h
  simp [h]
theorem pushN_same (x : Look) : ∀ (n m : Nat) (r : List (Look × Nat)), pushN x n ((x, m) :: r) = (x, m + n) :: r
  | 0, _, _ => rfl
  | n + 1, m, r => by
    simp only [pushN, push, eqLk_refl]
    rw [pushN_same x n]
    congr 2
    omega
theorem pushN_end {x : Look} {n : Nat} (h : 0 < n) : pushN x n [] = [(x, n)] := by
  obtain ⟨m, rfl⟩ : ∃ m, n = m + 1 := ⟨n - 1, by omega⟩
  simp only [pushN, push, pushN_same]
  congr 2
  omega
theorem pushN_other {x y : Look} {n m : Nat} {r : List (Look × Nat)} (h : 0 < n) (hy : eqLk y x = false) : pushN x n ((y, m) :: r) = (x, n) :: (y, m) :: r := by
  obtain ⟨k, rfl⟩ : ∃ m, n = m + 1 := ⟨n - 1, by omega⟩
  simp only [pushN, push, hy, pushN_same]
  congr 2
  omega
theorem groups_at {l : List Look} {i : Nat} {d : Look} (h : i < l.length) : groups (l.drop i) = push (l.getD i d) (groups (l.drop (i + 1))) := by
  rw [dropD h]
  rfl
theorem groups_run {l : List Look} {i k : Nat} {d : Look} (hk : k < l.length) (hik : i < k) (hg : groups (l.drop i) = pushN (l.getD i d) (k - i) (groups (l.drop k))) (hn : eqLk (l.getD k d) (l.getD i d) = false) : groups (l.drop i) = (l.getD i d, k - i) :: groups (l.drop k) := by
  rw [hg, groups_at (d := d) hk]
  obtain ⟨n, r, h⟩ := push_head (l.getD k d) (groups (l.drop (k + 1)))
  rw [h, pushN_other (by omega) hn]
theorem groups_more {l : List Look} {i k : Nat} {d : Look} (hk : k < l.length) (hik : i < k) (hg : groups (l.drop i) = pushN (l.getD i d) (k - i) (groups (l.drop k))) (hn : eqLk (l.getD k d) (l.getD i d) = true) : groups (l.drop i) = pushN (l.getD i d) (k + 1 - i) (groups (l.drop (k + 1))) := by
  rw [show k + 1 - i = (k - i) + 1 by omega]
  simp only [pushN]
  rw [hg, groups_at (d := d) hk, eqLk_eq hn]
theorem groups_last {l : List Look} {i k : Nat} {d : Look} (hk : l.length ≤ k) (hik : i < k) (hg : groups (l.drop i) = pushN (l.getD i d) (k - i) (groups (l.drop k))) : groups (l.drop i) = (l.getD i d, k - i) :: groups (l.drop k) := by
  rw [hg, List.drop_of_length_le hk]
  exact pushN_end (by omega)
set_option maxRecDepth 100000 in
set_option maxHeartbeats 8000000 in
theorem l6Spans_c (v : Value) (l : List Look) (hn : l.length ≤ 1000000) : Spec Try.prog 19 [v] [rd eLook v l] [] (fun u : Value => u) (fun u => [row eSpan 44 u (sSpans l)]) (fun _ => True) := by
  refine Spec.mk Try.func19 rfl Try.ntmps19 rfl ?_
  intro w0 O hR hS0
  have hr := hR _ List.mem_cons_self; clear hR hS0
  repeat' (first | ((with_reducible apply iOJ); first | ((with_reducible apply iOp); refine OJ.p ?_) | with_reducible apply OJ.nil | ((with_reducible apply iOg); first | refine OJ.guardY ?_ | refine OJ.guardN ?_ | refine OJ.guardNd ?_ | refine OJ.guardU ?_ | refine OJ.guardS (fun _ => ?_) (fun _ => ?_) | fail) | ((with_reducible apply iOstore); first | (refine OJ.as AS.store ?_; rintro _ _ rfl) | (refine OJ.as AS.storeA ?_; rintro _ _ rfl) | (refine OJ.as AS.storeE ?_; rintro _ _ rfl) | (refine OJ.as AS.storeEA ?_; rintro _ _ rfl) | fail) | ((with_reducible apply iOcall); first | (refine OJ.as AS.append1 ?_; rintro _ _ rfl) | (refine OJ.as AS.append ?_; rintro _ _ rfl) | fail) | ((with_reducible apply iObox); first | (refine OJ.as AS.box1 ?_; rintro _ _ ⟨_, rfl, rfl⟩) | (refine OJ.as AS.boxA ?_; rintro _ _ ⟨_, rfl, rfl⟩) | fail) | ((with_reducible apply iOalloc); first | (refine OJ.as AS.alloc ?_; rintro _ _ ⟨_, rfl, rfl⟩) | fail) | ((with_reducible apply iObuildSlice); first | (refine OJ.as AS.buildSlice ?_; rintro _ _ ⟨_, rfl, rfl⟩) | fail) | ((with_reducible apply iOmakeSlice); first | (refine OJ.as AS.makeSlice ?_; rintro _ _ rfl) | fail) | refine OJ.unboxP fun _ => ?_ | fail) | ((with_reducible apply iJ); first | refine J.seq ?_ | refine J.region ?_ | refine J.block ?_ | refine J.skip ?_ | refine J.exit ?_ | refine J.condT ?_ | refine J.condF ?_ | refine J.cond (fun _ => ?_) (fun _ => ?_) | fail) | ((with_reducible apply iJK); first | refine JK.code ?_ | refine JK.blk ?_ | refine JK.loop ?_ | refine JK.begin ?_ | refine JK.more ?_ | fail) | ((with_reducible apply iEnt); first | exact Ent.nil | ((with_reducible apply iERow); refine Ent.row ?_ ?_) | ((with_reducible apply iEBox); first | refine Ent.box ?_ ?_ | refine Ent.box2 ?_ ?_) | ((with_reducible apply iEBlk); refine Ent.blk ?_ ?_) | refine Ent.any ?_ | with_reducible exact Ent.refl | fail) | ((with_reducible apply iEq); with_reducible rfl) | fail)
  refine J.loopW (fun i (acc : List Span) _ => i ≤ l.length ∧ acc.length ≤ i ∧ sSpans l = acc ++ spansOf i (groups (l.drop i))) (fun i => l.length - i) (fun i _ u => [(4, .int .i64 (i : Nat)), (3, u), (0, v)]) (fun _ acc u => [row eSpan 44 u acc]) 0 [] _ ⟨Nat.zero_le _, Nat.zero_le _, rfl⟩ ?_
  rintro i acc u ⟨hi, ha, hm⟩ ih
  repeat' (first | ((with_reducible apply iOJ); first | ((with_reducible apply iOp); refine OJ.p ?_) | with_reducible apply OJ.nil | ((with_reducible apply iOg); first | refine OJ.guardY ?_ | refine OJ.guardN ?_ | refine OJ.guardNd ?_ | refine OJ.guardU ?_ | refine OJ.guardS (fun _ => ?_) (fun _ => ?_) | fail) | ((with_reducible apply iOstore); first | (refine OJ.as AS.store ?_; rintro _ _ rfl) | (refine OJ.as AS.storeA ?_; rintro _ _ rfl) | (refine OJ.as AS.storeE ?_; rintro _ _ rfl) | (refine OJ.as AS.storeEA ?_; rintro _ _ rfl) | fail) | ((with_reducible apply iOcall); first | (refine OJ.as AS.append1 ?_; rintro _ _ rfl) | (refine OJ.as AS.append ?_; rintro _ _ rfl) | fail) | ((with_reducible apply iObox); first | (refine OJ.as AS.box1 ?_; rintro _ _ ⟨_, rfl, rfl⟩) | (refine OJ.as AS.boxA ?_; rintro _ _ ⟨_, rfl, rfl⟩) | fail) | ((with_reducible apply iOalloc); first | (refine OJ.as AS.alloc ?_; rintro _ _ ⟨_, rfl, rfl⟩) | fail) | ((with_reducible apply iObuildSlice); first | (refine OJ.as AS.buildSlice ?_; rintro _ _ ⟨_, rfl, rfl⟩) | fail) | ((with_reducible apply iOmakeSlice); first | (refine OJ.as AS.makeSlice ?_; rintro _ _ rfl) | fail) | refine OJ.unboxP fun _ => ?_ | fail) | ((with_reducible apply iJ); first | refine J.seq ?_ | refine J.region ?_ | refine J.block ?_ | refine J.skip ?_ | refine J.exit ?_ | refine J.condT ?_ | refine J.condF ?_ | refine J.cond (fun _ => ?_) (fun _ => ?_) | refine J.ret (ends u trivial rfl ?_) | fail) | ((with_reducible apply iJK); first | refine JK.code ?_ | refine JK.blk ?_ | refine JK.loop ?_ | refine JK.begin ?_ | refine JK.more ?_ | fail) | ((with_reducible apply iEnt); first | exact Ent.nil | ((with_reducible apply iERow); refine Ent.row ?_ ?_) | ((with_reducible apply iEBox); first | refine Ent.box ?_ ?_ | refine Ent.box2 ?_ ?_) | ((with_reducible apply iEBlk); refine Ent.blk ?_ ?_) | refine Ent.any ?_ | with_reducible exact Ent.refl | fail) | ((with_reducible apply iEq); with_reducible rfl) | fail)
  · refine J.loopI (fun k : Nat => i < k ∧ k ≤ l.length ∧ groups (l.drop i) = pushN (l.getD i eLook.d) (k - i) (groups (l.drop k))) (fun k => l.length - k) (fun k => [(5, .int .i64 (k : Nat)), (4, .int .i64 (i : Nat)), (3, u), (0, v)]) (fun _ => [row eSpan 44 u acc]) (i + 1) ⟨by omega, by omega, ?_⟩ ?_
    · rw [show i + 1 - i = 1 by omega]
      exact groups_at (by omega)
    rintro k ⟨hik, hk, hg⟩ ih2
    repeat' (first | ((with_reducible apply iOJ); first | ((with_reducible apply iOp); refine OJ.p ?_) | with_reducible apply OJ.nil | ((with_reducible apply iOg); first | refine OJ.guardY ?_ | refine OJ.guardN ?_ | refine OJ.guardNd ?_ | refine OJ.guardU ?_ | refine OJ.guardS (fun _ => ?_) (fun _ => ?_) | fail) | ((with_reducible apply iOstore); first | (refine OJ.as AS.store ?_; rintro _ _ rfl) | (refine OJ.as AS.storeA ?_; rintro _ _ rfl) | (refine OJ.as AS.storeE ?_; rintro _ _ rfl) | (refine OJ.as AS.storeEA ?_; rintro _ _ rfl) | fail) | ((with_reducible apply iOcall); first | (refine OJ.as AS.append1 ?_; rintro _ _ rfl) | (refine OJ.as AS.append ?_; rintro _ _ rfl) | fail) | ((with_reducible apply iObox); first | (refine OJ.as AS.box1 ?_; rintro _ _ ⟨_, rfl, rfl⟩) | (refine OJ.as AS.boxA ?_; rintro _ _ ⟨_, rfl, rfl⟩) | fail) | ((with_reducible apply iOalloc); first | (refine OJ.as AS.alloc ?_; rintro _ _ ⟨_, rfl, rfl⟩) | fail) | ((with_reducible apply iObuildSlice); first | (refine OJ.as AS.buildSlice ?_; rintro _ _ ⟨_, rfl, rfl⟩) | fail) | ((with_reducible apply iOmakeSlice); first | (refine OJ.as AS.makeSlice ?_; rintro _ _ rfl) | fail) | refine OJ.unboxP fun _ => ?_ | fail) | ((with_reducible apply iJ); first | refine J.seq ?_ | refine J.region ?_ | refine J.block ?_ | refine J.skip ?_ | refine J.exit ?_ | refine J.condT ?_ | refine J.condF ?_ | refine J.cond (fun _ => ?_) (fun _ => ?_) | refine J.draw ?_ | fail) | ((with_reducible apply iJK); first | refine JK.code ?_ | refine JK.blk ?_ | refine JK.loop ?_ | refine JK.begin ?_ | refine JK.more ?_ | fail) | ((with_reducible apply iAJ); first | refine AJ.rebase ?_ | refine AJ.regain ?_ | refine AJ.take ?_ | refine AJ.takeY ?_ | refine AJ.takeN ?_ | refine AJ.takeNd ?_ | refine AJ.takeNS ?_ | refine AJ.takeU ?_ | refine AJ.sel ?_ | refine AJ.selY ?_ | refine AJ.sel2 ?_ ?_ | refine AJ.split (fun _ => ?_) (fun _ => ?_) | refine AJ.done ?_ | fail) | ((with_reducible apply iAO); first | ((with_reducible apply iAstore); first | (refine AO.as AS.store ?_; rotate_right; rintro _ _ rfl; refine AO.step ?_) | (refine AO.as AS.storeA ?_; rotate_right; rintro _ _ rfl; refine AO.step ?_) | (refine AO.as AS.storeE ?_; rotate_right; rintro _ _ rfl; refine AO.step ?_) | (refine AO.as AS.storeEA ?_; rotate_right; rintro _ _ rfl; refine AO.step ?_) | fail) | ((with_reducible apply iAcall); first | (refine AO.as AS.append1 ?_; rotate_right; rintro _ _ rfl; refine AO.step ?_) | (refine AO.as AS.append ?_; rotate_right; rintro _ _ rfl; refine AO.step ?_) | fail) | ((with_reducible apply iAbox); first | (refine AO.as AS.box1 ?_; rotate_right; rintro _ _ ⟨_, rfl, rfl⟩; refine AO.step ?_) | (refine AO.as AS.boxA ?_; rotate_right; rintro _ _ ⟨_, rfl, rfl⟩; refine AO.step ?_) | fail) | ((with_reducible apply iAalloc); first | (refine AO.as AS.alloc ?_; rotate_right; rintro _ _ ⟨_, rfl, rfl⟩; refine AO.step ?_) | fail) | ((with_reducible apply iAbuildSlice); first | (refine AO.as AS.buildSlice ?_; rotate_right; rintro _ _ ⟨_, rfl, rfl⟩; refine AO.step ?_) | fail) | ((with_reducible apply iAmakeSlice); first | (refine AO.as AS.makeSlice ?_; rotate_right; rintro _ _ rfl; refine AO.step ?_) | fail) | fail) | ((with_reducible apply iJL); first | refine JL.use (ih2 (k + 1) ⟨by omega, by omega, ?_⟩ (by omega)) | refine JL.useL (ih k (acc ++ [⟨i, k, (l.getD i eLook.d).size, (l.getD i eLook.d).mark⟩]) _ ⟨by omega, ?_, ?_⟩ (by omega)) (Ent.any Ent.nil) | refine JL.useL (ih k acc _ ⟨by omega, ?_, ?_⟩ (by omega)) (Ent.any Ent.nil) | fail) | ((with_reducible apply iEnt); first | exact Ent.nil | ((with_reducible apply iERow); refine Ent.row ?_ ?_) | ((with_reducible apply iEBox); first | refine Ent.box ?_ ?_ | refine Ent.box2 ?_ ?_) | ((with_reducible apply iEBlk); refine Ent.blk ?_ ?_) | refine Ent.any ?_ | with_reducible exact Ent.refl | fail) | ((with_reducible apply iEq); with_reducible rfl) | fail)
    all_goals clear ih ih2 hr
    all_goals first
      | (rw [List.length_append]; show _ + 1 ≤ _; omega)
      | omega
      | exact groups_more (by omega) hik hg (by simp only [eqLk]; assumption)
      | (rw [hm, groups_run (by omega) hik hg (by simp only [eqLk]; assumption), spansOf, show i + (k - i) = k by omega]; simp [-List.getD_eq_getElem?_getD, toNat1, *])
      | (rw [hm, groups_last (by omega) hik hg, spansOf, show i + (k - i) = k by omega]; simp [-List.getD_eq_getElem?_getD, toNat1, *])
  · rw [hm, List.drop_of_length_le (by omega)]
    simp [groups, spansOf]
end Go.SL
