/- impl.SpansMove -/
import Derived.Test.YtccmdhihlkmjjaaB8
namespace Go.SL
open Go.RowKit Go.Proofs
theorem addS_pos_len (g : List Stretch) (x : Look) (n : Int) : (addS g x n).length ≤ g.length + 1 := addS_len g x n
theorem partS_len (fr to : Int) : ∀ (l : List Stretch) (a : Int) (g : List Stretch), (partS fr to l a g).length ≤ g.length + l.length
  | [], _, _ => by simp [partS]
  | s :: l, a, g => by
    have h1 := partS_len fr to l (w64 (a + s.many)) (addS g s.look (partN a fr to s))
    have h2 := addS_len g s.look (partN a fr to s)
    simp only [partS, List.length_cons]
    omega
theorem looksOf_len (l : List Span) (c : Int) : (looksOf l c).length ≤ 2 * l.length + 1 := by
  have h1 := lof_len l 0 []
  have h2 := addS_len (lof l 0 []).2 ⟨10, 0⟩ (w64 (c - (lof l 0 []).1))
  simp only [List.length_nil] at h1
  unfold looksOf
  omega
theorem iMove_no {l : List Span} {c a n : Int} (h : iSpansOk l c = false ∨ a < 0 ∨ c < a ∨ w64 (80 - c) < n ∨ n < w64 (a - c)) : iSpansMove l c a n = [] := by
  have hk : iMoveOk l c a n = false := by
    rw [Bool.eq_false_iff]
    simp only [iMoveOk, ne_eq, Bool.and_eq_true, decide_eq_true_eq]
    rintro ⟨q1, q2, q3, q4, q5⟩
    rcases h with h | h | h | h | h
    · rw [q1] at h; cases h
    all_goals omega
  simp only [iSpansMove, hk]
theorem iMove_yes {l : List Span} {c a n : Int} (h : iSpansOk l c = true) (h1 : ¬ a < 0) (h2 : ¬ c < a) (h3 : ¬ w64 (80 - c) < n) (h4 : ¬ n < w64 (a - c)) : iSpansMove l c a n = iSp 0 (iMove (looksOf l c) c a n) := by
  have hk : iMoveOk l c a n = true := by
    simp only [iMoveOk, Bool.and_eq_true, decide_eq_true_eq]
    exact ⟨h, by omega, by omega, by omega, by omega⟩
  simp only [iSpansMove, hk]
set_option maxRecDepth 100000 in
set_option maxHeartbeats 8000000 in
theorem iSpansMove_c (v : Value) (l : List Span) (c a n : Int) (hl : l.length ≤ 10000) : Spec Try.prog 8 [v, .int .i64 c, .int .i64 a, .int .i64 n] [rd eSpan v l] [] (fun u : Value => u) (fun u => [row eSpan 44 u (iSpansMove l c a n)]) (fun _ => True) := by
  refine Spec.mk Try.func8 rfl Try.ntmps8 rfl ?_
  intro w0 O hR hS0
  have hr := hR _ List.mem_cons_self; clear hR hS0
  have h0 := looksOf_len l c
  obtain ⟨M, hM⟩ : ∃ M, looksOf l c = M := ⟨_, rfl⟩
  have hlo := looksOf_c v l c hl
  rw [hM] at h0 hlo
  have h1 := partS_len 0 a M 0 []
  simp only [List.length_nil] at h1
  have h2 := addS_len (partS 0 a M 0 []) (atS M (IntKind.i64.wrap (a - 1))) n
  have h3 := addS_len (partS 0 a M 0 []) ⟨10, 0⟩ n
  have h4 : ∀ g fr, g.length ≤ 50000 → (partS fr c M 0 g).length ≤ 1000000 := fun g fr hg => by
    have := partS_len fr c M 0 g
    omega
  repeat' (first | ((with_reducible apply iOJ); first | ((with_reducible apply iOp); refine OJ.p ?_) | with_reducible apply OJ.nil | ((with_reducible apply iOg); first | refine OJ.guardY ?_ | refine OJ.guardN ?_ | refine OJ.guardNd ?_ | refine OJ.guardU ?_ | refine OJ.guardS (fun _ => ?_) (fun _ => ?_) | fail) | ((with_reducible apply iOstore); first | (refine OJ.as AS.store ?_; rintro _ _ rfl) | (refine OJ.as AS.storeA ?_; rintro _ _ rfl) | (refine OJ.as AS.storeE ?_; rintro _ _ rfl) | (refine OJ.as AS.storeEA ?_; rintro _ _ rfl) | fail) | ((with_reducible apply iOcall); first | (refine OJ.as AS.append1 ?_; rintro _ _ rfl) | (refine OJ.as AS.append ?_; rintro _ _ rfl) | (refine OJ.as (AS.call0 (iSpansOk_c _ l _)) ?_; rotate_right; rintro _ _ ⟨y, hy, rfl, rfl⟩) | (refine OJ.as (AS.call1 (hlo)) ?_; rotate_right; rintro _ _ ⟨y, hy, rfl, rfl⟩) | (refine OJ.as (AS.call1 (part_c _ _ M [] 0 a (by simp; omega))) ?_; rotate_right; rintro _ _ ⟨y, hy, rfl, rfl⟩) | (refine OJ.as (AS.call0 (plainLook_c)) ?_; rotate_right; rintro _ _ ⟨y, hy, rfl, rfl⟩) | (refine OJ.as (AS.call0 (at_c _ M _)) ?_; rotate_right; rintro _ _ ⟨y, hy, rfl, rfl⟩) | (refine OJ.as (AS.call1 (add_c _ (partS 0 a M 0 []) (atS M _) n (by omega))) ?_; rotate_right; rintro _ _ ⟨y, hy, rfl, rfl⟩) | (refine OJ.as (AS.call1 (add_c _ (partS 0 a M 0 []) ⟨10, 0⟩ n (by omega))) ?_; rotate_right; rintro _ _ ⟨y, hy, rfl, rfl⟩) | (refine OJ.as (AS.call1 (part_c _ _ M _ _ c ?_)) ?_; rotate_right; rintro _ _ ⟨y, hy, rfl, rfl⟩) | (refine OJ.as (AS.call1 (plain_c _ (partS _ c M 0 _) ?_)) ?_; rotate_right; rintro _ _ ⟨y, hy, rfl, rfl⟩) | fail) | ((with_reducible apply iObox); first | (refine OJ.as AS.box1 ?_; rintro _ _ ⟨_, rfl, rfl⟩) | (refine OJ.as AS.boxA ?_; rintro _ _ ⟨_, rfl, rfl⟩) | fail) | ((with_reducible apply iOalloc); first | (refine OJ.as AS.alloc ?_; rintro _ _ ⟨_, rfl, rfl⟩) | fail) | ((with_reducible apply iObuildSlice); first | (refine OJ.as AS.buildSlice ?_; rintro _ _ ⟨_, rfl, rfl⟩) | fail) | ((with_reducible apply iOmakeSlice); first | (refine OJ.as AS.makeSlice ?_; rintro _ _ rfl) | fail) | refine OJ.unboxP fun _ => ?_ | fail) | ((with_reducible apply iJ); first | refine J.seq ?_ | refine J.region ?_ | refine J.block ?_ | refine J.skip ?_ | refine J.exit ?_ | refine J.condT ?_ | refine J.condF ?_ | refine J.cond (fun _ => ?_) (fun _ => ?_) | refine J.ret (ends _ trivial rfl ?_) | fail) | ((with_reducible apply iJK); first | refine JK.code ?_ | refine JK.blk ?_ | refine JK.loop ?_ | refine JK.begin ?_ | refine JK.more ?_ | fail) | ((with_reducible apply iEnt); first | exact Ent.nil | ((with_reducible apply iERow); refine Ent.row ?_ ?_) | ((with_reducible apply iEBox); first | refine Ent.box ?_ ?_ | refine Ent.box2 ?_ ?_) | ((with_reducible apply iEBlk); refine Ent.blk ?_ ?_) | refine Ent.any ?_ | with_reducible exact Ent.refl | fail) | ((with_reducible apply iEq); with_reducible rfl) | fail)
  all_goals clear hr
  all_goals first
    | (refine Nat.le_trans (h4 _ _ ?_) (by decide); omega)
    | omega
    | skip
  all_goals clear h0 h1 h2 h3 h4 hlo
  · exact (iMove_no (.inl (by assumption))).symm
  · exact (iMove_no (.inr (.inl (by assumption)))).symm
  · exact (iMove_no (.inr (.inr (.inl (by assumption))))).symm
  · exact (iMove_no (.inr (.inr (.inr (.inl (by assumption)))))).symm
  · exact (iMove_no (.inr (.inr (.inr (.inr (by assumption)))))).symm
  · rw [iMove_yes (by assumption) (by assumption) (by assumption) (by assumption) (by assumption)]
    simp only [iMove, iMoveG, hM]
    rw [decide_eq_true (show 0 < n by assumption), decide_eq_true (show 0 < a by assumption)]
    rfl
  · rw [iMove_yes (by assumption) (by assumption) (by assumption) (by assumption) (by assumption)]
    simp only [iMove, iMoveG, hM]
    rw [decide_eq_true (show 0 < n by assumption), decide_eq_false (show ¬ 0 < a by assumption), w64_in (n := a - min n 0) (by omega)]
  · rw [iMove_yes (by assumption) (by assumption) (by assumption) (by assumption) (by assumption)]
    simp only [iMove, iMoveG, hM]
    rw [decide_eq_false (show ¬ 0 < n by assumption)]
    rfl
end Go.SL
