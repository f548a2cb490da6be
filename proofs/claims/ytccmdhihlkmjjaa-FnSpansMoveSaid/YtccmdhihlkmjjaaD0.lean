/- SpansMove: what impl's and the reference's give for all arguments. -/
import Derived.Test.YtccmdhihlkmjjaaB9
import Derived.Test.YtccmdhihlkmjjaaB5
namespace Go.SL
open Go.RowKit Go.Proofs
set_option maxRecDepth 100000 in
set_option maxHeartbeats 8000000 in
theorem iSpansMove_no (v : Value) (l : List Span) (c a n : Int) (hk : iSpansOk l c = false) : Spec Try.prog 8 [v, .int .i64 c, .int .i64 a, .int .i64 n] [rd eSpan v l] [] (fun u : Value => u) (fun u => [row eSpan 44 u []]) (fun _ => True) := by
  refine Spec.mk Try.func8 rfl Try.ntmps8 rfl ?_
  intro w0 O hR hS0
  have hr := hR _ List.mem_cons_self; clear hR hS0
  have h := iSpansOk_c v l c
  rw [hk] at h
  repeat' (first | ((with_reducible apply iOJ); first | ((with_reducible apply iOp); refine OJ.p ?_) | with_reducible apply OJ.nil | ((with_reducible apply iOg); first | refine OJ.guardY ?_ | refine OJ.guardN ?_ | refine OJ.guardNd ?_ | refine OJ.guardU ?_ | refine OJ.guardS (fun _ => ?_) (fun _ => ?_) | fail) | ((with_reducible apply iOstore); first | (refine OJ.as AS.store ?_; rintro _ _ rfl) | (refine OJ.as AS.storeA ?_; rintro _ _ rfl) | (refine OJ.as AS.storeE ?_; rintro _ _ rfl) | (refine OJ.as AS.storeEA ?_; rintro _ _ rfl) | fail) | ((with_reducible apply iOcall); first | (refine OJ.as AS.append1 ?_; rintro _ _ rfl) | (refine OJ.as AS.append ?_; rintro _ _ rfl) | (refine OJ.as (AS.call0 (h)) ?_; rotate_right; rintro _ _ ⟨y, hy, rfl, rfl⟩) | fail) | ((with_reducible apply iObox); first | (refine OJ.as AS.box1 ?_; rintro _ _ ⟨_, rfl, rfl⟩) | (refine OJ.as AS.boxA ?_; rintro _ _ ⟨_, rfl, rfl⟩) | fail) | ((with_reducible apply iOalloc); first | (refine OJ.as AS.alloc ?_; rintro _ _ ⟨_, rfl, rfl⟩) | fail) | ((with_reducible apply iObuildSlice); first | (refine OJ.as AS.buildSlice ?_; rintro _ _ ⟨_, rfl, rfl⟩) | fail) | ((with_reducible apply iOmakeSlice); first | (refine OJ.as AS.makeSlice ?_; rintro _ _ rfl) | fail) | refine OJ.unboxP fun _ => ?_ | fail) | ((with_reducible apply iJ); first | refine J.seq ?_ | refine J.region ?_ | refine J.block ?_ | refine J.skip ?_ | refine J.exit ?_ | refine J.condT ?_ | refine J.condF ?_ | refine J.cond (fun _ => ?_) (fun _ => ?_) | refine J.ret (ends _ trivial rfl ?_) | fail) | ((with_reducible apply iJK); first | refine JK.code ?_ | refine JK.blk ?_ | refine JK.loop ?_ | refine JK.begin ?_ | refine JK.more ?_ | fail) | ((with_reducible apply iEnt); first | exact Ent.nil | ((with_reducible apply iERow); refine Ent.row ?_ ?_) | ((with_reducible apply iEBox); first | refine Ent.box ?_ ?_ | refine Ent.box2 ?_ ?_) | ((with_reducible apply iEBlk); refine Ent.blk ?_ ?_) | refine Ent.any ?_ | with_reducible exact Ent.refl | fail) | ((with_reducible apply iEq); with_reducible rfl) | fail)
theorem iSpansMove_any (v : Value) (l : List Span) (c a n : Int) : Spec Try.prog 8 [v, .int .i64 c, .int .i64 a, .int .i64 n] [rd eSpan v l] [] (fun u : Value => u) (fun u => [row eSpan 44 u (sSpansMove l c a n)]) (fun _ => True) := by
  rw [← iSpansMove_eq]
  cases hk : iSpansOk l c with
  | true =>
    refine iSpansMove_c v l c a n ?_
    simp only [iSpansOk, Bool.and_eq_true, decide_eq_true_eq] at hk
    omega
  | false =>
    rw [iMove_no (.inl hk)]
    exact iSpansMove_no v l c a n hk
theorem push_len (x : Look) (g : List (Look × Nat)) : (push x g).length ≤ g.length + 1 := by
  rcases g with _ | ⟨⟨y, m⟩, r⟩
  · exact Nat.le_refl _
  · simp only [push]
    split <;> simp
theorem groups_len : ∀ l : List Look, (groups l).length ≤ l.length
  | [] => Nat.le_refl _
  | x :: l => by
    have h1 := groups_len l
    have h2 := push_len x (groups l)
    simp only [groups, List.length_cons]
    omega
theorem spansOf_len : ∀ (g : List (Look × Nat)) (i : Nat), (spansOf i g).length ≤ g.length
  | [], _ => Nat.le_refl _
  | (x, n) :: r, i => by
    have := spansOf_len r (i + n)
    simp only [spansOf, List.length_append, List.length_cons]
    split <;> simp <;> omega
theorem sSpansMove_len (l : List Span) (c a n : Int) : (sSpansMove l c a n).length ≤ 80 := by
  unfold sSpansMove
  cases hk : sMoveOk l c a n with
  | false => simp
  | true =>
    have hn := ok_n hk
    have h2 := sMove_len (l := sLooks l c.toNat) (a := a.toNat) (n := n) (by rw [sLooks_len]; omega) (by rw [sLooks_len]; omega)
    rw [sLooks_len] at h2
    have h3 := groups_len (sMove (sLooks l c.toNat) a.toNat n)
    have h4 := spansOf_len (groups (sMove (sLooks l c.toNat) a.toNat n)) 0
    show (spansOf 0 (groups (sMove (sLooks l c.toNat) a.toNat n))).length ≤ 80
    omega
theorem eqSpS_refl (l : List Span) : eqSpS l l = true := by
  simp only [eqSpS, decide_true, Bool.true_and]
  exact all_allI fun j _ _ => eqSp_eq.2 rfl
theorem eqSpanS_same (v u : Value) (l : List Span) : Spec Try.prog 9 [v, u] [rd eSpan v l, rd eSpan u l] [] (fun _ : Unit => .bool true) (fun _ => []) (fun _ => True) := by
  have := eqSpanS_c v u l l
  rwa [eqSpS_refl] at this
end Go.SL
