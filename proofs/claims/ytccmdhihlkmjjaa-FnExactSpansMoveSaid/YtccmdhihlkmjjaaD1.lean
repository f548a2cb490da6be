/- FnExactSpansMove: the walk, and what it answers. -/
import Derived.Test.YtccmdhihlkmjjaaB9
import Derived.Test.YtccmdhihlkmjjaaB6
namespace Go.SL
open Go.RowKit Go.Proofs
set_option maxRecDepth 100000 in
set_option maxHeartbeats 8000000 in
theorem iSpansMove_no (v : Value) (l : List Span) (c a n : Int) (hk : iSpansOk l c = false) : Spec Try.prog 8 [v, .int .i64 c, .int .i64 a, .int .i64 n] [rd eSpan v l] [] (fun u : Value => u) (fun u => [row eSpan 44 u []]) (fun _ => True) := by
  refine Spec.mk Try.func8 rfl Try.ntmps8 rfl ?_
  intro w0 O hR hS0
  have hr := hR _ List.mem_cons_self; clear hR hS0
  have h := iSpansOk_c v l c
  rw [hk] at h
  repeat' (first | (show OJ _ _ _ _ _ _ _; first | refine OJ.p ?_ | refine OJ.nil ?_ | refine OJ.guardY ?_ | refine OJ.guardN ?_ | refine OJ.guardNd ?_ | refine OJ.guardU ?_ | refine OJ.guardS (fun _ => ?_) (fun _ => ?_) | (refine OJ.as AS.store ?_; rintro _ _ rfl) | (refine OJ.as AS.box1 ?_; rintro _ _ ⟨_, rfl, rfl⟩) | (refine OJ.as AS.boxA ?_; rintro _ _ ⟨_, rfl, rfl⟩) | (refine OJ.as AS.alloc ?_; rintro _ _ ⟨_, rfl, rfl⟩) | (refine OJ.as AS.buildSlice ?_; rintro _ _ ⟨_, rfl, rfl⟩) | (refine OJ.as AS.append1 ?_; rintro _ _ rfl) | (refine OJ.as AS.append ?_; rintro _ _ rfl) | (refine OJ.as AS.storeA ?_; rintro _ _ rfl) | (refine OJ.as AS.storeE ?_; rintro _ _ rfl) | (refine OJ.as AS.storeEA ?_; rintro _ _ rfl) | (refine OJ.as AS.makeSlice ?_; rintro _ _ rfl) | (refine OJ.as (AS.call0 (h)) ?_; rotate_right; rintro _ _ ⟨y, hy, rfl, rfl⟩) | refine OJ.unboxP fun _ => ?_ | fail) | (show J _ _ _ _ _ _; first | refine J.seq ?_ | refine J.region ?_ | refine J.block ?_ | refine J.skip ?_ | refine J.exit ?_ | refine J.condT ?_ | refine J.condF ?_ | refine J.cond (fun _ => ?_) (fun _ => ?_) | refine J.ret (ends _ trivial rfl ?_) | fail) | (show JK _ _ _ _ _; first | refine JK.code ?_ | refine JK.blk ?_ | refine JK.loop ?_ | refine JK.begin ?_ | refine JK.more ?_ | fail) | (show Ent _ _; first | exact Ent.nil | refine Ent.row ?_ ?_ | refine Ent.box ?_ ?_ | refine Ent.box2 ?_ ?_ | refine Ent.blk ?_ ?_ | refine Ent.any ?_ | with_reducible exact Ent.refl | fail) | (show (_ : _) = _; with_reducible rfl) | fail)
theorem iSpansMove_any (v : Value) (l : List Span) (c a n : Int) : Spec Try.prog 8 [v, .int .i64 c, .int .i64 a, .int .i64 n] [rd eSpan v l] [] (fun u : Value => u) (fun u => [row eSpan 44 u (sSpansMove l c a n)]) (fun _ => True) := by
  rw [← iSpansMove_eq]
  cases hk : iSpansOk l c with
  | true =>
    refine iSpansMove_c v l c a n ?_
    simp only [iSpansOk, Bool.and_eq_true, decide_eq_true_eq] at hk
    omega
  | false =>
    rw [iMove_no (.inl hk)]
    exact iSpansMove_no v l c a n hk
theorem push_len (x : Look) (g : List (Look × Nat)) : (push x g).length ≤ g.length + 1 := by
  rcases g with _ | ⟨⟨y, m⟩, r⟩
  · exact Nat.le_refl _
  · simp only [push]
    split <;> simp
theorem groups_len : ∀ l : List Look, (groups l).length ≤ l.length
  | [] => Nat.le_refl _
  | x :: l => by
    have h1 := groups_len l
    have h2 := push_len x (groups l)
    simp only [groups, List.length_cons]
    omega
theorem spansOf_len : ∀ (g : List (Look × Nat)) (i : Nat), (spansOf i g).length ≤ g.length
  | [], _ => Nat.le_refl _
  | (x, n) :: r, i => by
    have := spansOf_len r (i + n)
    simp only [spansOf, List.length_append, List.length_cons]
    split <;> simp <;> omega
theorem sSpansMove_len (l : List Span) (c a n : Int) : (sSpansMove l c a n).length ≤ 80 := by
  unfold sSpansMove
  cases hk : sMoveOk l c a n with
  | false => simp
  | true =>
    have hn := ok_n hk
    have h2 := sMove_len (l := sLooks l c.toNat) (a := a.toNat) (n := n) (by rw [sLooks_len]; omega) (by rw [sLooks_len]; omega)
    rw [sLooks_len] at h2
    have h3 := groups_len (sMove (sLooks l c.toNat) a.toNat n)
    have h4 := spansOf_len (groups (sMove (sLooks l c.toNat) a.toNat n)) 0
    show (spansOf 0 (groups (sMove (sLooks l c.toNat) a.toNat n))).length ≤ 80
    omega
theorem eqSpS_refl (l : List Span) : eqSpS l l = true := by
  simp only [eqSpS, decide_true, Bool.true_and]
  exact all_allI fun j _ _ => eqSp_eq.2 rfl
theorem eqSpanS_same (v u : Value) (l : List Span) : Spec Try.prog 9 [v, u] [rd eSpan v l, rd eSpan u l] [] (fun _ : Unit => .bool true) (fun _ => []) (fun _ => True) := by
  have := eqSpanS_c v u l l
  rwa [eqSpS_refl] at this
set_option maxRecDepth 100000 in
set_option maxHeartbeats 8000000 in
theorem FnExactSpansMove_c (v : Value) (l : List Span) (c a n : Int) : Spec Try.prog 3 [v, .int .i64 c, .int .i64 a, .int .i64 n] [rd eSpan v l] [] (fun _ : Unit => .bool true) (fun _ => []) (fun _ => True) := by
  refine Spec.mk Try.func3 rfl Try.ntmps3 rfl ?_
  intro w0 O hR hS0
  have hr := hR _ List.mem_cons_self; clear hR hS0
  have hsz := szSpanS_c v l 1048576
  refine J.know (R := rd eSpan v l) fun w hw => ?_
  have hb := rd_bd hw; clear hw w
  by_cases hl : l.length ≤ 1048576
  · have e : szS l 1048576 = 1048576 - l.length := by
      unfold szS
      rw [w64_in (by omega), decide_eq_false (by omega)]
    rw [e] at hsz
    have hSl := sSpansMove_len l c a n
    have hI := fun v => iSpansMove_any v l c a n
    have hS := fun v => sSpansMove_c v l c a n
    obtain ⟨S, hSe⟩ : ∃ S, sSpansMove l c a n = S := ⟨_, rfl⟩
    rw [hSe] at hSl
    simp only [hSe] at hI hS
    clear hSe e
    repeat' (first | (show OJ _ _ _ _ _ _ _; first | refine OJ.p ?_ | refine OJ.nil ?_ | refine OJ.guardY ?_ | refine OJ.guardN ?_ | refine OJ.guardNd ?_ | refine OJ.guardU ?_ | refine OJ.guardS (fun _ => ?_) (fun _ => ?_) | (refine OJ.as AS.store ?_; rintro _ _ rfl) | (refine OJ.as AS.box1 ?_; rintro _ _ ⟨_, rfl, rfl⟩) | (refine OJ.as AS.boxA ?_; rintro _ _ ⟨_, rfl, rfl⟩) | (refine OJ.as AS.alloc ?_; rintro _ _ ⟨_, rfl, rfl⟩) | (refine OJ.as AS.buildSlice ?_; rintro _ _ ⟨_, rfl, rfl⟩) | (refine OJ.as AS.append1 ?_; rintro _ _ rfl) | (refine OJ.as AS.append ?_; rintro _ _ rfl) | (refine OJ.as AS.storeA ?_; rintro _ _ rfl) | (refine OJ.as AS.storeE ?_; rintro _ _ rfl) | (refine OJ.as AS.storeEA ?_; rintro _ _ rfl) | (refine OJ.as AS.makeSlice ?_; rintro _ _ rfl) | (refine OJ.as (AS.call0 (hsz)) ?_; rotate_right; rintro _ _ ⟨y, hy, rfl, rfl⟩) | (refine OJ.as (AS.call1 (toSpanS_c _ l (by omega))) ?_; rotate_right; rintro _ _ ⟨y, hy, rfl, rfl⟩) | (refine OJ.as (AS.call1 (hS _)) ?_; rotate_right; rintro _ _ ⟨y, hy, rfl, rfl⟩) | (refine OJ.as (AS.call1 (hI _)) ?_; rotate_right; rintro _ _ ⟨y, hy, rfl, rfl⟩) | (refine OJ.as (AS.call0 (eqSpanS_same _ _ S)) ?_; rotate_right; rintro _ _ ⟨y, hy, rfl, rfl⟩) | (refine OJ.as (AS.call0 (eqSpanS_same _ _ l)) ?_; rotate_right; rintro _ _ ⟨y, hy, rfl, rfl⟩) | (refine OJ.as (AS.call1 (markSpanS_c _ l 1 (by omega) (by omega))) ?_; rotate_right; rintro _ _ ⟨y, hy, rfl, rfl⟩) | (refine OJ.as (AS.call1 (markSpanS_c _ S 1 (by omega) (by omega))) ?_; rotate_right; rintro _ _ ⟨y, hy, rfl, rfl⟩) | (refine OJ.as (AS.call0 (heldSpanS_c _ S.length 1 (by omega) (by omega))) ?_; rotate_right; rintro _ _ ⟨y, hy, rfl, rfl⟩) | refine OJ.unboxP fun _ => ?_ | fail) | (show J _ _ _ _ _ _; first | refine J.seq ?_ | refine J.region ?_ | refine J.block ?_ | refine J.skip ?_ | refine J.exit ?_ | refine J.condT ?_ | refine J.condF ?_ | refine J.cond (fun _ => ?_) (fun _ => ?_) | refine J.retB ?_ | fail) | (show JK _ _ _ _ _; first | refine JK.code ?_ | refine JK.blk ?_ | refine JK.loop ?_ | refine JK.begin ?_ | refine JK.more ?_ | fail) | (show Ent _ _; first | exact Ent.nil | refine Ent.row ?_ ?_ | refine Ent.box ?_ ?_ | refine Ent.box2 ?_ ?_ | refine Ent.blk ?_ ?_ | refine Ent.any ?_ | with_reducible exact Ent.refl | fail) | (show (_ : _) = _; with_reducible rfl) | fail)
    all_goals first | rfl | (exfalso; omega)
  · have e : szS l 1048576 = -1 := by
      unfold szS
      rw [w64_in (by omega), decide_eq_true (by omega)]
    rw [e] at hsz
    repeat' (first | (show OJ _ _ _ _ _ _ _; first | refine OJ.p ?_ | refine OJ.nil ?_ | refine OJ.guardY ?_ | refine OJ.guardN ?_ | refine OJ.guardNd ?_ | refine OJ.guardU ?_ | refine OJ.guardS (fun _ => ?_) (fun _ => ?_) | (refine OJ.as AS.store ?_; rintro _ _ rfl) | (refine OJ.as AS.box1 ?_; rintro _ _ ⟨_, rfl, rfl⟩) | (refine OJ.as AS.boxA ?_; rintro _ _ ⟨_, rfl, rfl⟩) | (refine OJ.as AS.alloc ?_; rintro _ _ ⟨_, rfl, rfl⟩) | (refine OJ.as AS.buildSlice ?_; rintro _ _ ⟨_, rfl, rfl⟩) | (refine OJ.as AS.append1 ?_; rintro _ _ rfl) | (refine OJ.as AS.append ?_; rintro _ _ rfl) | (refine OJ.as AS.storeA ?_; rintro _ _ rfl) | (refine OJ.as AS.storeE ?_; rintro _ _ rfl) | (refine OJ.as AS.storeEA ?_; rintro _ _ rfl) | (refine OJ.as AS.makeSlice ?_; rintro _ _ rfl) | (refine OJ.as (AS.call0 (hsz)) ?_; rotate_right; rintro _ _ ⟨y, hy, rfl, rfl⟩) | refine OJ.unboxP fun _ => ?_ | fail) | (show J _ _ _ _ _ _; first | refine J.seq ?_ | refine J.region ?_ | refine J.block ?_ | refine J.skip ?_ | refine J.exit ?_ | refine J.condT ?_ | refine J.condF ?_ | refine J.cond (fun _ => ?_) (fun _ => ?_) | refine J.retB ?_ | fail) | (show JK _ _ _ _ _; first | refine JK.code ?_ | refine JK.blk ?_ | refine JK.loop ?_ | refine JK.begin ?_ | refine JK.more ?_ | fail) | (show Ent _ _; first | exact Ent.nil | refine Ent.row ?_ ?_ | refine Ent.box ?_ ?_ | refine Ent.box2 ?_ ?_ | refine Ent.blk ?_ ?_ | refine Ent.any ?_ | with_reducible exact Ent.refl | fail) | (show (_ : _) = _; with_reducible rfl) | fail)
    all_goals first | rfl | (exfalso; omega)
end Go.SL
