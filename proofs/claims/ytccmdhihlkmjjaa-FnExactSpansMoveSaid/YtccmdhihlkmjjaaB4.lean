/- impl.looksOf -/
import Derived.Test.YtccmdhihlkmjjaaB3
namespace Go.SL
open Go.RowKit Go.Proofs
def lookS (s : Span) : Look := ⟨s.size, s.mark⟩
def lof : List Span → Int → List Stretch → Int × List Stretch
  | [], a, g => (a, g)
  | s :: l, a, g => lof l s.to (addS (addS g ⟨10, 0⟩ (w64 (s.fr - a))) (lookS s) (w64 (s.to - s.fr)))
def looksOf (l : List Span) (c : Int) : List Stretch := addS (lof l 0 []).2 ⟨10, 0⟩ (w64 (c - (lof l 0 []).1))
theorem lof_len (l : List Span) : ∀ (a : Int) (g : List Stretch), (lof l a g).2.length ≤ g.length + 2 * l.length := by
  induction l with
  | nil => intro a g; simp [lof]
  | cons s l ih =>
    intro a g
    have h1 := ih s.to (addS (addS g ⟨10, 0⟩ (w64 (s.fr - a))) (lookS s) (w64 (s.to - s.fr)))
    have h2 := addS_len (addS g ⟨10, 0⟩ (w64 (s.fr - a))) (lookS s) (w64 (s.to - s.fr))
    have h3 := addS_len g ⟨10, 0⟩ (w64 (s.fr - a))
    simp only [lof, List.length_cons]
    omega
set_option maxRecDepth 100000 in
set_option maxHeartbeats 4000000 in
theorem looksOf_c (v : Value) (l : List Span) (c : Int) (hl : l.length ≤ 10000) : Spec Try.prog 24 [v, .int .i64 c] [rd eSpan v l] [] (fun u : Value => u) (fun u => [row eStretch 69 u (looksOf l c)]) (fun _ => True) := by
  refine Spec.mk Try.func24 rfl Try.ntmps24 rfl ?_
  intro w0 O hR hS0
  have hr := hR _ List.mem_cons_self; clear hR hS0
  repeat' (first | (show OJ _ _ _ _ _ _ _; first | refine OJ.p ?_ | refine OJ.nil ?_ | refine OJ.guardY ?_ | refine OJ.guardN ?_ | refine OJ.guardNd ?_ | refine OJ.guardU ?_ | refine OJ.guardS (fun _ => ?_) (fun _ => ?_) | (refine OJ.as AS.store ?_; rintro _ _ rfl) | (refine OJ.as AS.box1 ?_; rintro _ _ ⟨_, rfl, rfl⟩) | (refine OJ.as AS.boxA ?_; rintro _ _ ⟨_, rfl, rfl⟩) | (refine OJ.as AS.alloc ?_; rintro _ _ ⟨_, rfl, rfl⟩) | (refine OJ.as AS.buildSlice ?_; rintro _ _ ⟨_, rfl, rfl⟩) | (refine OJ.as AS.append1 ?_; rintro _ _ rfl) | (refine OJ.as AS.append ?_; rintro _ _ rfl) | (refine OJ.as AS.storeA ?_; rintro _ _ rfl) | (refine OJ.as AS.storeE ?_; rintro _ _ rfl) | (refine OJ.as AS.storeEA ?_; rintro _ _ rfl) | (refine OJ.as AS.makeSlice ?_; rintro _ _ rfl) | refine OJ.unboxP fun _ => ?_ | fail) | (show J _ _ _ _ _ _; first | refine J.seq ?_ | refine J.region ?_ | refine J.block ?_ | refine J.skip ?_ | refine J.exit ?_ | refine J.condT ?_ | refine J.condF ?_ | refine J.cond (fun _ => ?_) (fun _ => ?_) | fail) | (show JK _ _ _ _ _; first | refine JK.code ?_ | refine JK.blk ?_ | refine JK.loop ?_ | refine JK.begin ?_ | refine JK.more ?_ | fail) | (show Ent _ _; first | exact Ent.nil | refine Ent.row ?_ ?_ | refine Ent.box ?_ ?_ | refine Ent.box2 ?_ ?_ | refine Ent.blk ?_ ?_ | refine Ent.any ?_ | with_reducible exact Ent.refl | fail) | (show (_ : _) = _; with_reducible rfl) | fail)
  rename_i b
  refine J.loopW (fun i (p : Int × List Stretch) _ => i ≤ l.length ∧ p.2.length ≤ 2 * i ∧ lof l 0 [] = lof (l.drop i) p.1 p.2) (fun i => l.length - i)
    (fun i p _ => [(11, .int .i64 (i : Nat)), (10, .int .i64 l.length), (9, v), (6, .int .i64 p.1), (5, .pointer (some ⟨b, 0, none⟩)), (1, .int .i64 c)]) (fun _ p _ => [boxR b 48 eStretch 69 p.2]) 0 (0, []) undef ⟨Nat.zero_le _, Nat.zero_le _, rfl⟩ ?_
  rintro i ⟨a, g⟩ u ⟨hi, hg, hm⟩ ih
  have hg1 : g.length ≤ 1000000 := by dsimp only at hg; omega
  have hg2 : (addS g ⟨10, 0⟩ (w64 ((l.getD i eSpan.d).fr - a))).length ≤ 1000000 := by have := addS_len g ⟨10, 0⟩ (w64 ((l.getD i eSpan.d).fr - a)); dsimp only at hg; omega
  repeat' (first | (show OJ _ _ _ _ _ _ _; first | refine OJ.p ?_ | refine OJ.nil ?_ | refine OJ.guardY ?_ | refine OJ.guardN ?_ | refine OJ.guardNd ?_ | refine OJ.guardU ?_ | refine OJ.guardS (fun _ => ?_) (fun _ => ?_) | (refine OJ.as AS.store ?_; rintro _ _ rfl) | (refine OJ.as AS.box1 ?_; rintro _ _ ⟨_, rfl, rfl⟩) | (refine OJ.as AS.boxA ?_; rintro _ _ ⟨_, rfl, rfl⟩) | (refine OJ.as AS.alloc ?_; rintro _ _ ⟨_, rfl, rfl⟩) | (refine OJ.as AS.buildSlice ?_; rintro _ _ ⟨_, rfl, rfl⟩) | (refine OJ.as AS.append1 ?_; rintro _ _ rfl) | (refine OJ.as AS.append ?_; rintro _ _ rfl) | (refine OJ.as AS.storeA ?_; rintro _ _ rfl) | (refine OJ.as AS.storeE ?_; rintro _ _ rfl) | (refine OJ.as AS.storeEA ?_; rintro _ _ rfl) | (refine OJ.as AS.makeSlice ?_; rintro _ _ rfl) | (refine OJ.as (AS.call0 (plainLook_c)) ?_; rotate_right; rintro _ _ ⟨y, hy, rfl, rfl⟩) | (refine OJ.as (AS.call1 (add_c b (addS g ⟨10, 0⟩ (w64 ((l.getD i eSpan.d).fr - a))) (lookS (l.getD i eSpan.d)) _ hg2)) ?_; rotate_right; rintro _ _ ⟨y, hy, rfl, rfl⟩) | (refine OJ.as (AS.call1 (add_c b g ⟨10, 0⟩ _ hg1)) ?_; rotate_right; rintro _ _ ⟨y, hy, rfl, rfl⟩) | refine OJ.unboxP fun _ => ?_ | fail) | (show J _ _ _ _ _ _; first | refine J.seq ?_ | refine J.region ?_ | refine J.block ?_ | refine J.skip ?_ | refine J.exit ?_ | refine J.condT ?_ | refine J.condF ?_ | refine J.cond (fun _ => ?_) (fun _ => ?_) | refine J.draw ?_ | refine J.ret (ends _ trivial rfl ?_) | fail) | (show JK _ _ _ _ _; first | refine JK.code ?_ | refine JK.blk ?_ | refine JK.loop ?_ | refine JK.begin ?_ | refine JK.more ?_ | fail) | (show AJ _ _ _ _ _ _ _ _ _ _ _; first | refine AJ.take ?_ | refine AJ.takeY ?_ | refine AJ.takeN ?_ | refine AJ.takeNd ?_ | refine AJ.takeNS ?_ | refine AJ.takeU ?_ | refine AJ.sel ?_ | refine AJ.selY ?_ | refine AJ.split (fun _ => ?_) (fun _ => ?_) | refine AJ.done ?_ | fail) | (show AO _ _ _ _ _ _ _ _ _ _ _ _ _ _ _; first | (refine AO.as AS.store ?_; rotate_right; rintro _ _ rfl; refine AO.step ?_) | (refine AO.as AS.append1 ?_; rotate_right; rintro _ _ rfl; refine AO.step ?_) | (refine AO.as AS.append ?_; rotate_right; rintro _ _ rfl; refine AO.step ?_) | (refine AO.as AS.storeA ?_; rotate_right; rintro _ _ rfl; refine AO.step ?_) | (refine AO.as AS.storeE ?_; rotate_right; rintro _ _ rfl; refine AO.step ?_) | (refine AO.as AS.storeEA ?_; rotate_right; rintro _ _ rfl; refine AO.step ?_) | (refine AO.as AS.makeSlice ?_; rotate_right; rintro _ _ rfl; refine AO.step ?_) | (refine AO.as AS.box1 ?_; rotate_right; rintro _ _ ⟨_, rfl, rfl⟩; refine AO.step ?_) | (refine AO.as AS.boxA ?_; rotate_right; rintro _ _ ⟨_, rfl, rfl⟩; refine AO.step ?_) | (refine AO.as AS.alloc ?_; rotate_right; rintro _ _ ⟨_, rfl, rfl⟩; refine AO.step ?_) | (refine AO.as AS.buildSlice ?_; rotate_right; rintro _ _ ⟨_, rfl, rfl⟩; refine AO.step ?_) | (refine AO.as (AS.call0 (plainLook_c)) ?_; rotate_right; rintro _ _ ⟨y, hy, rfl, rfl⟩; refine AO.step ?_) | (refine AO.as (AS.call1 (add_c b g ⟨10, 0⟩ _ hg1)) ?_; rotate_right; rintro _ _ ⟨y, hy, rfl, rfl⟩; refine AO.step ?_) | fail) | (show JL _ _ _ _ _ _; first | refine JL.use (ih (i + 1) ((l.getD i eSpan.d).to, addS (addS g ⟨10, 0⟩ (w64 ((l.getD i eSpan.d).fr - a))) (lookS (l.getD i eSpan.d)) (w64 ((l.getD i eSpan.d).to - (l.getD i eSpan.d).fr))) undef ⟨by omega, ?_, ?_⟩ (by omega)) | fail) | (show Ent _ _; first | exact Ent.nil | refine Ent.row ?_ ?_ | refine Ent.box ?_ ?_ | refine Ent.box2 ?_ ?_ | refine Ent.blk ?_ ?_ | refine Ent.any ?_ | with_reducible exact Ent.refl | fail) | (show (_ : _) = _; with_reducible rfl) | fail)
  all_goals clear hr ih
  · have h1 := addS_len (addS g ⟨10, 0⟩ (w64 ((l.getD i eSpan.d).fr - a))) (lookS (l.getD i eSpan.d)) (w64 ((l.getD i eSpan.d).to - (l.getD i eSpan.d).fr))
    have h2 := addS_len g ⟨10, 0⟩ (w64 ((l.getD i eSpan.d).fr - a))
    dsimp only at hg ⊢
    omega
  · rw [hm, dropD (d := eSpan.d) (by omega)]
    rfl
  · rw [looksOf, hm, List.drop_of_length_le (by omega)]
    rfl
end Go.SL
