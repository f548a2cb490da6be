/- impl.looks.part, at -/
import Derived.Test.YtccmdhihlkmjjaaB2
import Derived.Test.YtccmdhihlkmjjaaB1
namespace Go.SL
open Go.RowKit Go.Proofs
theorem addS_len (g : List Stretch) (x : Look) (n : Int) : (addS g x n).length ≤ g.length + 1 := by
  unfold addS
  split
  · omega
  · split <;> simp
def partN (a fr to : Int) (s : Stretch) : Int := max 0 (w64 (min (w64 (a + s.many)) to - max a fr))
def partS (fr to : Int) : List Stretch → Int → List Stretch → List Stretch
  | [], _, g => g
  | s :: l, a, g => partS fr to l (w64 (a + s.many)) (addS g s.look (partN a fr to s))
set_option maxRecDepth 100000 in
set_option maxHeartbeats 4000000 in
theorem part_c (b : Nat) (v : Value) (l g : List Stretch) (fr to : Int) (hg : g.length + l.length ≤ 1000000) : Spec Try.prog 25 [.pointer (some ⟨b, 0, none⟩), v, .int .i64 fr, .int .i64 to]
    [rd eStretch v l] [boxR b 48 eStretch 69 g] (fun _ : Unit => .tuple #[]) (fun _ => [boxR b 48 eStretch 69 (partS fr to l 0 g)]) (fun _ => True) := by
  refine Spec.mk Try.func25 rfl Try.ntmps25 rfl ?_
  intro w0 O hR hS0
  have hr := hR _ List.mem_cons_self; clear hR hS0
  repeat' (first | (show OJ _ _ _ _ _ _ _; first | refine OJ.p ?_ | refine OJ.nil ?_ | refine OJ.guardY ?_ | refine OJ.guardN ?_ | refine OJ.guardNd ?_ | refine OJ.guardU ?_ | refine OJ.guardS (fun _ => ?_) (fun _ => ?_) | (refine OJ.as AS.store ?_; rintro _ _ rfl) | (refine OJ.as AS.box1 ?_; rintro _ _ ⟨_, rfl, rfl⟩) | (refine OJ.as AS.boxA ?_; rintro _ _ ⟨_, rfl, rfl⟩) | (refine OJ.as AS.alloc ?_; rintro _ _ ⟨_, rfl, rfl⟩) | (refine OJ.as AS.buildSlice ?_; rintro _ _ ⟨_, rfl, rfl⟩) | (refine OJ.as AS.append1 ?_; rintro _ _ rfl) | (refine OJ.as AS.append ?_; rintro _ _ rfl) | (refine OJ.as AS.storeA ?_; rintro _ _ rfl) | (refine OJ.as AS.storeE ?_; rintro _ _ rfl) | (refine OJ.as AS.storeEA ?_; rintro _ _ rfl) | (refine OJ.as AS.makeSlice ?_; rintro _ _ rfl) | refine OJ.unboxP fun _ => ?_ | fail) | (show J _ _ _ _ _ _; first | refine J.seq ?_ | refine J.region ?_ | refine J.block ?_ | refine J.skip ?_ | refine J.exit ?_ | refine J.condT ?_ | refine J.condF ?_ | refine J.cond (fun _ => ?_) (fun _ => ?_) | fail) | (show JK _ _ _ _ _; first | refine JK.code ?_ | refine JK.blk ?_ | refine JK.loop ?_ | refine JK.begin ?_ | refine JK.more ?_ | fail) | (show Ent _ _; first | exact Ent.nil | refine Ent.row ?_ ?_ | refine Ent.box ?_ ?_ | refine Ent.box2 ?_ ?_ | refine Ent.blk ?_ ?_ | refine Ent.any ?_ | with_reducible exact Ent.refl | fail) | (show (_ : _) = _; with_reducible rfl) | fail)
  refine J.loopW (fun i (p : Int × List Stretch) _ => i ≤ l.length ∧ p.2.length + (l.length - i) ≤ 1000000 ∧ partS fr to l 0 g = partS fr to (l.drop i) p.1 p.2) (fun i => l.length - i)
    (fun i p _ => [(13, .int .i64 (i : Nat)), (12, .int .i64 l.length), (11, v), (8, .int .i64 p.1), (0, .pointer (some ⟨b, 0, none⟩)), (2, .int .i64 fr), (3, .int .i64 to)]) (fun _ p _ => [boxR b 48 eStretch 69 p.2]) 0 (0, g) undef ⟨Nat.zero_le _, hg, rfl⟩ ?_
  rintro i ⟨a, g'⟩ u ⟨hi, hl, hm⟩ ih
  have hl2 : g'.length ≤ 1000000 := by dsimp only at hl; omega
  repeat' (first | (show OJ _ _ _ _ _ _ _; first | refine OJ.p ?_ | refine OJ.nil ?_ | refine OJ.guardY ?_ | refine OJ.guardN ?_ | refine OJ.guardNd ?_ | refine OJ.guardU ?_ | refine OJ.guardS (fun _ => ?_) (fun _ => ?_) | (refine OJ.as AS.store ?_; rintro _ _ rfl) | (refine OJ.as AS.box1 ?_; rintro _ _ ⟨_, rfl, rfl⟩) | (refine OJ.as AS.boxA ?_; rintro _ _ ⟨_, rfl, rfl⟩) | (refine OJ.as AS.alloc ?_; rintro _ _ ⟨_, rfl, rfl⟩) | (refine OJ.as AS.buildSlice ?_; rintro _ _ ⟨_, rfl, rfl⟩) | (refine OJ.as AS.append1 ?_; rintro _ _ rfl) | (refine OJ.as AS.append ?_; rintro _ _ rfl) | (refine OJ.as AS.storeA ?_; rintro _ _ rfl) | (refine OJ.as AS.storeE ?_; rintro _ _ rfl) | (refine OJ.as AS.storeEA ?_; rintro _ _ rfl) | (refine OJ.as AS.makeSlice ?_; rintro _ _ rfl) | (refine OJ.as (AS.call1 (add_c b g' (l.getD i eStretch.d).look _ hl2)) ?_; rotate_right; rintro _ _ ⟨y, hy, rfl, rfl⟩) | refine OJ.unboxP fun _ => ?_ | fail) | (show J _ _ _ _ _ _; first | refine J.seq ?_ | refine J.region ?_ | refine J.block ?_ | refine J.skip ?_ | refine J.exit ?_ | refine J.condT ?_ | refine J.condF ?_ | refine J.cond (fun _ => ?_) (fun _ => ?_) | refine J.draw ?_ | fail) | (show JK _ _ _ _ _; first | refine JK.code ?_ | refine JK.blk ?_ | refine JK.loop ?_ | refine JK.begin ?_ | refine JK.more ?_ | refine JK.fin (ends () trivial rfl ?_) | fail) | (show AJ _ _ _ _ _ _ _ _ _ _ _; first | refine AJ.take ?_ | refine AJ.takeY ?_ | refine AJ.takeN ?_ | refine AJ.takeNd ?_ | refine AJ.takeNS ?_ | refine AJ.takeU ?_ | refine AJ.sel ?_ | refine AJ.selY ?_ | refine AJ.split (fun _ => ?_) (fun _ => ?_) | refine AJ.done ?_ | fail) | (show AO _ _ _ _ _ _ _ _ _ _ _ _ _ _ _; first | (refine AO.as AS.store ?_; rotate_right; rintro _ _ rfl; refine AO.step ?_) | (refine AO.as AS.append1 ?_; rotate_right; rintro _ _ rfl; refine AO.step ?_) | (refine AO.as AS.append ?_; rotate_right; rintro _ _ rfl; refine AO.step ?_) | (refine AO.as AS.storeA ?_; rotate_right; rintro _ _ rfl; refine AO.step ?_) | (refine AO.as AS.storeE ?_; rotate_right; rintro _ _ rfl; refine AO.step ?_) | (refine AO.as AS.storeEA ?_; rotate_right; rintro _ _ rfl; refine AO.step ?_) | (refine AO.as AS.makeSlice ?_; rotate_right; rintro _ _ rfl; refine AO.step ?_) | (refine AO.as AS.box1 ?_; rotate_right; rintro _ _ ⟨_, rfl, rfl⟩; refine AO.step ?_) | (refine AO.as AS.boxA ?_; rotate_right; rintro _ _ ⟨_, rfl, rfl⟩; refine AO.step ?_) | (refine AO.as AS.alloc ?_; rotate_right; rintro _ _ ⟨_, rfl, rfl⟩; refine AO.step ?_) | (refine AO.as AS.buildSlice ?_; rotate_right; rintro _ _ ⟨_, rfl, rfl⟩; refine AO.step ?_) | fail) | (show JL _ _ _ _ _ _; first | refine JL.use (ih (i + 1) (w64 (a + (l.getD i eStretch.d).many), addS g' (l.getD i eStretch.d).look (partN a fr to (l.getD i eStretch.d))) undef ⟨by omega, ?_, ?_⟩ (by omega)) | fail) | (show Ent _ _; first | exact Ent.nil | refine Ent.row ?_ ?_ | refine Ent.box ?_ ?_ | refine Ent.box2 ?_ ?_ | refine Ent.blk ?_ ?_ | refine Ent.any ?_ | with_reducible exact Ent.refl | fail) | (show (_ : _) = _; with_reducible rfl) | fail)
  all_goals clear ih hr
  · have := addS_len g' (l.getD i eStretch.d).look (partN a fr to (l.getD i eStretch.d))
    dsimp only at hl ⊢
    omega
  · rw [hm, dropD (d := eStretch.d) (by omega)]
    rfl
  · rw [hm, List.drop_of_length_le (by omega)]
    rfl
def atS : List Stretch → Int → Look
  | [], _ => ⟨10, 0⟩
  | s :: l, k => match decide (k < s.many) with
    | true => s.look
    | false => atS l (w64 (k - s.many))
set_option maxRecDepth 100000 in
set_option maxHeartbeats 4000000 in
theorem at_c (v : Value) (l : List Stretch) (k : Int) : Spec Try.prog 27 [v, .int .i64 k] [rd eStretch v l] [] (fun _ : Unit => .agg #[.int .i64 (atS l k).size, .int .i64 (atS l k).mark]) (fun _ => []) (fun _ => True) := by
  refine Spec.mk Try.func27 rfl Try.ntmps27 rfl ?_
  intro w0 O hR hS0
  have hr := hR _ List.mem_cons_self; clear hR
  have hb := rd_bd (hr.h w0 hS0); clear hS0
  repeat' (first | (show OJ _ _ _ _ _ _ _; first | refine OJ.p ?_ | refine OJ.nil ?_ | refine OJ.guardY ?_ | refine OJ.guardN ?_ | refine OJ.guardNd ?_ | refine OJ.guardU ?_ | refine OJ.guardS (fun _ => ?_) (fun _ => ?_) | (refine OJ.as AS.store ?_; rintro _ _ rfl) | (refine OJ.as AS.box1 ?_; rintro _ _ ⟨_, rfl, rfl⟩) | (refine OJ.as AS.boxA ?_; rintro _ _ ⟨_, rfl, rfl⟩) | (refine OJ.as AS.alloc ?_; rintro _ _ ⟨_, rfl, rfl⟩) | (refine OJ.as AS.buildSlice ?_; rintro _ _ ⟨_, rfl, rfl⟩) | (refine OJ.as AS.append1 ?_; rintro _ _ rfl) | (refine OJ.as AS.append ?_; rintro _ _ rfl) | (refine OJ.as AS.storeA ?_; rintro _ _ rfl) | (refine OJ.as AS.storeE ?_; rintro _ _ rfl) | (refine OJ.as AS.storeEA ?_; rintro _ _ rfl) | (refine OJ.as AS.makeSlice ?_; rintro _ _ rfl) | refine OJ.unboxP fun _ => ?_ | fail) | (show J _ _ _ _ _ _; first | refine J.seq ?_ | refine J.region ?_ | refine J.block ?_ | refine J.skip ?_ | refine J.exit ?_ | refine J.condT ?_ | refine J.condF ?_ | refine J.cond (fun _ => ?_) (fun _ => ?_) | fail) | (show JK _ _ _ _ _; first | refine JK.code ?_ | refine JK.blk ?_ | refine JK.loop ?_ | refine JK.begin ?_ | refine JK.more ?_ | fail) | (show Ent _ _; first | exact Ent.nil | refine Ent.row ?_ ?_ | refine Ent.box ?_ ?_ | refine Ent.box2 ?_ ?_ | refine Ent.blk ?_ ?_ | refine Ent.any ?_ | with_reducible exact Ent.refl | fail) | (show (_ : _) = _; with_reducible rfl) | fail)
  rename_i b
  refine J.loopW (fun i (k' : Int) _ => i ≤ l.length ∧ atS l k = atS (l.drop i) k') (fun i => l.length - i)
    (fun i k' _ => [(9, .int .i64 (i : Nat)), (8, .int .i64 l.length), (7, v), (1, .int .i64 k'), (4, .pointer (some ⟨b, 0, none⟩))]) (fun _ _ _ => [blk b (.cells #[.int .i64 0, .int .i64 0] 52 (0, 0))]) 0 k undef ⟨Nat.zero_le _, rfl⟩ ?_
  rintro i k' u ⟨hi, hm⟩ ih
  repeat' (first | (show OJ _ _ _ _ _ _ _; first | refine OJ.p ?_ | refine OJ.nil ?_ | refine OJ.guardY ?_ | refine OJ.guardN ?_ | refine OJ.guardNd ?_ | refine OJ.guardU ?_ | refine OJ.guardS (fun _ => ?_) (fun _ => ?_) | (refine OJ.as AS.store ?_; rintro _ _ rfl) | (refine OJ.as AS.box1 ?_; rintro _ _ ⟨_, rfl, rfl⟩) | (refine OJ.as AS.boxA ?_; rintro _ _ ⟨_, rfl, rfl⟩) | (refine OJ.as AS.alloc ?_; rintro _ _ ⟨_, rfl, rfl⟩) | (refine OJ.as AS.buildSlice ?_; rintro _ _ ⟨_, rfl, rfl⟩) | (refine OJ.as AS.append1 ?_; rintro _ _ rfl) | (refine OJ.as AS.append ?_; rintro _ _ rfl) | (refine OJ.as AS.storeA ?_; rintro _ _ rfl) | (refine OJ.as AS.storeE ?_; rintro _ _ rfl) | (refine OJ.as AS.storeEA ?_; rintro _ _ rfl) | (refine OJ.as AS.makeSlice ?_; rintro _ _ rfl) | (refine OJ.as (AS.call0 (plainLook_c)) ?_; rotate_right; rintro _ _ ⟨y, hy, rfl, rfl⟩) | refine OJ.unboxP fun _ => ?_ | fail) | (show J _ _ _ _ _ _; first | refine J.seq ?_ | refine J.region ?_ | refine J.block ?_ | refine J.skip ?_ | refine J.exit ?_ | refine J.condT ?_ | refine J.condF ?_ | refine J.cond (fun _ => ?_) (fun _ => ?_) | refine J.draw ?_ | refine J.retC (ends () trivial ?_ ?_) | fail) | (show JK _ _ _ _ _; first | refine JK.code ?_ | refine JK.blk ?_ | refine JK.loop ?_ | refine JK.begin ?_ | refine JK.more ?_ | fail) | (show AJ _ _ _ _ _ _ _ _ _ _ _; first | refine AJ.take ?_ | refine AJ.takeY ?_ | refine AJ.takeN ?_ | refine AJ.takeNd ?_ | refine AJ.takeNS ?_ | refine AJ.takeU ?_ | refine AJ.sel ?_ | refine AJ.selY ?_ | refine AJ.split (fun _ => ?_) (fun _ => ?_) | refine AJ.done ?_ | fail) | (show AO _ _ _ _ _ _ _ _ _ _ _ _ _ _ _; first | (refine AO.as AS.store ?_; rotate_right; rintro _ _ rfl; refine AO.step ?_) | (refine AO.as AS.append1 ?_; rotate_right; rintro _ _ rfl; refine AO.step ?_) | (refine AO.as AS.append ?_; rotate_right; rintro _ _ rfl; refine AO.step ?_) | (refine AO.as AS.storeA ?_; rotate_right; rintro _ _ rfl; refine AO.step ?_) | (refine AO.as AS.storeE ?_; rotate_right; rintro _ _ rfl; refine AO.step ?_) | (refine AO.as AS.storeEA ?_; rotate_right; rintro _ _ rfl; refine AO.step ?_) | (refine AO.as AS.makeSlice ?_; rotate_right; rintro _ _ rfl; refine AO.step ?_) | (refine AO.as AS.box1 ?_; rotate_right; rintro _ _ ⟨_, rfl, rfl⟩; refine AO.step ?_) | (refine AO.as AS.boxA ?_; rotate_right; rintro _ _ ⟨_, rfl, rfl⟩; refine AO.step ?_) | (refine AO.as AS.alloc ?_; rotate_right; rintro _ _ ⟨_, rfl, rfl⟩; refine AO.step ?_) | (refine AO.as AS.buildSlice ?_; rotate_right; rintro _ _ ⟨_, rfl, rfl⟩; refine AO.step ?_) | fail) | (show JL _ _ _ _ _ _; first | refine JL.use (ih (i + 1) (w64 (k' - (l.getD i eStretch.d).many)) undef ⟨by omega, ?_⟩ (by omega)) | fail) | (show Ent _ _; first | exact Ent.nil | refine Ent.row ?_ ?_ | refine Ent.box ?_ ?_ | refine Ent.box2 ?_ ?_ | refine Ent.blk ?_ ?_ | refine Ent.any ?_ | with_reducible exact Ent.refl | fail) | (show (_ : _) = _; with_reducible rfl) | fail)
  all_goals clear ih hr
  · rw [hm, dropD (d := eStretch.d) (by omega)]
    simp [-List.getD_eq_getElem?_getD, toNat1, atS, slc, *]
  · rw [hm, dropD (d := eStretch.d) (by omega)]
    simp [-List.getD_eq_getElem?_getD, toNat1, atS, *]
  · rw [hm, List.drop_of_length_le (by omega)]
    rfl
end Go.SL
