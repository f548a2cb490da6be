/- slices.AppendSeq, slices.Collect over spans; impl.looks.spans, impl.looks.plain -/
import Derived.Test.YtccmdhihlkmjjaaB7
namespace Go.SL
open Go.RowKit Go.Proofs
set_option maxRecDepth 100000 in
set_option maxHeartbeats 4000000 in
theorem spanSeq_c (gf : FuncId) [FnB Try.prog gf] (lb : List Value) (Rs : List (World → Prop)) (xs acc : List Span) (sv : Value) (hI : IterSpec Try.prog gf lb Rs (xs.map fun s => [vSpan s])) (hn : acc.length + xs.length ≤ 1000000) :
    Spec Try.prog 42 [sv, .func (.func gf) #[] lb.toArray] Rs [row eSpan 44 sv acc] (fun u : Value => u) (fun u => [row eSpan 44 u (acc ++ xs)]) (fun _ => True) := by
  refine Spec.mkM Try.func42 rfl Try.ntmps42 rfl ?_
  intro w0 O hR hS0
  clear hS0
  repeat' (first | (show OJ _ _ _ _ _ _ _; first | refine OJ.p ?_ | refine OJ.nil ?_ | refine OJ.guardY ?_ | refine OJ.guardN ?_ | refine OJ.guardNd ?_ | refine OJ.guardU ?_ | refine OJ.guardS (fun _ => ?_) (fun _ => ?_) | (refine OJ.as AS.store ?_; rintro _ _ rfl) | (refine OJ.as AS.box1 ?_; rintro _ _ ⟨_, rfl, rfl⟩) | (refine OJ.as AS.boxA ?_; rintro _ _ ⟨_, rfl, rfl⟩) | (refine OJ.as AS.alloc ?_; rintro _ _ ⟨_, rfl, rfl⟩) | (refine OJ.as AS.buildSlice ?_; rintro _ _ ⟨_, rfl, rfl⟩) | (refine OJ.as AS.append1 ?_; rintro _ _ rfl) | (refine OJ.as AS.append ?_; rintro _ _ rfl) | (refine OJ.as AS.storeA ?_; rintro _ _ rfl) | (refine OJ.as AS.storeE ?_; rintro _ _ rfl) | (refine OJ.as AS.storeEA ?_; rintro _ _ rfl) | (refine OJ.as AS.makeSlice ?_; rintro _ _ rfl) | refine OJ.unboxP fun _ => ?_ | fail) | (show J _ _ _ _ _ _; first | refine J.seq ?_ | refine J.region ?_ | refine J.block ?_ | refine J.skip ?_ | refine J.exit ?_ | refine J.condT ?_ | refine J.condF ?_ | refine J.cond (fun _ => ?_) (fun _ => ?_) | fail) | (show JK _ _ _ _ _; first | refine JK.code ?_ | refine JK.blk ?_ | refine JK.loop ?_ | refine JK.begin ?_ | refine JK.more ?_ | fail) | (show Ent _ _; first | exact Ent.nil | refine Ent.row ?_ ?_ | refine Ent.box ?_ ?_ | refine Ent.box2 ?_ ?_ | refine Ent.blk ?_ ?_ | refine Ent.any ?_ | with_reducible exact Ent.refl | fail) | (show (_ : _) = _; with_reducible rfl) | fail)
  rename_i b
  refine J.range (fun k => [boxR b 24 eSpan 44 (acc ++ xs.take k)]) (fun _ _ => [noR]) hI (fun k => ⟨fun R h => Rd.base (hR R h)⟩) (fun a ha => by obtain ⟨s, _, rfl⟩ := List.mem_map.1 ha; rfl) ?_ ?_ ?_ (hL := by refine Ent.box2 Ent.nil ?_; simp)
  · intro l rc fr k a ha
    obtain ⟨s, hs, rfl⟩ : ∃ s, xs[k]? = some s ∧ a = [vSpan s] := by
      rw [List.getElem?_map] at ha
      obtain ⟨s, h1, h2⟩ := Option.map_eq_some_iff.1 ha
      exact ⟨s, h1, h2.symm⟩
    have hk := (List.getElem?_eq_some_iff.1 hs).1
    have htl : (xs.take k).length ≤ xs.length := by rw [List.length_take]; omega
    repeat' (first | (show OJ _ _ _ _ _ _ _; first | refine OJ.p ?_ | refine OJ.nil ?_ | refine OJ.guardY ?_ | refine OJ.guardN ?_ | refine OJ.guardNd ?_ | refine OJ.guardU ?_ | refine OJ.guardS (fun _ => ?_) (fun _ => ?_) | (refine OJ.as AS.store ?_; rintro _ _ rfl) | (refine OJ.as AS.box1 ?_; rintro _ _ ⟨_, rfl, rfl⟩) | (refine OJ.as AS.boxA ?_; rintro _ _ ⟨_, rfl, rfl⟩) | (refine OJ.as AS.alloc ?_; rintro _ _ ⟨_, rfl, rfl⟩) | (refine OJ.as AS.buildSlice ?_; rintro _ _ ⟨_, rfl, rfl⟩) | (refine OJ.as AS.append1 ?_; rintro _ _ rfl) | (refine OJ.as AS.append ?_; rintro _ _ rfl) | (refine OJ.as AS.storeA ?_; rintro _ _ rfl) | (refine OJ.as AS.storeE ?_; rintro _ _ rfl) | (refine OJ.as AS.storeEA ?_; rintro _ _ rfl) | (refine OJ.as AS.makeSlice ?_; rintro _ _ rfl) | refine OJ.unboxP fun _ => ?_ | fail) | (show J _ _ _ _ _ _; first | refine J.seq ?_ | refine J.region ?_ | refine J.block ?_ | refine J.skip ?_ | refine J.exit ?_ | refine J.condT ?_ | refine J.condF ?_ | refine J.cond (fun _ => ?_) (fun _ => ?_) | fail) | (show JK _ _ _ _ _; first | refine JK.code ?_ | refine JK.blk ?_ | refine JK.loop ?_ | refine JK.begin ?_ | refine JK.more ?_ | fail) | (show Ent _ _; first | exact Ent.nil | refine Ent.row ?_ ?_ | refine Ent.box ?_ ?_ | refine Ent.box2 ?_ ?_ | refine Ent.blk ?_ ?_ | refine Ent.any ?_ | with_reducible exact Ent.refl | fail) | (show (_ : _) = _; with_reducible rfl) | fail)
    rw [List.append_assoc, List.take_add_one, hs]
    rfl
  · intro D
    repeat' (first | (show OJ _ _ _ _ _ _ _; first | refine OJ.p ?_ | refine OJ.nil ?_ | refine OJ.guardY ?_ | refine OJ.guardN ?_ | refine OJ.guardNd ?_ | refine OJ.guardU ?_ | refine OJ.guardS (fun _ => ?_) (fun _ => ?_) | (refine OJ.as AS.store ?_; rintro _ _ rfl) | (refine OJ.as AS.box1 ?_; rintro _ _ ⟨_, rfl, rfl⟩) | (refine OJ.as AS.boxA ?_; rintro _ _ ⟨_, rfl, rfl⟩) | (refine OJ.as AS.alloc ?_; rintro _ _ ⟨_, rfl, rfl⟩) | (refine OJ.as AS.buildSlice ?_; rintro _ _ ⟨_, rfl, rfl⟩) | (refine OJ.as AS.append1 ?_; rintro _ _ rfl) | (refine OJ.as AS.append ?_; rintro _ _ rfl) | (refine OJ.as AS.storeA ?_; rintro _ _ rfl) | (refine OJ.as AS.storeE ?_; rintro _ _ rfl) | (refine OJ.as AS.storeEA ?_; rintro _ _ rfl) | (refine OJ.as AS.makeSlice ?_; rintro _ _ rfl) | refine OJ.unboxP fun _ => ?_ | fail) | (show J _ _ _ _ _ _; first | refine J.seq ?_ | refine J.region ?_ | refine J.block ?_ | refine J.skip ?_ | refine J.exit ?_ | refine J.condT ?_ | refine J.condF ?_ | refine J.cond (fun _ => ?_) (fun _ => ?_) | refine J.retM (ends _ trivial rfl ?_) | fail) | (show JK _ _ _ _ _; first | refine JK.code ?_ | refine JK.blk ?_ | refine JK.loop ?_ | refine JK.begin ?_ | refine JK.more ?_ | fail) | (show Ent _ _; first | exact Ent.nil | refine Ent.row ?_ ?_ | refine Ent.box ?_ ?_ | refine Ent.box2 ?_ ?_ | refine Ent.blk ?_ ?_ | refine Ent.any ?_ | with_reducible exact Ent.refl | fail) | (show (_ : _) = _; with_reducible rfl) | fail)
    rw [List.length_map, List.take_length]
  · intro D j c
    exact J.no
set_option maxRecDepth 100000 in
set_option maxHeartbeats 4000000 in
theorem spanColl_c (gf : FuncId) [FnB Try.prog gf] (lb : List Value) (Rs : List (World → Prop)) (xs : List Span) (hI : IterSpec Try.prog gf lb Rs (xs.map fun s => [vSpan s])) (hn : xs.length ≤ 1000000) :
    Spec Try.prog 38 [.func (.func gf) #[] lb.toArray] Rs [] (fun u : Value => u) (fun u => [row eSpan 44 u xs]) (fun _ => True) := by
  refine Spec.mk Try.func38 rfl Try.ntmps38 rfl ?_
  intro w0 O hR hS0
  clear hS0
  repeat' (first | (show OJ _ _ _ _ _ _ _; first | refine OJ.p ?_ | refine OJ.nil ?_ | refine OJ.guardY ?_ | refine OJ.guardN ?_ | refine OJ.guardNd ?_ | refine OJ.guardU ?_ | refine OJ.guardS (fun _ => ?_) (fun _ => ?_) | (refine OJ.as AS.store ?_; rintro _ _ rfl) | (refine OJ.as AS.box1 ?_; rintro _ _ ⟨_, rfl, rfl⟩) | (refine OJ.as AS.boxA ?_; rintro _ _ ⟨_, rfl, rfl⟩) | (refine OJ.as AS.alloc ?_; rintro _ _ ⟨_, rfl, rfl⟩) | (refine OJ.as AS.buildSlice ?_; rintro _ _ ⟨_, rfl, rfl⟩) | (refine OJ.as AS.append1 ?_; rintro _ _ rfl) | (refine OJ.as AS.append ?_; rintro _ _ rfl) | (refine OJ.as AS.storeA ?_; rintro _ _ rfl) | (refine OJ.as AS.storeE ?_; rintro _ _ rfl) | (refine OJ.as AS.storeEA ?_; rintro _ _ rfl) | (refine OJ.as AS.makeSlice ?_; rintro _ _ rfl) | (refine OJ.as (AS.call1 (spanSeq_c gf lb Rs xs [] _ hI (by simpa using hn)) (hR := ⟨fun R h => Rd.base (hR R h)⟩)) ?_; rintro _ _ ⟨y, hy, rfl, rfl⟩) | refine OJ.unboxP fun _ => ?_ | fail) | (show J _ _ _ _ _ _; first | refine J.seq ?_ | refine J.region ?_ | refine J.block ?_ | refine J.skip ?_ | refine J.exit ?_ | refine J.condT ?_ | refine J.condF ?_ | refine J.cond (fun _ => ?_) (fun _ => ?_) | refine J.ret (ends _ trivial rfl ?_) | fail) | (show JK _ _ _ _ _; first | refine JK.code ?_ | refine JK.blk ?_ | refine JK.loop ?_ | refine JK.begin ?_ | refine JK.more ?_ | fail) | (show Ent _ _; first | exact Ent.nil | refine Ent.row ?_ ?_ | refine Ent.box ?_ ?_ | refine Ent.box2 ?_ ?_ | refine Ent.blk ?_ ?_ | refine Ent.any ?_ | with_reducible exact Ent.refl | fail) | (show (_ : _) = _; with_reducible rfl) | fail)
  all_goals rfl
theorem iSp_len : ∀ (l : List Stretch) (a : Int), (iSp a l).length ≤ l.length
  | [], _ => Nat.le_refl _
  | s :: l, a => by
    have := iSp_len l (w64 (a + s.many))
    simp only [iSp]
    split <;> simp <;> omega
set_option maxRecDepth 100000 in
set_option maxHeartbeats 4000000 in
theorem spans_c (v : Value) (l : List Stretch) : Spec Try.prog 39 [v] [rd eStretch v l] [] (fun b : Nat => .func (.func 43) #[] #[.pointer (some ⟨b, 0, none⟩)]) (fun b => [blk b (.cells #[v] 48 (0, 0))]) (fun _ => True) := by
  refine Spec.mk Try.func39 rfl Try.ntmps39 rfl ?_
  intro w0 O hR hS0
  have hr := hR _ List.mem_cons_self; clear hR hS0
  repeat' (first | (show OJ _ _ _ _ _ _ _; first | refine OJ.p ?_ | refine OJ.nil ?_ | refine OJ.guardY ?_ | refine OJ.guardN ?_ | refine OJ.guardNd ?_ | refine OJ.guardU ?_ | refine OJ.guardS (fun _ => ?_) (fun _ => ?_) | (refine OJ.as AS.store ?_; rintro _ _ rfl) | (refine OJ.as AS.box1 ?_; rintro _ _ ⟨_, rfl, rfl⟩) | (refine OJ.as AS.boxA ?_; rintro _ _ ⟨_, rfl, rfl⟩) | (refine OJ.as AS.alloc ?_; rintro _ _ ⟨_, rfl, rfl⟩) | (refine OJ.as AS.buildSlice ?_; rintro _ _ ⟨_, rfl, rfl⟩) | (refine OJ.as AS.append1 ?_; rintro _ _ rfl) | (refine OJ.as AS.append ?_; rintro _ _ rfl) | (refine OJ.as AS.storeA ?_; rintro _ _ rfl) | (refine OJ.as AS.storeE ?_; rintro _ _ rfl) | (refine OJ.as AS.storeEA ?_; rintro _ _ rfl) | (refine OJ.as AS.makeSlice ?_; rintro _ _ rfl) | refine OJ.unboxP fun _ => ?_ | fail) | (show J _ _ _ _ _ _; first | refine J.seq ?_ | refine J.region ?_ | refine J.block ?_ | refine J.skip ?_ | refine J.exit ?_ | refine J.condT ?_ | refine J.condF ?_ | refine J.cond (fun _ => ?_) (fun _ => ?_) | refine J.ret (ends _ trivial rfl ?_) | fail) | (show JK _ _ _ _ _; first | refine JK.code ?_ | refine JK.blk ?_ | refine JK.loop ?_ | refine JK.begin ?_ | refine JK.more ?_ | fail) | (show Ent _ _; first | exact Ent.nil | refine Ent.row ?_ ?_ | refine Ent.box ?_ ?_ | refine Ent.box2 ?_ ?_ | refine Ent.blk ?_ ?_ | refine Ent.any ?_ | with_reducible exact Ent.refl | fail) | (show (_ : _) = _; with_reducible rfl) | fail)
set_option maxRecDepth 100000 in
set_option maxHeartbeats 4000000 in
theorem plain_c (v : Value) (l : List Stretch) (hl : l.length ≤ 1000000) : Spec Try.prog 29 [v] [rd eStretch v l] [] (fun u : Value => u) (fun u => [row eSpan 44 u (iSp 0 l)]) (fun _ => True) := by
  refine Spec.mk Try.func29 rfl Try.ntmps29 rfl ?_
  intro w0 O hR hS0
  have hr := hR _ List.mem_cons_self; clear hR hS0
  have hll := iSp_len l 0
  repeat' (first | (show OJ _ _ _ _ _ _ _; first | refine OJ.p ?_ | refine OJ.nil ?_ | refine OJ.guardY ?_ | refine OJ.guardN ?_ | refine OJ.guardNd ?_ | refine OJ.guardU ?_ | refine OJ.guardS (fun _ => ?_) (fun _ => ?_) | (refine OJ.as AS.store ?_; rintro _ _ rfl) | (refine OJ.as AS.box1 ?_; rintro _ _ ⟨_, rfl, rfl⟩) | (refine OJ.as AS.boxA ?_; rintro _ _ ⟨_, rfl, rfl⟩) | (refine OJ.as AS.alloc ?_; rintro _ _ ⟨_, rfl, rfl⟩) | (refine OJ.as AS.buildSlice ?_; rintro _ _ ⟨_, rfl, rfl⟩) | (refine OJ.as AS.append1 ?_; rintro _ _ rfl) | (refine OJ.as AS.append ?_; rintro _ _ rfl) | (refine OJ.as AS.storeA ?_; rintro _ _ rfl) | (refine OJ.as AS.storeE ?_; rintro _ _ rfl) | (refine OJ.as AS.storeEA ?_; rintro _ _ rfl) | (refine OJ.as AS.makeSlice ?_; rintro _ _ rfl) | (refine OJ.as (AS.call1 (spans_c v l)) ?_; rotate_right; rintro _ _ ⟨y, hy, rfl, rfl⟩) | (refine OJ.as (AS.call1 (spanColl_c 43 [.pointer (some ⟨y, 0, none⟩)] _ _ (spansIt y v l) (by omega))) ?_; rotate_right; rintro _ _ ⟨y, hy, rfl, rfl⟩) | refine OJ.unboxP fun _ => ?_ | fail) | (show J _ _ _ _ _ _; first | refine J.seq ?_ | refine J.region ?_ | refine J.block ?_ | refine J.skip ?_ | refine J.exit ?_ | refine J.condT ?_ | refine J.condF ?_ | refine J.cond (fun _ => ?_) (fun _ => ?_) | refine J.ret (ends _ trivial rfl ?_) | fail) | (show JK _ _ _ _ _; first | refine JK.code ?_ | refine JK.blk ?_ | refine JK.loop ?_ | refine JK.begin ?_ | refine JK.more ?_ | fail) | (show Ent _ _; first | exact Ent.nil | refine Ent.row ?_ ?_ | refine Ent.box ?_ ?_ | refine Ent.box2 ?_ ?_ | refine Ent.blk ?_ ?_ | refine Ent.any ?_ | with_reducible exact Ent.refl | fail) | (show (_ : _) = _; with_reducible rfl) | fail)


end Go.SL
