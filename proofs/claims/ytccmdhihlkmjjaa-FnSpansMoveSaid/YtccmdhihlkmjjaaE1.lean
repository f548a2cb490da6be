/- The drawing's reader: l1Open, pick, one. -/
import Derived.Test.YtccmdhihlkmjjaaSl11
import Derived.Test.YtccmdhihlkmjjaaTy
namespace Go.SL
open Go.RowKit Go.Proofs
instance : EncN 5 eByte := ⟨trivial⟩
instance : EncN 3 eInt := ⟨trivial⟩
theorem getD_all {α : Type} {p : α → Prop} {l : List α} {i : Nat} {d : α} (h : ∀ x ∈ l, p x) (hd : p d) : p (l.getD i d) := by
  rw [List.getD_eq_getElem?_getD]
  cases hi : l[i]? with
  | none => exact hd
  | some x => exact h x (List.mem_of_getElem? hi)
/-- The reader: at most N numbers have been drawn. -/
def rdr (b : Nat) (v : Value) (N : Nat) : HP := exR fun p : Int => [pureR (0 ≤ p ∧ p ≤ N), blk b (.cells #[v, .int .i64 p] 75 (0, 0))]
theorem Pick.rdr {b N : Nat} {v : Value} {p : Int} {L L' : List HP} (h : 0 ≤ p ∧ p ≤ N) (hp : Pick L (blk b (.cells #[v, .int .i64 p] 75 (0, 0))) L') : Pick L (SL.rdr b v N) L' :=
  Pick.ex p (Parts.cons (Pick.pure h) (Parts.cons hp Parts.nil))
theorem Ent.rdr {b N : Nat} {v : Value} {p : Int} {L L1 L2 : List HP} (h2 : Ent L1 L2) (hp : Pick L (SL.blk b (.cells #[v, .int .i64 p] 75 (0, 0))) L1 := by ((repeat (first | exact Pick.here | apply Pick.there)); first | done | fail)) (h : 0 ≤ p ∧ p ≤ N := by omega) : Ent L (SL.rdr b v N :: L2) := Ent.pick (Pick.rdr h hp) h2
theorem Ent.rdrUp {b N M : Nat} {v : Value} {L L1 L2 : List HP} (h2 : Ent L1 L2) (h : N ≤ M) (hp : Pick L (SL.rdr b v N) L1 := by ((repeat (first | exact Pick.here | apply Pick.there)); first | done | fail)) : Ent L (SL.rdr b v M :: L2) := by
  refine Ent.pick (L1 := L1) ⟨fun g hg => ?_⟩ h2
  obtain ⟨g1, g2, d, e, ⟨p, hq⟩, q2⟩ := hp.h g hg
  refine ⟨g1, g2, d, e, ⟨p, ?_⟩, q2⟩
  obtain ⟨g3, g4, d', e', ⟨h1, h0⟩, h3⟩ := hq
  exact ⟨g3, g4, d', e', ⟨⟨h1.1, by omega⟩, h0⟩, h3⟩
theorem J.rdr {P : Program} {x : Cx} {E : List (Nat × Value)} {L L' : List HP} {k : List Fr} {c : Code} {b N : Nat} {v : Value} (h : ∀ p : Int, 0 ≤ p ∧ p ≤ N → J P x E (blk b (.cells #[v, .int .i64 p] 75 (0, 0)) :: L') c k) (hp : Pick L (SL.rdr b v N) L' := by ((repeat (first | exact Pick.here | apply Pick.there)); first | done | fail)) : J P x E L c k :=
  J.exP hp fun p => J.pureP fun h0 => h p h0
set_option maxRecDepth 100000 in
set_option maxHeartbeats 4000000 in
theorem pick_c (b : Nat) (v : Value) (l : List UInt8) (N : Nat) (n : Int) (hN : N ≤ 1000000) (hn : -1000000000 ≤ n ∧ n ≤ 1000000000) : Spec Try.prog 32 [.pointer (some ⟨b, 0, none⟩), .int .i64 n] [rd eByte v l] [rdr b v N] (fun k : Int => .int .i64 k) (fun _ => [rdr b v (N + 1)]) (fun k => 0 ≤ k ∧ (1 ≤ n → k < n) ∧ (n < 1 → k = 0)) := by
  refine Spec.mk Try.func32 rfl Try.ntmps32 rfl ?_
  intro w0 O hR hS0
  have hr := hR _ List.mem_cons_self; clear hR hS0
  refine J.rdr fun p hp => ?_
  refine J.know (R := rd eByte v l) fun w hw => ?_
  have hb := rd_bd hw; clear hw w
  by_cases hl : 0 < l.length
  · have hq : 0 ≤ (p + 1 - 1) / (l.length : Int) ∧ (p + 1 - 1) / (l.length : Int) ≤ p + 1 - 1 := ⟨Int.ediv_nonneg (by omega) (by omega), Int.ediv_le_self _ (by omega)⟩
    have h1 := byte_bd (l.getD ((p + 1 - 1) % (l.length : Int)).toNat eByte.d)
    have h2 := byte_bd (l.getD (((p + 1 - 1) * 7 + 3) % (l.length : Int)).toNat eByte.d)
    obtain ⟨X, hX⟩ : ∃ X : Int, X = ((l.getD ((p + 1 - 1) % (l.length : Int)).toNat eByte.d).toNat : Int) * 131 + ((l.getD (((p + 1 - 1) * 7 + 3) % (l.length : Int)).toNat eByte.d).toNat : Int) * 1117 + (p + 1 - 1) * 29 + (p + 1 - 1) / (l.length : Int) * 53 := ⟨_, rfl⟩
    have hx := xorV_nn (a := X) (b := X / 64) (by omega) (by omega)
    rw [hX] at hx
    clear hX X
    repeat' (first | ((with_reducible apply iOJ); first | ((with_reducible apply iOp); refine OJ.p ?_) | with_reducible apply OJ.nil | ((with_reducible apply iOg); first | refine OJ.guardY ?_ | refine OJ.guardN ?_ | refine OJ.guardNd ?_ | refine OJ.guardU ?_ | refine OJ.guardS (fun _ => ?_) (fun _ => ?_) | fail) | ((with_reducible apply iOstore); first | (refine OJ.as AS.store ?_; rintro _ _ rfl) | (refine OJ.as AS.storeA ?_; rintro _ _ rfl) | (refine OJ.as AS.storeE ?_; rintro _ _ rfl) | (refine OJ.as AS.storeEA ?_; rintro _ _ rfl) | fail) | ((with_reducible apply iOcall); first | (refine OJ.as AS.append1 ?_; rintro _ _ rfl) | (refine OJ.as AS.append ?_; rintro _ _ rfl) | fail) | ((with_reducible apply iObox); first | (refine OJ.as AS.box1 ?_; rintro _ _ ⟨_, rfl, rfl⟩) | (refine OJ.as AS.boxA ?_; rintro _ _ ⟨_, rfl, rfl⟩) | fail) | ((with_reducible apply iOalloc); first | (refine OJ.as AS.alloc ?_; rintro _ _ ⟨_, rfl, rfl⟩) | fail) | ((with_reducible apply iObuildSlice); first | (refine OJ.as AS.buildSlice ?_; rintro _ _ ⟨_, rfl, rfl⟩) | fail) | ((with_reducible apply iOmakeSlice); first | (refine OJ.as AS.makeSlice ?_; rintro _ _ rfl) | fail) | refine OJ.unboxP fun _ => ?_ | fail) | ((with_reducible apply iJ); first | refine J.seq ?_ | refine J.region ?_ | refine J.block ?_ | refine J.skip ?_ | refine J.exit ?_ | refine J.condT ?_ | refine J.condF ?_ | refine J.cond (fun _ => ?_) (fun _ => ?_) | refine J.draw ?_ | refine J.ret (ends _ ?_ rfl ?_) | fail) | ((with_reducible apply iJK); first | refine JK.code ?_ | refine JK.blk ?_ | refine JK.loop ?_ | refine JK.begin ?_ | refine JK.more ?_ | fail) | ((with_reducible apply iAJ); first | refine AJ.rebase ?_ | refine AJ.regain ?_ | refine AJ.take ?_ | refine AJ.takeY ?_ | refine AJ.takeN ?_ | refine AJ.takeNd ?_ | refine AJ.takeNS ?_ | refine AJ.takeU ?_ | refine AJ.sel ?_ | refine AJ.selY ?_ | refine AJ.sel2 ?_ ?_ | refine AJ.split (fun _ => ?_) (fun _ => ?_) | refine AJ.done ?_ | fail) | ((with_reducible apply iAO); first | ((with_reducible apply iAstore); first | (refine AO.as AS.store ?_; rotate_right; rintro _ _ rfl; refine AO.step ?_) | (refine AO.as AS.storeA ?_; rotate_right; rintro _ _ rfl; refine AO.step ?_) | (refine AO.as AS.storeE ?_; rotate_right; rintro _ _ rfl; refine AO.step ?_) | (refine AO.as AS.storeEA ?_; rotate_right; rintro _ _ rfl; refine AO.step ?_) | fail) | ((with_reducible apply iAcall); first | (refine AO.as AS.append1 ?_; rotate_right; rintro _ _ rfl; refine AO.step ?_) | (refine AO.as AS.append ?_; rotate_right; rintro _ _ rfl; refine AO.step ?_) | fail) | ((with_reducible apply iAbox); first | (refine AO.as AS.box1 ?_; rotate_right; rintro _ _ ⟨_, rfl, rfl⟩; refine AO.step ?_) | (refine AO.as AS.boxA ?_; rotate_right; rintro _ _ ⟨_, rfl, rfl⟩; refine AO.step ?_) | fail) | ((with_reducible apply iAalloc); first | (refine AO.as AS.alloc ?_; rotate_right; rintro _ _ ⟨_, rfl, rfl⟩; refine AO.step ?_) | fail) | ((with_reducible apply iAbuildSlice); first | (refine AO.as AS.buildSlice ?_; rotate_right; rintro _ _ ⟨_, rfl, rfl⟩; refine AO.step ?_) | fail) | ((with_reducible apply iAmakeSlice); first | (refine AO.as AS.makeSlice ?_; rotate_right; rintro _ _ rfl; refine AO.step ?_) | fail) | fail) | ((with_reducible apply iEnt); first | exact Ent.nil | ((with_reducible apply iERow); refine Ent.row ?_ ?_) | ((with_reducible apply iEBox); first | refine Ent.box ?_ ?_ | refine Ent.box2 ?_ ?_) | ((with_reducible apply iEBlk); refine Ent.blk ?_ ?_) | refine Ent.any ?_ | with_reducible exact Ent.refl | fail) | ((with_reducible apply iEq); with_reducible rfl) | fail)
    all_goals clear hr
    all_goals first
      | (exfalso; omega)
      | exact ⟨by omega, by omega, by omega⟩
      | exact ⟨Int.emod_nonneg _ (by omega), fun _ => Int.emod_lt_of_pos _ (by omega), fun h => absurd h (by omega)⟩
      | exact Ent.rdr Ent.nil
  · repeat' (first | ((with_reducible apply iOJ); first | ((with_reducible apply iOp); refine OJ.p ?_) | with_reducible apply OJ.nil | ((with_reducible apply iOg); first | refine OJ.guardY ?_ | refine OJ.guardN ?_ | refine OJ.guardNd ?_ | refine OJ.guardU ?_ | refine OJ.guardS (fun _ => ?_) (fun _ => ?_) | fail) | ((with_reducible apply iOstore); first | (refine OJ.as AS.store ?_; rintro _ _ rfl) | (refine OJ.as AS.storeA ?_; rintro _ _ rfl) | (refine OJ.as AS.storeE ?_; rintro _ _ rfl) | (refine OJ.as AS.storeEA ?_; rintro _ _ rfl) | fail) | ((with_reducible apply iOcall); first | (refine OJ.as AS.append1 ?_; rintro _ _ rfl) | (refine OJ.as AS.append ?_; rintro _ _ rfl) | fail) | ((with_reducible apply iObox); first | (refine OJ.as AS.box1 ?_; rintro _ _ ⟨_, rfl, rfl⟩) | (refine OJ.as AS.boxA ?_; rintro _ _ ⟨_, rfl, rfl⟩) | fail) | ((with_reducible apply iOalloc); first | (refine OJ.as AS.alloc ?_; rintro _ _ ⟨_, rfl, rfl⟩) | fail) | ((with_reducible apply iObuildSlice); first | (refine OJ.as AS.buildSlice ?_; rintro _ _ ⟨_, rfl, rfl⟩) | fail) | ((with_reducible apply iOmakeSlice); first | (refine OJ.as AS.makeSlice ?_; rintro _ _ rfl) | fail) | refine OJ.unboxP fun _ => ?_ | fail) | ((with_reducible apply iJ); first | refine J.seq ?_ | refine J.region ?_ | refine J.block ?_ | refine J.skip ?_ | refine J.exit ?_ | refine J.condT ?_ | refine J.condF ?_ | refine J.cond (fun _ => ?_) (fun _ => ?_) | refine J.ret (ends _ ?_ rfl ?_) | fail) | ((with_reducible apply iJK); first | refine JK.code ?_ | refine JK.blk ?_ | refine JK.loop ?_ | refine JK.begin ?_ | refine JK.more ?_ | fail) | ((with_reducible apply iEnt); first | exact Ent.nil | ((with_reducible apply iERow); refine Ent.row ?_ ?_) | ((with_reducible apply iEBox); first | refine Ent.box ?_ ?_ | refine Ent.box2 ?_ ?_) | ((with_reducible apply iEBlk); refine Ent.blk ?_ ?_) | refine Ent.any ?_ | with_reducible exact Ent.refl | fail) | ((with_reducible apply iEq); with_reducible rfl) | fail)
    all_goals clear hr
    all_goals first
      | (exfalso; omega)
      | exact ⟨by omega, by omega, by omega⟩
      | exact ⟨Int.emod_nonneg _ (by omega), fun _ => Int.emod_lt_of_pos _ (by omega), fun h => absurd h (by omega)⟩
      | exact Ent.rdr Ent.nil
set_option maxRecDepth 100000 in
set_option maxHeartbeats 4000000 in
theorem one_c (b : Nat) (v u : Value) (l : List UInt8) (xs : List Int) (N : Nat) (hN : N ≤ 1000000) (hx : 0 < xs.length ∧ xs.length ≤ 1000000) : Spec Try.prog 44 [.pointer (some ⟨b, 0, none⟩), u] [rd eByte v l, rd eInt u xs] [rdr b v N] (fun k : Nat => .int .i64 (xs.getD k eInt.d)) (fun _ => [rdr b v (N + 1)]) (fun k => k < xs.length) := by
  refine Spec.mk Try.func44 rfl Try.ntmps44 rfl ?_
  intro w0 O hR hS0
  have hr := hR _ List.mem_cons_self
  have hr2 := hR _ (List.mem_cons_of_mem _ List.mem_cons_self); clear hR hS0
  repeat' (first | ((with_reducible apply iOJ); first | ((with_reducible apply iOp); refine OJ.p ?_) | with_reducible apply OJ.nil | ((with_reducible apply iOg); first | refine OJ.guardY ?_ | refine OJ.guardN ?_ | refine OJ.guardNd ?_ | refine OJ.guardU ?_ | refine OJ.guardS (fun _ => ?_) (fun _ => ?_) | fail) | ((with_reducible apply iOstore); first | (refine OJ.as AS.store ?_; rintro _ _ rfl) | (refine OJ.as AS.storeA ?_; rintro _ _ rfl) | (refine OJ.as AS.storeE ?_; rintro _ _ rfl) | (refine OJ.as AS.storeEA ?_; rintro _ _ rfl) | fail) | ((with_reducible apply iOcall); first | (refine OJ.as AS.append1 ?_; rintro _ _ rfl) | (refine OJ.as AS.append ?_; rintro _ _ rfl) | (refine OJ.as (AS.call1 (pick_c b v l N (xs.length : Int) hN (by omega))) ?_; rotate_right; rintro _ _ ⟨y, hy, rfl, rfl⟩) | fail) | ((with_reducible apply iObox); first | (refine OJ.as AS.box1 ?_; rintro _ _ ⟨_, rfl, rfl⟩) | (refine OJ.as AS.boxA ?_; rintro _ _ ⟨_, rfl, rfl⟩) | fail) | ((with_reducible apply iOalloc); first | (refine OJ.as AS.alloc ?_; rintro _ _ ⟨_, rfl, rfl⟩) | fail) | ((with_reducible apply iObuildSlice); first | (refine OJ.as AS.buildSlice ?_; rintro _ _ ⟨_, rfl, rfl⟩) | fail) | ((with_reducible apply iOmakeSlice); first | (refine OJ.as AS.makeSlice ?_; rintro _ _ rfl) | fail) | refine OJ.unboxP fun _ => ?_ | fail) | ((with_reducible apply iJ); first | refine J.seq ?_ | refine J.region ?_ | refine J.block ?_ | refine J.skip ?_ | refine J.exit ?_ | refine J.condT ?_ | refine J.condF ?_ | refine J.cond (fun _ => ?_) (fun _ => ?_) | refine J.ret (ends _ ?_ rfl ?_) | fail) | ((with_reducible apply iJK); first | refine JK.code ?_ | refine JK.blk ?_ | refine JK.loop ?_ | refine JK.begin ?_ | refine JK.more ?_ | fail) | ((with_reducible apply iEnt); first | exact Ent.nil | ((with_reducible apply iERow); refine Ent.row ?_ ?_) | ((with_reducible apply iEBox); first | refine Ent.box ?_ ?_ | refine Ent.box2 ?_ ?_) | ((with_reducible apply iEBlk); refine Ent.blk ?_ ?_) | refine Ent.any ?_ | with_reducible exact Ent.refl | fail) | ((with_reducible apply iEq); with_reducible rfl) | fail)
  show _ < _
  omega
set_option maxRecDepth 100000 in
set_option maxHeartbeats 4000000 in
theorem l1Open_c (v : Value) (l : List UInt8) : Spec Try.prog 31 [v] [rd eByte v l] [] (fun q : Nat × Value × List UInt8 => .pointer (some ⟨q.1, 0, none⟩)) (fun q => [rdr q.1 q.2.1 0]) (fun q => ∀ w, rd eByte v l w → rd eByte q.2.1 q.2.2 w) := by
  refine Spec.mk Try.func31 rfl Try.ntmps31 rfl ?_
  intro w0 O hR hS0
  have hr := hR _ List.mem_cons_self; clear hR hS0
  refine J.know (R := rd eByte v l) fun w hw => ?_
  obtain ⟨A, c, rfl, _⟩ := hw
  repeat' (first | ((with_reducible apply iOJ); first | ((with_reducible apply iOp); refine OJ.p ?_) | with_reducible apply OJ.nil | ((with_reducible apply iOg); first | refine OJ.guardY ?_ | refine OJ.guardN ?_ | refine OJ.guardNd ?_ | refine OJ.guardU ?_ | refine OJ.guardS (fun _ => ?_) (fun _ => ?_) | fail) | ((with_reducible apply iOstore); first | (refine OJ.as AS.store ?_; rintro _ _ rfl) | (refine OJ.as AS.storeA ?_; rintro _ _ rfl) | (refine OJ.as AS.storeE ?_; rintro _ _ rfl) | (refine OJ.as AS.storeEA ?_; rintro _ _ rfl) | fail) | ((with_reducible apply iOcall); first | (refine OJ.as AS.append1 ?_; rintro _ _ rfl) | (refine OJ.as AS.append ?_; rintro _ _ rfl) | fail) | ((with_reducible apply iObox); first | (refine OJ.as AS.box1 ?_; rintro _ _ ⟨_, rfl, rfl⟩) | (refine OJ.as AS.boxA ?_; rintro _ _ ⟨_, rfl, rfl⟩) | fail) | ((with_reducible apply iOalloc); first | (refine OJ.as AS.alloc ?_; rintro _ _ ⟨_, rfl, rfl⟩) | fail) | ((with_reducible apply iObuildSlice); first | (refine OJ.as AS.buildSlice ?_; rintro _ _ ⟨_, rfl, rfl⟩) | fail) | ((with_reducible apply iOmakeSlice); first | (refine OJ.as AS.makeSlice ?_; rintro _ _ rfl) | fail) | refine OJ.unboxP fun _ => ?_ | fail) | ((with_reducible apply iJ); first | refine J.seq ?_ | refine J.region ?_ | refine J.block ?_ | refine J.skip ?_ | refine J.exit ?_ | refine J.condT ?_ | refine J.condF ?_ | refine J.cond (fun _ => ?_) (fun _ => ?_) | fail) | ((with_reducible apply iJK); first | refine JK.code ?_ | refine JK.blk ?_ | refine JK.loop ?_ | refine JK.begin ?_ | refine JK.more ?_ | fail) | ((with_reducible apply iEnt); first | exact Ent.nil | ((with_reducible apply iERow); refine Ent.row ?_ ?_) | ((with_reducible apply iEBox); first | refine Ent.box ?_ ?_ | refine Ent.box2 ?_ ?_) | ((with_reducible apply iEBlk); refine Ent.blk ?_ ?_) | refine Ent.any ?_ | with_reducible exact Ent.refl | fail) | ((with_reducible apply iEq); with_reducible rfl) | fail)
  · rename_i n
    refine J.ret (ends (n, sliceV 1 (.slice A l.length c) 0 2000, (l.drop 0).take (2000 - 0)) ?_ rfl ?_)
    · intro w hw
      exact rd_slice (lo := 0) (hi := 2000) hw (by omega) (by omega)
    · exact Ent.rdr Ent.nil
  · rename_i n
    refine J.ret (ends (n, .slice A l.length c, l) (fun w hw => hw) rfl ?_)
    exact Ent.rdr Ent.nil
end Go.SL
