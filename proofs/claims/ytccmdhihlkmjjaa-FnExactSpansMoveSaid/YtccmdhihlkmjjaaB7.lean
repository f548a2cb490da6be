/- impl.looks.spans, its iterator; slices.AppendSeq, slices.Collect; impl.looks.plain -/
import Derived.Test.YtccmdhihlkmjjaaC1
import Derived.Test.YtccmdhihlkmjjaaSl10
namespace Go.SL
open Go.RowKit Go.Proofs
def vSpan (s : Span) : Value := .agg #[.int .i64 s.fr, .int .i64 s.to, .int .i64 s.size, .int .i64 s.mark]
set_option maxRecDepth 100000 in
set_option maxHeartbeats 4000000 in
theorem spansIt (b : Nat) (v : Value) (l : List Stretch) : IterSpec Try.prog 43 [.pointer (some ⟨b, 0, none⟩)] [rd eStretch v l, holds b (.cells #[v] 48 (0, 0))] ((iSp 0 l).map fun s => [vSpan s]) := by
  refine IterSpec.mk' Try.func43 rfl Try.ntmps43 rfl ?_
  intro w0 O y Iy Ix hR hY
  have hr : ∀ k, Rd w0 O [Iy k] (rd eStretch v l) := fun k => (hR k).h _ List.mem_cons_self
  have hc : ∀ k, Rd w0 O [Iy k] (holds b (.cells #[v] 48 (0, 0))) := fun k => (hR k).h _ (List.mem_cons_of_mem _ List.mem_cons_self)
  clear hR
  have hr1 := hr 0
  have hc1 := hc 0
  repeat' (first | (show OJ _ _ _ _ _ _ _; first | refine OJ.p ?_ | refine OJ.nil ?_ | refine OJ.guardY ?_ | refine OJ.guardN ?_ | refine OJ.guardNd ?_ | refine OJ.guardU ?_ | refine OJ.guardS (fun _ => ?_) (fun _ => ?_) | (refine OJ.as AS.store ?_; rintro _ _ rfl) | (refine OJ.as AS.box1 ?_; rintro _ _ ⟨_, rfl, rfl⟩) | (refine OJ.as AS.boxA ?_; rintro _ _ ⟨_, rfl, rfl⟩) | (refine OJ.as AS.alloc ?_; rintro _ _ ⟨_, rfl, rfl⟩) | (refine OJ.as AS.buildSlice ?_; rintro _ _ ⟨_, rfl, rfl⟩) | (refine OJ.as AS.append1 ?_; rintro _ _ rfl) | (refine OJ.as AS.append ?_; rintro _ _ rfl) | (refine OJ.as AS.storeA ?_; rintro _ _ rfl) | (refine OJ.as AS.storeE ?_; rintro _ _ rfl) | (refine OJ.as AS.storeEA ?_; rintro _ _ rfl) | (refine OJ.as AS.makeSlice ?_; rintro _ _ rfl) | refine OJ.unboxP fun _ => ?_ | fail) | (show J _ _ _ _ _ _; first | refine J.seq ?_ | refine J.region ?_ | refine J.block ?_ | refine J.skip ?_ | refine J.exit ?_ | refine J.condT ?_ | refine J.condF ?_ | refine J.cond (fun _ => ?_) (fun _ => ?_) | fail) | (show JK _ _ _ _ _; first | refine JK.code ?_ | refine JK.blk ?_ | refine JK.loop ?_ | refine JK.begin ?_ | refine JK.more ?_ | fail) | (show Ent _ _; first | exact Ent.nil | refine Ent.row ?_ ?_ | refine Ent.box ?_ ?_ | refine Ent.box2 ?_ ?_ | refine Ent.blk ?_ ?_ | refine Ent.any ?_ | with_reducible exact Ent.refl | fail) | (show (_ : _) = _; with_reducible rfl) | fail)
  clear hr1 hc1
  refine J.loopW (fun i (p : Int × Nat) _ => i ≤ l.length ∧ ∃ done : List Span, done.length = p.2 ∧ iSp 0 l = done ++ iSp p.1 (l.drop i)) (fun i => l.length - i)
    (fun i p _ => [(8, .int .i64 (i : Nat)), (7, .int .i64 l.length), (6, v), (3, .int .i64 p.1), (0, yv y), (1, .pointer (some ⟨b, 0, none⟩))]) (fun _ p _ => [Iy p.2]) 0 (0, 0) undef ⟨Nat.zero_le _, [], rfl, rfl⟩ ?_
  rintro i ⟨a, n⟩ u ⟨hi, done, hn, hm⟩ ih
  dsimp only at hn hm
  have hr1 := hr n
  have hc1 := hc n
  refine J.know (R := rd eStretch v l) fun w hw => ?_
  have hb := rd_bd hw
  clear hw w
  have hx : i < l.length → eqLk (l.getD i eStretch.d).look ⟨10, 0⟩ = false → ((iSp 0 l).map fun s => [vSpan s])[n]? = some [vSpan ⟨a, w64 (a + (l.getD i eStretch.d).many), (l.getD i eStretch.d).look.size, (l.getD i eStretch.d).look.mark⟩] := fun h1 h2 => by
    rw [hm, dropD (d := eStretch.d) h1, iSp, h2, ← hn]
    simp
  repeat' (first | (show OJ _ _ _ _ _ _ _; first | refine OJ.p ?_ | refine OJ.nil ?_ | refine OJ.guardY ?_ | refine OJ.guardN ?_ | refine OJ.guardNd ?_ | refine OJ.guardU ?_ | refine OJ.guardS (fun _ => ?_) (fun _ => ?_) | (refine OJ.as AS.store ?_; rintro _ _ rfl) | (refine OJ.as AS.box1 ?_; rintro _ _ ⟨_, rfl, rfl⟩) | (refine OJ.as AS.boxA ?_; rintro _ _ ⟨_, rfl, rfl⟩) | (refine OJ.as AS.alloc ?_; rintro _ _ ⟨_, rfl, rfl⟩) | (refine OJ.as AS.buildSlice ?_; rintro _ _ ⟨_, rfl, rfl⟩) | (refine OJ.as AS.append1 ?_; rintro _ _ rfl) | (refine OJ.as AS.append ?_; rintro _ _ rfl) | (refine OJ.as AS.storeA ?_; rintro _ _ rfl) | (refine OJ.as AS.storeE ?_; rintro _ _ rfl) | (refine OJ.as AS.storeEA ?_; rintro _ _ rfl) | (refine OJ.as AS.makeSlice ?_; rintro _ _ rfl) | refine OJ.unboxP fun _ => ?_ | fail) | (show J _ _ _ _ _ _; first | refine J.seq ?_ | refine J.region ?_ | refine J.block ?_ | refine J.skip ?_ | refine J.exit ?_ | refine J.condT ?_ | refine J.condF ?_ | refine J.cond (fun _ => ?_) (fun _ => ?_) | refine J.draw ?_ | refine J.ret (iendsX n (Ent.any Ent.nil)) | fail) | (show JK _ _ _ _ _; first | refine JK.code ?_ | refine JK.blk ?_ | refine JK.loop ?_ | refine JK.begin ?_ | refine JK.more ?_ | refine JK.fin (iends ?_) | fail) | (show AJ _ _ _ _ _ _ _ _ _ _ _; first | refine AJ.take ?_ | refine AJ.takeY ?_ | refine AJ.takeN ?_ | refine AJ.takeNd ?_ | refine AJ.takeNS ?_ | refine AJ.takeU ?_ | refine AJ.sel ?_ | refine AJ.selY ?_ | refine AJ.split (fun _ => ?_) (fun _ => ?_) | refine AJ.done ?_ | fail) | (show AO _ _ _ _ _ _ _ _ _ _ _ _ _ _ _; first | (refine AO.as AS.store ?_; rotate_right; rintro _ _ rfl; refine AO.step ?_) | (refine AO.as AS.append1 ?_; rotate_right; rintro _ _ rfl; refine AO.step ?_) | (refine AO.as AS.append ?_; rotate_right; rintro _ _ rfl; refine AO.step ?_) | (refine AO.as AS.storeA ?_; rotate_right; rintro _ _ rfl; refine AO.step ?_) | (refine AO.as AS.storeE ?_; rotate_right; rintro _ _ rfl; refine AO.step ?_) | (refine AO.as AS.storeEA ?_; rotate_right; rintro _ _ rfl; refine AO.step ?_) | (refine AO.as AS.makeSlice ?_; rotate_right; rintro _ _ rfl; refine AO.step ?_) | (refine AO.as AS.box1 ?_; rotate_right; rintro _ _ ⟨_, rfl, rfl⟩; refine AO.step ?_) | (refine AO.as AS.boxA ?_; rotate_right; rintro _ _ ⟨_, rfl, rfl⟩; refine AO.step ?_) | (refine AO.as AS.alloc ?_; rotate_right; rintro _ _ ⟨_, rfl, rfl⟩; refine AO.step ?_) | (refine AO.as AS.buildSlice ?_; rotate_right; rintro _ _ ⟨_, rfl, rfl⟩; refine AO.step ?_) | (refine AO.as (AS.call0 (plainLook_c)) ?_; rotate_right; rintro _ _ ⟨y, hy, rfl, rfl⟩; refine AO.step ?_) | (refine AO.as (AS.yield (hY _ _ (hx (by omega) (by simp only [eqLk]; assumption)))) ?_; rotate_right; rintro _ _ (⟨rfl, rfl⟩ | ⟨rfl, rfl⟩) <;> refine AO.step ?_) | fail) | (show JL _ _ _ _ _ _; first | refine JL.use (ih (i + 1) (w64 (a + (l.getD i eStretch.d).many), n + 1) undef ⟨by omega, done ++ [⟨a, w64 (a + (l.getD i eStretch.d).many), (l.getD i eStretch.d).look.size, (l.getD i eStretch.d).look.mark⟩], ?_, ?_⟩ (by omega)) | refine JL.use (ih (i + 1) (w64 (a + (l.getD i eStretch.d).many), n) undef ⟨by omega, done, ?_, ?_⟩ (by omega)) | fail) | (show Ent _ _; first | exact Ent.nil | refine Ent.row ?_ ?_ | refine Ent.box ?_ ?_ | refine Ent.box2 ?_ ?_ | refine Ent.blk ?_ ?_ | refine Ent.any ?_ | with_reducible exact Ent.refl | fail) | (show (_ : _) = _; with_reducible rfl) | fail)
  all_goals clear ih hY hr hc hr1 hc1
  · simp [hn]
  · have h2 : eqLk (l.getD i eStretch.d).look ⟨10, 0⟩ = false := by simp only [eqLk]; assumption
    rw [hm, dropD (d := eStretch.d) (by omega), iSp, h2]
    simp
  · exact hn
  · have h2 : eqLk (l.getD i eStretch.d).look ⟨10, 0⟩ = true := by simp only [eqLk]; assumption
    rw [hm, dropD (d := eStretch.d) (by omega), iSp, h2]
  · have : (List.map (fun s => [vSpan s]) (iSp 0 l)).length = n := by rw [hm, List.drop_of_length_le (by omega)]; simp [iSp, hn]
    rw [this]
    exact Ent.any Ent.nil
end Go.SL
