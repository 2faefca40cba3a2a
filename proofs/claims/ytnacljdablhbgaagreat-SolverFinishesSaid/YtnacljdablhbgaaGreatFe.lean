/- SolverFinishes: the law's call, in every world (no condition). -/
import Derived.Test.YtnacljdablhbgaaGreatRows
import Derived.Test.YtnacljdablhbgaaGreatFd
namespace Go.Proofs.YtnacljdablhbgaaGreat
open Go.ChangeShapes Go.WideShapes Go.ChangeAt Go.RowKit
theorem Tryz.own : ownKnob Tryz.prog.godebug = none := by kernel_rfl
theorem Tryz.laidOut : laidOutB Tryz.prog = true := by kernel_rfl
theorem mapsR : mapsRowed Tryz.prog = true := by kernel_rfl
theorem as4 : Rows.solverFinishesRow.assume = {} := rfl
theorem ps4 : Tryz.f4.params.toList = [41] := by kernel_rfl
theorem rs4 : Tryz.f4.resultTypes = #[4] := by kernel_rfl
theorem u4 : Tryz.prog.underlying 4 = some .bool := by kernel_rfl
theorem calls4 (s : SV) (fs : FitS s) (W : World) (us : List Value) (ha : AG.VRels (AG.startG W) [encS s] us) :
    Calls Tryz.prog 4 ⟨us⟩ W fun e W' => e = .returned (.bool true) ∧ (∀ b, b < W.heap.size → W'.heap[b]? = W.heap[b]?) ∧ W'.os = W.os ∧ W'.output = W.output := by
  obtain ⟨v, h', q, hg⟩ := law4 s fs AG.emptyH
  have hv : v = .bool true := hg.1
  subst hv
  refine (AG.calls_of_fn (cK_ok KZ_ok 20) hEF q (AG.start_sim CI W) ha).mono fun e W' hp => ?_
  obtain ⟨u, g', U', rfl, hx, hr, hs⟩ := hp
  cases hr
  have hw0 : g'.w0 = W := hx.w0
  refine ⟨rfl, fun b hb => ?_, ?_, ?_⟩
  · rw [← hw0]; exact hs.old b (by rw [hw0]; exact hb)
  · rw [← hw0]; exact hs.os
  · rw [← hw0]; exact hs.output
end Go.Proofs.YtnacljdablhbgaaGreat
