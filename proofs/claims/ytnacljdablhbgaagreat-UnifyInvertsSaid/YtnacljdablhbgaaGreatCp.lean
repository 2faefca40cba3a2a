/- UnifyInverts: the row (no condition). -/
import Derived.Test.YtnacljdablhbgaaGreatRows
import Derived.Test.YtnacljdablhbgaaGreatCo
namespace Go.Proofs.YtnacljdablhbgaaGreat
open Go.ChangeShapes Go.WideShapes Go.ChangeAt Go.RowKit

theorem Tryz.own : ownKnob Tryz.prog.godebug = none := by kernel_rfl
theorem Tryz.laidOut : laidOutB Tryz.prog = true := by kernel_rfl
theorem mapsR : mapsRowed Tryz.prog = true := by kernel_rfl
theorem fullS : ((List.range Tryz.prog.types.size).all fun t => match Tryz.prog.underlying t with | some (.slice e) => decide (0 < Tryz.prog.cellsOf e) | _ => true) = true := by kernel_rfl
theorem as3 : Rows.unifyInvertsRow.assume = {} := rfl
theorem ps3 : Tryz.f3.params.toList = [22, 26] := by kernel_rfl
theorem rs3 : Tryz.f3.resultTypes = #[4] := by kernel_rfl
theorem u4 : Tryz.prog.underlying 4 = some .bool := by kernel_rfl

theorem calls3 (vars : List Int) (t : AG.T) (hf : Fit t) (W : World) (us : List Value) (ha : AG.VRels (AG.startG W) (aZT (vars, t)) us) :
    Calls Tryz.prog 3 ⟨us⟩ W fun e W' => e = .returned (.bool true) ∧ (∀ b, b < W.heap.size → W'.heap[b]? = W.heap[b]?) ∧ W'.os = W.os ∧ W'.output = W.output := by
  obtain ⟨h', o', q, hn⟩ := law3 t vars hf
  cases o' with
  | pan v => simp [AG.AOut.norm] at hn
  | ret v =>
    have hv : v = .bool true := by
      cases v <;> simp [AG.AOut.norm, AG.AV.norm] at hn
      subst hn; rfl
    subst hv
    refine (AG.calls_of_fn G_both.1 hEI q (AG.start_sim CI W) ha).mono fun e W' hp => ?_
    obtain ⟨u, g', U', rfl, hx, hr, hs⟩ := hp
    cases hr
    have hw0 : g'.w0 = W := hx.w0
    refine ⟨rfl, fun b hb => ?_, ?_, ?_⟩
    · rw [← hw0]; exact hs.old b (by rw [hw0]; exact hb)
    · rw [← hw0]; exact hs.os
    · rw [← hw0]; exact hs.output

end Go.Proofs.YtnacljdablhbgaaGreat
