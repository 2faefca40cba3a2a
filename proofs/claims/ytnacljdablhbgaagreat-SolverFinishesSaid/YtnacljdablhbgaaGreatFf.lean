/- SolverFinishes: what the row says of the program, part by part (no condition). -/
import Derived.Test.YtnacljdablhbgaaGreatFe
namespace Go.Proofs.YtnacljdablhbgaaGreat
theorem jf_a : (Rows.solverFinishesRow.inPlace == Tryz.prog.inPlace 4) = true := by kernel_rfl
theorem jf_b : (Rows.solverFinishesRow.unfollowed == Tryz.prog.unfollowed 4) = true := by kernel_rfl
theorem jf_c : (Rows.solverFinishesRow.recurses == Tryz.prog.recurses 4) = true := by kernel_rfl
theorem jf_d : (Rows.solverFinishesRow.named == Tryz.prog.varsNamed 4) = true := by kernel_rfl
theorem jf : joinedFacts Tryz.prog 4 Tryz.f4 Rows.solverFinishesSpec Rows.solverFinishesRow = true := by
  unfold joinedFacts
  rw [jf_a, jf_b, jf_c, jf_d, Tryz.laidOut, mapsR]
  kernel_rfl
theorem nm4 : Tryz.prog.funcNamed Rows.solverFinishesRow.func = some 4 := by kernel_rfl
end Go.Proofs.YtnacljdablhbgaaGreat
