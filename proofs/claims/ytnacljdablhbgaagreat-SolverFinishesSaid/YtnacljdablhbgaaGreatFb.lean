/- SolverFinishes: awake, run in the kernel (no condition). -/
import Derived.Test.YtnacljdablhbgaaGreatCa
namespace Go.Proofs.YtnacljdablhbgaaGreat
open Go.AG
def outOnly (r : Option (AOut × RC × AH)) : Option (AOut × RC) := match r with
  | some (o, rc, _) => some (o, rc)
  | none => none
noncomputable def E2 : AG.Env := envOf Tryz.prog keepI (fun _ => false)
theorem ev13 : outOnly (evCall E2 100000 (.fn 13 [] []) [] .no emptyH) = some (.ret (.bool true), .no) := by kernel_rfl
end Go.Proofs.YtnacljdablhbgaaGreat
