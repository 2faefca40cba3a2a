/- UnifyInverts: awake, run in the kernel (no condition). -/
import Derived.Test.YtnacljdablhbgaaGreatCf
namespace Go.Proofs.YtnacljdablhbgaaGreat
open Go.AG
noncomputable def E2 : AG.Env := envOf Tryz.prog keepI (fun _ => false)
theorem ev8 : outOnly (evCall E2 100000 (.fn 8 [] []) [] .no emptyH) = some (.ret (.bool true), .no) := by kernel_rfl
end Go.Proofs.YtnacljdablhbgaaGreat
