/- UnifyInverts: the contract of the law (no condition). -/
import Derived.Test.YtnacljdablhbgaaGreatCl
import Derived.Test.YtnacljdablhbgaaGreatCm
namespace Go.Proofs.YtnacljdablhbgaaGreat
open Go.AG

theorem hE2 : EnvOk CI E2 := env_ok Tryz.prog keepI _ _ (by kernel_rfl)

theorem A8 : ∃ o, o = .ret (.bool true) ∧ Ans CI (.fn 8 [] []) (a0 ()) o := by
  have e := ev8
  have hc : CallOk CI (evCall E2 100000) := evCall_ok hE2 100000
  generalize evCall E2 100000 = call at e hc
  cases hv : call (.fn 8 [] []) [] .no emptyH with
  | none => rw [hv] at e; cases e
  | some r =>
    obtain ⟨o, rc, h'⟩ := r
    rw [hv] at e
    injection e with e
    injection e with e1 e2
    subst e1 e2
    exact ⟨_, rfl, by simp [AV.free, AV.frees], by simp [a0, AV.frees], by simp [AOut.free, AV.free], _, h', _, hc, hv, by simp [AOut.norm, AV.norm]⟩

theorem law3 (t : T) (vars : List Int) (hf : Fit t) : ∃ h' o', evFn EI G 0 3 (aZT (vars, t)) .no emptyH = some (o', .no, h') ∧ o'.norm = .ret (.bool true) := A3 t vars hf A8

end Go.Proofs.YtnacljdablhbgaaGreat
