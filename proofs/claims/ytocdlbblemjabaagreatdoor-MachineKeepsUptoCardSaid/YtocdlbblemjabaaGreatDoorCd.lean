/- MachineKeeps, second form (a tied card): for every environment and list of terms the law returns true, and its argument reads behind the call as it read before. Conditions: the argument and the variables that the reading takes hold together at most 1048576 values and letters; the library's tables that the row lists hold what the row says. -/
import Derived.Test.YtocdlbblemjabaaGreatDoorCc
import Derived.Test.YtocdlbblemjabaaGreatDoorCards
import Derived.Test.YtocdlbblemjabaaGreatDoorTie
namespace Go.Proofs.YtocdlbblemjabaaGreatDoor
open Go.ChangeShapes Go.WideShapes Go.ChangeAt Go.RowKit Go.Proofs
theorem jg_a:(Rows.machineKeepsUptoRow.inPlace==Tryz.prog.inPlace 7)=true:=r_
theorem jg_b:(Rows.machineKeepsUptoRow.unfollowed==Tryz.prog.unfollowed 7)=true:=r_
theorem jg_c:(Rows.machineKeepsUptoRow.recurses==Tryz.prog.recurses 7)=true:=r_
theorem jg_d:(Rows.machineKeepsUptoRow.named==Tryz.prog.varsNamed 7)=true:=r_
theorem mapsR:mapsRowed Tryz.prog=true:=r_
theorem jg:joinedFacts Tryz.prog 7 Tryz.f7 (Rows.OpenSpec.upto Rows.machineKeepsSpec).bare Rows.machineKeepsUptoRow=true:=by
 unfold joinedFacts;rw[jg_a,jg_b,jg_c,jg_d,afq,mapsR];kernel_rfl
theorem nm7:Tryz.prog.funcNamed Rows.machineKeepsUptoRow.func=some 7:=r_
theorem UB:Rows.MachineKeepsUptoSaid:=
 OpenClaim.holds_of_cond 7 Tryz.f7 rfl rfl rfl rfl rfl rfl rfl ⟨rfl,rfl,rfl,rfl,rfl⟩ rfl rfl rfl rfl rfl nm7 Tryz.func7 jg
  (of_decide_eq_true (by kernel_rfl)) (by unfold Func.isWrapper;first|(rw[if_pos (by decide +kernel)];kernel_rfl)|(rw[if_neg (by decide +kernel)];exact⟨rfl,rfl⟩))
  (fun os started H enc _ F=>by rw[OpenClaim.pre_eq_preRow];exact Gg os started H enc F)
theorem ah9 (f:FuncId)(fn:Func)(hf:Tryz.pinned.checked.prog.funcNamed "euclid/euclidlaw51.MachineKeeps" = some f) (hfn:Tryz.pinned.checked.prog.funcs[f]?=some fn) :
  true=Tryz.pinned.checked.prog.looks []/\∀ (j:Nat) t,fn.params[j]?=some t->Tryz.pinned.checked.prog.wantsStandIn t=false:=by
 obtain rfl:f=7:=Option.some.inj (nm7.symm.trans hf) |>.symm;obtain rfl:fn=Tryz.f7:=(Option.some.inj (Tryz.func7.symm.trans hfn)).symm;refine⟨by kernel_rfl,fun j t ht=>?_⟩;rw[Tryz.params7]at ht;obtain rfl:t=25:=by simpa using Array.mem_of_getElem? ht
 exact(show Tryz.prog.wantsStandIn 25=false by kernel_rfl)
theorem machineKeepsUpto_card:Rows.MachineKeepsUptoCardSaid:=
 Claim7.holds_tied_plain_at .later [] _ _ _ _ UB (fun _ h=>by cases h) (by kernel_rfl) (fun _ h=>by cases h) machineKeepsUpto_row_tie rfl ⟨rfl,rfl⟩ (by kernel_rfl) rfl ah9 (by kernel_rfl)
#print axioms machineKeepsUpto_card
