/- MachineOrders: the second form's statement and its card (the row's own conditions: the listed tables of the library, the bulk). -/
import Derived.Test.YtocdlbblemjabaaGreatDoorDx
import Derived.Test.YtocdlbblemjabaaGreatDoorCards
import Derived.Test.YtocdlbblemjabaaGreatDoorTie
namespace Go.Proofs.YtocdlbblemjabaaGreatDoor
open Go.ChangeShapes Go.WideShapes Go.ChangeAt Go.RowKit Go.Proofs
theorem jg_a:(Rows.machineOrdersUptoRow.inPlace==Tryz.prog.inPlace 6)=true:=r_
theorem jg_b:(Rows.machineOrdersUptoRow.unfollowed==Tryz.prog.unfollowed 6)=true:=r_
theorem jg_c:(Rows.machineOrdersUptoRow.recurses==Tryz.prog.recurses 6)=true:=r_
theorem jg_d:(Rows.machineOrdersUptoRow.named==Tryz.prog.varsNamed 6)=true:=r_
theorem mapsR:mapsRowed Tryz.prog=true:=r_
theorem jg:joinedFacts Tryz.prog 6 Tryz.f6 (Rows.OpenSpec.upto Rows.machineOrdersSpec).bare Rows.machineOrdersUptoRow=true:=by
 unfold joinedFacts;rw[jg_a,jg_b,jg_c,jg_d,QQ,mapsR];kernel_rfl
theorem nm5:Tryz.prog.funcNamed Rows.machineOrdersUptoRow.func=some 6:=r_
theorem Sa:Rows.MachineOrdersUptoSaid:=
 OpenClaim.holds_of_cond 6 Tryz.f6 rfl rfl rfl rfl rfl rfl rfl ⟨rfl,rfl,rfl,rfl,rfl⟩ rfl rfl rfl rfl rfl nm5 Tryz.func6 jg
  (of_decide_eq_true (by kernel_rfl)) (by unfold Func.isWrapper;first|(kernel_rfl)|(exact⟨rfl,rfl⟩))
  (λos started H enc _ F=>by exact IS os started H enc F)
theorem ads (f:FuncId)(fn:Func)(hf:Tryz.pinned.checked.prog.funcNamed "euclid/euclidlaw51.MachineOrders" = some f) (hfn:Tryz.pinned.checked.prog.funcs[f]?=some fn) :
  true=Tryz.pinned.checked.prog.looks []/\∀(j:Nat) t,fn.params[j]?=some t->Tryz.pinned.checked.prog.wantsStandIn t=false:=by
 obtain rfl:f=6:=Option.some.inj (nm5.symm.trans hf) |>.symm;obtain rfl:fn=Tryz.f6:=(Option.some.inj (Tryz.func6.symm.trans hfn)).symm;refine⟨by kernel_rfl,λj t ht=>?_⟩;rw[Tryz.params6]at ht;have h25:Tryz.prog.wantsStandIn 25=false:=r_;have h3:Tryz.prog.wantsStandIn 3=false:=r_;have hm:=Array.mem_of_getElem? ht;simp only[List.mem_toArray,List.mem_cons,List.not_mem_nil,or_false]at hm;rcases hm with rfl|rfl|rfl
 ·exact h25
 ·exact h3
 exact h3
theorem machineOrdersUpto_card:Rows.MachineOrdersUptoCardSaid:=
 Claim7.holds_tied_plain_at .later [] _ _ _ _ Sa (λ_ h=>by grind) (by kernel_rfl) (λ_ h=>by grind) machineOrdersUpto_row_tie rfl ⟨rfl,rfl⟩ (by kernel_rfl) rfl ads (by kernel_rfl)
#print axioms machineOrdersUpto_card
