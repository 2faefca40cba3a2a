/- SolverFinals: the law's call, in every world (no condition). -/
import Derived.Test.YtnacljdablhbgaaGreatFd
import Derived.Test.YtnacljdablhbgaaGreatGr
namespace Go.Proofs.YtnacljdablhbgaaGreat
open Go.ChangeShapes Go.WideShapes Go.ChangeAt Go.RowKit
theorem as5:Rows.solverFinalsRow.assume={}:=rfl
theorem ps5:Tryz.f5.params.toList=[41,23,26]:=by kernel_rfl
theorem rs5:Tryz.f5.resultTypes=#[4]:=by kernel_rfl
theorem ad0 (s:SV)(vals:List AG.LL)(t:AG.T)(fs:Me s)(hv:∀y∈vals,y.v.length<1125899906842624)(ft:Fit t)(W:World)(us:List Value)(ha:AG.aR (AG.iq W) [od s,.ls (vals.map AG.aK),AG.enc t] us):
  Calls Tryz.prog 5 ⟨us⟩ W fun e W'=>e=.returned (.bool true)/\(∀b,b<W.heap.size->W'.heap[b]?=W.heap[b]?)/\W'.os=W.os/\W'.output=W.output:=by
 obtain⟨v,h',q,rfl⟩:=law5 s vals t fs hv ft AG.bg;refine(AG.BB (cS_ok cy.1 20602) hEG q (AG.JB CI W) ha).mono fun e W' hp=>?_
 obtain⟨u,g',U',rfl,hx,hr,hs⟩:=hp;cases hr;have hw0:g'.w0=W:=hx.w0;refine⟨rfl,fun b hb=>?_,?_,?_⟩
 ·rw[<-hw0];exact hs.old b (by rw[hw0];exact hb)
 ·rw[<-hw0];exact hs.os
 ·rw[<-hw0];exact hs.output
theorem jg_a:(Rows.solverFinalsRow.inPlace==Tryz.prog.inPlace 5)=true:=by kernel_rfl
theorem jg_b:(Rows.solverFinalsRow.unfollowed==Tryz.prog.unfollowed 5)=true:=by kernel_rfl
theorem jg_c:(Rows.solverFinalsRow.recurses==Tryz.prog.recurses 5)=true:=by kernel_rfl
theorem jg_d:(Rows.solverFinalsRow.named==Tryz.prog.varsNamed 5)=true:=by kernel_rfl
theorem jg:joinedFacts Tryz.prog 5 Tryz.f5 Rows.solverFinalsSpec Rows.solverFinalsRow=true:=by
 unfold joinedFacts;rw[jg_a,jg_b,jg_c,jg_d,Tryz.laidOut,mapsR];kernel_rfl
theorem nm5:Tryz.prog.funcNamed Rows.solverFinalsRow.func=some 5:=by kernel_rfl
