/- Lemmas for MachineOrders (no condition). -/
import Derived.Test.YtocdlbblemjabaaGreatDoorDb
import Derived.Test.YtocdlbblemjabaaGreatDoorDr
import Derived.Test.YtocdlbblemjabaaGreatDoorCc
import Derived.WalkKit
import Derived.OpenShut
import Derived.Deep.DeepHandedRow
import Derived.Lib.LaidTab
import Derived.LaidSub
namespace Go.Proofs.YtocdlbblemjabaaGreatDoor
open Go.AG Go.AG.MK
@[go_sem] theorem bin_bself (b:Bool):rj (.bool b) .eql .boolK (.bool b)=some (.bool true):=by cases b<;>(rfl)
section
variable {K:aN}{h:AH}
theorem XS [RunsM K][km:KM K][kg:KG K][ks:KS K][ka:KA K](n:Nat)(c:List DV)(l:List T)(pe:PE n c)(pt:PT n l)(hn:n<=9000000)(a b:Int)(h:AH):
  R_ K [.code WZ] (IQ QM λv _=>v=.bool true) .normal ⟨cU [ow c l,.I a,.I b],⟨[],.no,none,6⟩⟩ h:=by
 have ret:∀(tm:Tm) (H:AH),nth tm 6=.bool true->IQ QM (λv _=>v=.bool true) .ret (F_ 6 tm) H:=λtm H t6=>
  ⟨rfl,rfl,.inr rfl,[.bool true],q_ t6,rfl⟩
 obtain⟨H,hH,_,n0,g0⟩:=nw h (.box [.eD c,.eT l]);have o:=vW (h:=h) [.eD c,.eT l] 2 rfl;obtain⟨v,H1,J,⟨g,ao,ok,rfl,S⟩,k1⟩:=c1008 (h:=H) n c l pe pt hn;obtain⟨HA,C,kA,nA,gA⟩:=ns H1 (.box [.nl]) (.box [.eN g]);have B:=aS (aD H1 (.box [.nl])) (vs:=[.eN g]) (sz:=1) rfl rfl;rw[<-C]at B;clear C;have n1:=k1.z;have E:=kA.up (k1.up g0);have D:=λh=>(c1009 h);have J:=J;unfold ow at J;unfold ow WZ;simp only[go_sem,o,<-hH,g0,J,B];clear hH o;cases ok with
 |false=>
  simp only[go_sem,D];exact ret _ _ k_
 |true=>
  obtain⟨eg,ap,ts,wf,Q,am⟩:=S rfl;have wg:=wf.wg Q;obtain⟨v,H2,O,k2,q⟩:=c1017 (h:=HA) (a:=a) (b:=b) eg wg;have O:=O;obtain⟨u,d,i,rfl,qq⟩:∃(u:List NV) (d:Bool) (i:Int),v=.tup [.agg [.eN u],.bool d,.I i]/\((¬(In g a/\In g b)/\d=false/\i=2)\/i=11\/∃p L,Wg (Mst u p)/\u=g++L/\i=0/\In g a/\In g b/\
    ((a=b/\d=true)\/∃k j x y,At ts a k/\At ts b j/\FmT (Ce c inst) k x/\FmT (Ce c inst) j y/\(d=true<->blw (aO x) x y))):=by
   rcases q with⟨w,rfl⟩|rfl|⟨U,p,bb,rfl,w,⟨L,e⟩,P,ib,N⟩
   ·exact⟨[],_,_,rfl,.inl ⟨w,rfl,rfl⟩⟩
   ·exact⟨[],_,_,rfl,.inr (.inl rfl)⟩
   exact⟨U,bb,_,rfl,.inr (.inr ⟨p,L,w,e,rfl,P,ib,N⟩)⟩
  obtain⟨HB,A,kB,nB,gB⟩:=ns H2 (.box [.nl]) (.box [.eN u]);have I:=aS (aD H2 (.box [.nl])) (vs:=[.eN u]) (sz:=1) rfl rfl;rw[<-A]at I;clear A;have n2:=k2.z;have V:=k2.trans kB;obtain⟨_,H3,e3,rfl,k3,n3,x3⟩:=c16 (h:=HB);have G:=V.trans k3;have aj:∀nd∈g,nd.K.length<=1000:=λnd ag=>by
   have:=(wg.nok ag).nd.K;unfold cN at this;split at this
   ·omega
   split at this
   ·omega
   split at this<;>omega
  obtain⟨v,H4,e4,X,c4,x4,q4⟩:=c1018 (h:=H3) eg wg aj a b x3 n3;obtain⟨f,r,rfl,m⟩:∃(f:Bool) (r:Int),v=.tup [.bool f,.I r]/\((¬(In g a/\In g b)/\f=false/\r=2)\/∃k j,At ts a k/\At ts b j/\r=0/\∀d',c4=some d'->∃x y,TOK x/\FmT (Ce c inst) k x/\FmT (Ce c inst) j y/\(f=true<->blw (aO x) x y)):=by
   rcases q4 with⟨w,rfl⟩|⟨k,j,bb,s,z,rfl,w⟩
   ·exact⟨_,_,rfl,.inl ⟨w,rfl,rfl⟩⟩
   exact⟨_,_,rfl,.inr ⟨k,j,s,z,rfl,w⟩⟩
  have n4:=X.z;have af:=G.up E;have F:=G.up gA;have ah:=X.up F;have ab:=X.up (k3.up gB);obtain⟨sN,nN,fN,bN,gw,o⟩:=oA x4;unfold ctB at gw;have ai:pw g=.agg [.eN g]:=rfl;rw[ai]at e4;simp only[go_sem,E,gA,O,I,e3,af,F,e4,gw];rcases o with⟨rfl,rfl⟩|⟨rfl,d4,rfl,_⟩
  ·simp only[go_sem,D];exact ret _ _ k_
  have inr:∀{x:Int} {t:T},At ts x t->In g x:=λs=>by
   have lA:=s.lt;have hl:ts.length=g.length:=wg.len;exact⟨lA.1,o_⟩
  rcases qq with⟨w,rfl,rfl⟩|rfl|⟨p,L,W,rfl,rfl,P,ib,N⟩
  ·rcases m with⟨_,rfl,rfl⟩|⟨k,j,s,z,_⟩
   ·have Z:decide ((2:Int)=11)=false:=rfl;have d2:decide ((2:Int)=2)=true:=rfl;simp only[go_sem,D];exact ret _ _ k_
   cases w ⟨inr s,inr z⟩
  ·have Z:decide ((11:Int)=11)=true:=rfl;simp only[go_sem,D];exact ret _ _ k_
  rcases m with⟨w,_⟩|⟨k,j,s,z,rfl,m⟩
  ·cases w ⟨P,ib⟩
  obtain⟨x,y,tx,fx,fy,hi⟩:=m _ rfl;have Y:d=f:=by
   have:d=true<->f=true:=by
    rw[hi];rcases N with⟨rfl,rfl⟩|⟨an,al,x',y',M,aa,ak,ad,ac⟩
    ·have:=s.det z;subst this;have:=fx.det fy;subst this;exact⟨λ_=>blw_refl _ _ (e_ _) tx,λ_=>rfl⟩
    have:=s.det M;subst this;have:=z.det aa;subst this;rw[ac,fx.det ak,fy.det ad]
   cases d<;>cases f<;>simp_all
  subst Y;obtain⟨v,H5,e5,rfl,k5⟩:=c1019 (h:=H4) W;have e5:=e5;simp only[go_sem,ah,ab,e5,D];exact ret _ _ k_
end
end Go.Proofs.YtocdlbblemjabaaGreatDoor
namespace Go.Proofs.YtocdlbblemjabaaGreatDoor
open Go.ChangeShapes Go.WideShapes Go.ChangeAt Go.RowKit Go.Proofs
section
open Go.AG Go.AG.MK
theorem law5 (c:List DV)(l:List AG.T)(e:PE 1048576 c)(d:PT 1048576 l)(a b:Int)(h:AG.AH):
  ∃v h',AG.qw EG (cS KU) 1000000000000 (6) [ow c l,.I a,.I b] .no h=some (.ret v,.no,h')/\v=.bool true:=
 AG.By af3 (@XS KU ZU KU_KM KU_KG KU_KS KU_KA 1048576 c l e d (by decide) a b h)
end
theorem af6 (c:List DV)(l:List AG.T)(n:PE 1048576 c)(h:PT 1048576 l)(a b:Int)(W:World)(us:List Value)(k:AG.bD (AG.jW W) [ow c l,.I a,.I b] us)(i:Lib.TabIs Tryz.prog W "internal/strconv.uint64pow10" .u64 Lib.pow10Tab) :
  Calls Tryz.prog 6 ⟨us⟩ W λe f=>e=.returned (.bool true)/\(∀b,b<W.heap.size->f.heap[b]?=W.heap[b]?)/\f.os=W.os/\f.output=W.output:=by
 obtain⟨v,h',q,rfl⟩:=law5 c l n h a b AG.uS;refine(AG.FI (cS_ok KU_ok) hEG q (AG.NO CI W i) k).mono λe f g=>?_;obtain⟨u,m,p,rfl,hx,j,hs⟩:=g;cases j;have d:m.w0=W:=hx.w0;refine⟨rfl,λb o=>?_,?_,?_⟩
 ·rw[<-d];exact hs.old b (by grind)
 ·rw[<-d];exact hs.os
 rw[<-d];exact hs.output
theorem e0:Tryz.prog.globalNamed "internal/strconv.uint64pow10" = some 0:=r_
theorem e0':(Tryz.prog.globals[0]?).map (·.type)=some 276:=r_
theorem e276:Tryz.prog.cellsOf 276=20:=r_
theorem e270:Tryz.prog.cellsOf 270=1:=r_
theorem ac7 {W:World}(h:laidMetH Tryz.prog Rows.machineOrdersUptoRow.laid W):Lib.TabIs Tryz.prog W "internal/strconv.uint64pow10" .u64 Lib.pow10Tab:=by
 have h:laidMet Tryz.prog Rows.machineOrdersUptoRow.laid W:=h;have a:=h.filter λx=>x.1 == "internal/strconv.uint64pow10";have e:Rows.machineOrdersUptoRow.laid.filter (λx=>x.1 == "internal/strconv.uint64pow10")=[("internal/strconv.uint64pow10",Lib.tabData .u64 Lib.pow10Tab)]:=r_;grind [Lib.tabIs_of_head,e0,e0',Tryz.underlying276,Tryz.underlying270,e270,e276]
