/- SolverFinals: replacing the variables of a level, with a bound (no condition). -/
import Derived.Test.YtnacljdablhbgaaGreatGi
namespace Go.Proofs.YtnacljdablhbgaaGreat
open Go.AG
attribute [local go_sem] dB bJ bk bS bR
def acf (l:LL)(_vals:List LL)(V W:AV)(kO:Nat)(h0:AH)(j:Nat)(fr:AF)(h:AH):Prop:=∃tm m out a,m+j=l.v.length/\fr=⟨tm,⟨[],.no,none,201⟩⟩/\J201 l W kO h0 h out a/\
  out.v.length<=9*m/\
  nth tm 1=V/\nth tm 2=.bool false/\nth tm 3=.ptr h0.z 0 0/\nth tm 6=.ptr (h0.z+1) 0 0/\nth tm 7=wt 0/\nth tm 8=.ptr kO 0 0/\nth tm 9=wt (m:Int)
theorem OT {K:aG}(hK:jR K)(hv:KV K)(m0:Nat)(a:AV)(l:LL)(V:AV)(vals:List LL)(h:AH)(ha:Lv a l)(hV:RdL h.z h V vals)(h1:l.v.length<=20)(_h2:vals.length<30000)(h3:∀y∈vals,y.v.length<=9)(hvl:VL l)(hvs:∀y∈vals,VL y):
  ∃v h',dZ EF (cK K (m0+2)) 30000 201 [a,V,.bool false] .no h=some (.ret v,.no,h')/\Gx (fun v=>∃r,tQ r v) h v h':=by
 obtain⟨W,rfl,hn,hc,hli,hfz,hr,hia⟩:=ha.ex;refine eU abD (fg _) ?_;have n1:¬(h.z=h.z+1):=by omega
 unfold aeY;obtain⟨ob,hob⟩:∃ob,ob=(h.objs.put h.z (.box [wt l.c,W])).put (h.z+1) (.box [wt 0,.nl]):=⟨_,rfl⟩
 obtain⟨nx1,g1,e242⟩:=c242 hK (m0+1) l.c ⟨h.z+1+1,h.z,ob⟩;have g1:h.z+1+1<=nx1:=g1;simp only[go_sem,simprocAttr,FO,n1];rw[<-hob];simp only[go_sem,simprocAttr,e242,FP];refine bD (acf l vals V W nx1 h) l.v.length (by omega) ⟨_,0,⟨l.c,[]⟩,.agg [wt l.c,.nl],wac _,rfl,⟨?_,?_,?_,iR _,by omega,?_,(by(repeat' (first|assumption|exact Fv _|apply bo))<;>omega),?_⟩,by simp,by and_intros<;>simp only[go_sem,simprocAttr]⟩ ?_
 ·rw[cp,Tr.cA _ _ (by omega),Tr.cA _ _ (by omega),hob,Tr.cA _ _ (by omega),Tr.cB]
 ·rw[cp,Tr.cA _ _ (by omega),Tr.cA _ _ (by omega),hob,Tr.cB]
 ·rw[cp,Tr.cB];rfl
 ·show nx1<nx1+1;omega
 ·intro k hk;rw[cp,Tr.cA _ _ (by omega),Tr.cA _ _ (by omega),hob,Tr.cA _ _ (by omega),Tr.cA _ _ (by omega)];rfl
 rintro j fr H ⟨tm,q,out,a,hq,rfl,hJ,hlen,t1,t2,t3,t6,t7,t8,t9⟩;obtain⟨g3,g6,g8,lv,lk,lo,low,keep⟩:=hJ;obtain⟨nx,l0,ob2⟩:=H;have g3:ob2.get h.z=some (.box [wt l.c,W]):=g3;have g6:ob2.get (h.z+1)=some (.box [wt 0,.nl]):=g6;have g8:ob2.get nx1=some (.box a.cells):=g8;have lo:nx1<nx:=lo;have low:h.z<=l0:=low;have la:=(hr 0 h).len;have lav:=hV.len;unfold Hk;simp only[go_sem,simprocAttr,t9,t3,g3,la];refine bj (fun hlt=>?_) (fun hge=>?_)
 ·have hlt:q<l.v.length:=by omega
  obtain⟨x,hx⟩:∃x,l.v[q]?=some x:=⟨_,wO hlt⟩
  have ia:=hia q x hx;have hxv:encV x=.agg [wt x.i,wt x.p]:=rfl;rw[hxv]at ia;have hw2:=aM q (by omega);obtain⟨r1,r2,r3,r4⟩:=hvl.rng q x hx;have hw3:IntKind.wrap .i64 (-1-x.i)=-1-x.i:=br _ (by omega) (by omega);have m1:¬(h.z=nx):=by omega
  have m2:¬(nx=nx+1):=by omega
  have m3:¬(nx+1=nx):=by omega
  have m4:¬(nx1=nx):=by omega
  have m5:¬(nx1=nx+1):=by omega
  have fin:∀(pa:AV) (p:LL) tm' lo' ob' nx' (z8:AV),z8=.ptr nx1 0 0->Lv pa p->p.v.length<=9->nx+2<=nx'->h.z<=lo'->ob'.get (nx+1)=some (.box pa.cells)->(∀k,k<nx->ob'.get k=ob2.get k)->
    nth tm' 1=V->nth tm' 2=.bool false->nth tm' 3=.ptr h.z 0 0->nth tm' 6=.ptr (h.z+1) 0 0->nth tm' 7=wt 0->nth tm' 8=.ptr nx1 0 0->nth tm' 9=wt (q:Int)->nth tm' 12=.ptr (nx+1) 0 0->
    sR (cK K (m0+2)) 30000 (okV (dH z8 ⟨nx',lo',ob'⟩ true 2) ⟨nx',lo',ob'⟩) (some 65) [⟨some 66,.load true 2 (.t 12),none⟩,⟨some 67,.call (.c (.fn 202 [] [])) [.t 65,.t 66],none⟩,⟨none,.store 2 (.t 8) (.t 67),none⟩] [.out 1,.code (.region [⟨some 23,.mv (.t 9),none⟩,⟨some 24,.bin .add .num (.t 23) (.c (wt 1)),none⟩,⟨some 9,.mv (.t 24),none⟩])] (LQ (cK K (m0+2)) 30000 (acf l vals V W nx1 h) j [.out 0,.code wE] (HQ h MG (Gx (fun v=>∃r,tQ r v) h))) tm' ⟨[],.no,none,201⟩ ⟨nx',lo',ob'⟩:=by
   intro pa p tm' lo' ob' nx' z8 hz8 hp hpl hnx hlo hpo hk u1 u2 u3 u6 u7 u8 u9 u12;obtain⟨v,nx2,w1,w2,w3⟩:=c202 hK (m0+1) out p a pa ⟨nx',lo',ob'⟩ lv hp (by omega) (by omega);have w1:nx'<=nx2:=w1;obtain⟨A1,ea,_,_,_,_,_,_⟩:=lv.ex;obtain⟨A2,ep,_,_,_,_,_,_⟩:=hp.ex;obtain⟨A3,ev,_,ev1,ev2,_,_,_⟩:=w3.ex;have hpo':ob'.get nx1=some (.box [wt out.c,A1]):=by rw[hk _ lo,g8,ea];rfl
   have hpo:ob'.get (nx+1)=some (.box [wt p.c,A2]):=by rw[hpo,ep];rfl
   have w2:cK K (m0+2) (.fn 202 [] []) [.agg [wt out.c,A1],.agg [wt p.c,A2]] .no ⟨nx',lo',ob'⟩=some (.ret (.agg [wt (gq out p).c,A3]),.no,⟨nx2,lo',ob'⟩):=by rw[<-ea,<-ep,<-ev];exact w2
   subst hz8;simp only[go_sem,simprocAttr,u8,u12,hpo',hpo,w2,u9,hw2];refine⟨j-1,by omega,_,q+1,gq out p,.agg [wt (gq out p).c,A3],by omega,rfl,⟨?_,?_,?_,by rw[<-ev];exact w3,lk,by show nx1<nx2;omega,(by(repeat' (first|assumption|exact Fv _|apply bo))<;>omega),fun k hk'=>?_⟩,?_,by and_intros<;>simp only[go_sem,simprocAttr,u1,u2,u3,u6,u7,u8]⟩
   ·rw[cp,Tr.cA _ _ (by omega),hk _ (by omega)];exact g3
   ·rw[cp,Tr.cA _ _ (by omega),hk _ (by omega)];exact g6
   ·rw[cp,Tr.cB];rfl
   ·rw[cp,Tr.cA _ _ (by omega),hk _ (by omega)];exact keep k hk'
   ·have:=hT out.v p.v;show(bK out.v p.v).length<=_;omega
  obtain⟨ob3,hob3⟩:∃ob3,ob3=(((ob2.put nx (.box [wt 0,wt 0])).put nx (.box [wt x.i,wt x.p])).put (nx+1) (.box [wt 0,.nl])).put (nx+1) (.box [wt 0,.clip [.agg [wt x.i,wt x.p]]]):=⟨_,rfl⟩
  have k3:∀k,k<nx->ob3.get k=ob2.get k:=fun k hk=>by rw[hob3,Tr.cA _ _ (by omega),Tr.cA _ _ (by omega),Tr.cA _ _ (by omega),Tr.cA _ _ (by omega)]
  have k3x:ob3.get nx=some (.box [wt x.i,wt x.p]):=by rw[hob3,Tr.cA _ _ (by omega),Tr.cA _ _ (by omega),Tr.cB]
  have k3p:ob3.get (nx+1)=some (.box [wt 0,.clip [.agg [wt x.i,wt x.p]]]):=by rw[hob3,Tr.cB]
  have b1:mR (.bool false) .eql .boolK (.bool false)=some (.bool true):=rfl;have b2:mR (.bool true) .eql .boolK (.bool false)=some (.bool false):=rfl;by_cases hneg:¬x.i<0
  ·have d1:decide (x.i<0)=false:=HD hneg;by_cases hin:x.i<(vals.length:Int)
   ·have d2:decide (x.i<(vals.length:Int))=true:=HE hin;obtain⟨i,hi⟩:∃i:Nat,x.i=(i:Int):=⟨(x.i).toNat,by omega⟩
    have hil:i<vals.length:=by omega
    have hgi:vals[i]?=some vals[i]:=wO hil;obtain⟨p2,a2,hla,hp2⟩:=hV.get i _ hgi;have hkk:∀lo',∀k,k<h.z->AH.get ⟨nx+1+1+1,lo',ob3.put (nx+1+1) (.box [wt 0,.nl])⟩ k=h.get k:=fun lo' k hk=>by
     rw[cp,Tr.cA _ _ (by omega),k3 k (by omega)];exact keep k hk
    have hc1:=fun lo'=>(hp2 ⟨nx+1+1+1,lo',ob3.put (nx+1+1) (.box [wt 0,.nl])⟩ (hkk lo')).1
    have hc2:=fun lo'=>(hp2 ⟨nx+1+1+1,lo',ob3.put (nx+1+1) (.box [wt 0,.nl])⟩ (hkk lo')).2
    rw[<-hi]at hc1;obtain⟨v9,nx9,w1,w2,a9,rfl,w3⟩:=c243 hK hv (m0+1) vals[i] x.p a2 ⟨nx+1+1+1,gz (nx+1) (gz nx l0),ob3.put (nx+1+1) (.box [wt 0,.nl])⟩ hla (hvs _ (List.getElem_mem hil)) (by have:=h3 _ (List.getElem_mem hil);omega) r3 r4;have w1:nx+1+1+1<=nx9:=w1;obtain⟨A9,e9,_,e9c,e9l,_,_,_⟩:=w3.ex;have m6:¬(nx=nx+1+1):=by omega
    have m7:¬(nx+1=nx+1+1):=by omega
    have m8:¬(nx+1+1=nx+1):=by omega
    have m9:¬(h.z+1=nx+1+1):=by omega
    rw[e9]at w2;simp only[go_sem,simprocAttr,qD,t3,g3,t9,ia,qE,qF,t2,qG,ca];rw[<-hob3];simp only[go_sem,simprocAttr,qH,k3x,t2,d1,b1,t1,lav,d2,hc1,hc2,m6,w2];rcases plusR_err vals[i] x.p with herr|herr
    ·have hz:decide ((eu vals[i] x.p).2=0)=true:=HE herr;simp only[go_sem,simprocAttr,hz,k3p,m7];refine fin a9 (eu vals[i] x.p).1 _ _ _ _ _ t8 w3 ?_ (by omega) (by(repeat' (first|assumption|exact Fv _|apply bo))<;>omega) ?_ ?_ (by simp only[go_sem,simprocAttr,t1]) (by simp only[go_sem,simprocAttr,t2]) (by simp only[go_sem,simprocAttr,t3]) (by simp only[go_sem,simprocAttr,t6]) (by simp only[go_sem,simprocAttr,t7]) (by simp only[go_sem,simprocAttr,t8]) (by simp only[go_sem,simprocAttr,t9]) (by simp only[go_sem,simprocAttr])
     ·have:=sn vals[i] x.p;have:=h3 _ (List.getElem_mem hil);omega
     ·rw[Tr.cB,e9];rfl
     ·intro k hk;rw[Tr.cA _ _ (by omega),Tr.cA _ _ (by omega),Tr.cA _ _ (by omega)];exact k3 k hk
    ·have hz:decide ((eu vals[i] x.p).2=0)=false:=HD (by omega);have g6':ob3.get (h.z+1)=some (.box [wt 0,.nl]):=(k3 _ (by omega)).trans g6;simp only[go_sem,simprocAttr,hz,t6,m9,g6'];refine ez (.inr rfl) (by(repeat' (first|assumption|exact Fv _|apply bo))<;>omega) (by show h.z<=nx9;omega) (by simp only[go_sem,simprocAttr,MG,t6];rfl) ⟨(⟨0,[]⟩,(eu vals[i] x.p).2),.agg [wt 0,.nl],?_,?_⟩
     ·rw[jW,cZ];simp only[List.map_cons,List.map_nil,cw,bY,fH]
     ·exact iR 0
   ·have d2:decide (x.i<(vals.length:Int))=false:=HD hin;simp only[go_sem,simprocAttr,qD,t3,g3,t9,ia,qE,qF,t2,qG,ca];rw[<-hob3];simp only[go_sem,simprocAttr,qH,k3x,t2,d1,b1,t1,lav,d2];exact fin (.agg [wt 0,.clip [.agg [wt x.i,wt x.p]]]) ⟨0,[x]⟩ _ _ _ _ _ t8 (rB 0 x) (by simp) (by omega) (by(repeat' (first|assumption|exact Fv _|apply bo))<;>omega) k3p k3 (by simp only[go_sem,simprocAttr,t1]) (by simp only[go_sem,simprocAttr,t2]) (by simp only[go_sem,simprocAttr,t3]) (by simp only[go_sem,simprocAttr,t6]) (by simp only[go_sem,simprocAttr,t7]) (by simp only[go_sem,simprocAttr,t8]) (by simp only[go_sem,simprocAttr,t9]) (by simp only[go_sem,simprocAttr])
  ·have d1:decide (x.i<0)=true:=HE (by omega);simp only[go_sem,simprocAttr,qD,t3,g3,t9,ia,qE,qF,t2,qG,ca];rw[<-hob3];simp only[go_sem,simprocAttr,qH,k3x,t2,d1,b2];exact fin (.agg [wt 0,.clip [.agg [wt x.i,wt x.p]]]) ⟨0,[x]⟩ _ _ _ _ _ t8 (rB 0 x) (by simp) (by omega) (by(repeat' (first|assumption|exact Fv _|apply bo))<;>omega) k3p k3 (by simp only[go_sem,simprocAttr,t1]) (by simp only[go_sem,simprocAttr,t2]) (by simp only[go_sem,simprocAttr,t3]) (by simp only[go_sem,simprocAttr,t6]) (by simp only[go_sem,simprocAttr,t7]) (by simp only[go_sem,simprocAttr,t8]) (by simp only[go_sem,simprocAttr,t9]) (by simp only[go_sem,simprocAttr])
 ·have hme:q=l.v.length:=by omega
  subst hme;obtain⟨A1,ea,_,ea1,ea2,ea3,_,_⟩:=lv.ex;have g8:ob2.get nx1=some (.box [wt out.c,A1]):=by rw[g8,ea];rfl
  simp only[go_sem,simprocAttr,wE,t8,g8,t6,g6];refine ez (.inr rfl) (by(repeat' (first|assumption|exact Fv _|apply bo))<;>omega) (by show h.z<=nx;omega) (by simp only[go_sem,simprocAttr,MG,t6];rfl) ?_;refine⟨(out,0),?_⟩;rw[jW,cZ];simp only[List.map_cons,List.map_nil,cw,bY,ea3];exact⟨_,rfl,by rw[<-ea];exact lv⟩
theorem c204x {K:aG}(h204:∀c a rc h,K (.fn 204 [] c) a rc h=none)(hv:KV K)(m:Nat)(a:AV)(l:LL)(h:AH)(ha:Lv a l)(h1:l.v.length<=100)(hvl:VL l):
  ∃(e:Int) (nx:Nat),h.z<=nx/\cK K (m+1) (.fn 204 [] []) [a] .no h=some (.ret (wt e),.no,⟨nx,h.low,h.objs⟩):=by
 have e0:cK K (m+1) (.fn 204 [] []) [a] .no h=dZ EF (cK K m) 30000 204 ([a]++[]) .no h:=zt (h204 [] _ .no h);rw[e0];have key:∃v h',dZ EF (cK K m) 30000 204 [a] .no h=some (.ret v,.no,h')/\Gx (fun v=>∃e,v=wt e) h v h':=by
  have e21:=fun h=>dQ (hv.r21 a l h ha (by omega)) m
  rw[yZ hvl]at e21;obtain⟨W,rfl,hn,hc,hli,hfz,hr,hia⟩:=ha.ex;have la:=(hr 0 h).len;refine eU cf204 (fg _) ?_;unfold b204;by_cases hz:l.v.length=0
  ·have d0:decide ((l.v.length:Int)=0)=true:=HE (by omega);simp only[go_sem,simprocAttr,FM,e21,la,d0];exact ez (.inr rfl) (by(repeat' (first|assumption|exact Fv _|apply bo))<;>omega) (by show h.z<=h.z+1;omega) (by simp only[go_sem,simprocAttr,aex];rfl) ⟨0,by rw[gP,bY]⟩
  ·have d0:decide ((l.v.length:Int)=0)=false:=HD (by omega);obtain⟨q,hq⟩:∃q:Nat,l.v.length=q+1:=⟨l.v.length-1,by omega⟩
   obtain⟨x,hx⟩:∃x,l.v[q]?=some x:=⟨_,wO (by omega)⟩
   have ia:=hia q x hx;have hxv:encV x=.agg [wt x.i,wt x.p]:=rfl;rw[hxv]at ia;have hw:IntKind.wrap .i64 ((l.v.length:Int)-1)=(q:Int):=by rw[br _ (by omega) (by omega)];omega
   simp only[go_sem,simprocAttr,FM,e21,la,d0,QD,hw,ia];exact ez (.inr rfl) (by(repeat' (first|assumption|exact Fv _|apply bo))<;>omega) (by show h.z<=h.z+1;omega) (by simp only[go_sem,simprocAttr,aex];rfl) ⟨_,by rw[gP,bY]⟩
 obtain⟨v,h',e,g⟩:=key;obtain⟨nx,g1,rfl⟩:=iH g;obtain⟨⟨e',rfl⟩,_⟩:=g;exact⟨e',nx,g1,e⟩
theorem c151x {K:aG}(hK:jR K)(h204:∀c a rc h,K (.fn 204 [] c) a rc h=none)(h151:∀c a rc h,K (.fn 151 [] c) a rc h=none)(hv:KV K)(m:Nat)(a:AV)(l:LL)(V:AV)(vals:List LL)(h:AH)(ha:Lv a l)(hV:RdL h.z h V vals)(h1:l.v.length<=20)(h2:vals.length<30000)(h3:∀y∈vals,y.v.length<=9)(hvl:VL l)(hvs:∀y∈vals,VL y):
  ∃v nx,h.z<=nx/\cK K (m+4) (.fn 151 [] []) [a,V] .no h=some (.ret v,.no,⟨nx,h.low,h.objs⟩)/\∃r,tQ r v:=by
 have e0:cK K (m+4) (.fn 151 [] []) [a,V] .no h=dZ EF (cK K (m+3)) 30000 151 ([a,V]++[]) .no h:=zt (h151 [] _ .no h);rw[e0];have key:∃v h',dZ EF (cK K (m+3)) 30000 151 [a,V] .no h=some (.ret v,.no,h')/\Gx (fun v=>∃r,tQ r v) h v h':=by
  have e21:=fun h=>dQ (hv.r21 a l h ha (by omega)) (m+3)
  rw[yZ hvl]at e21;have ha':=ha;have hlav:=hV.len;obtain⟨W,rfl,hn,hc,hli,hfz,hr,hia⟩:=ha.ex;refine eU cf151 (fg _) ?_;have n1:¬(h.z=h.z+1):=by omega
  have n2:¬(h.z+1=h.z):=by omega
  unfold b151;simp only[go_sem,simprocAttr,RI,n1,e21];obtain⟨ob,hob⟩:∃ob,ob=(h.objs.put h.z (.box [wt l.c,W])).put (h.z+1) (.box [wt 0,.nl]):=⟨_,rfl⟩
  rw[<-hob];have G1:ob.get h.z=some (.box [wt l.c,W]):=by simp only[hob,go_sem,simprocAttr,n1]
  have G2:ob.get (h.z+1)=some (.box [wt 0,.nl]):=by simp only[hob,go_sem,simprocAttr]
  have G3:∀k,k<h.z->ob.get k=h.objs.get k:=fun k hk=>by rw[hob,Tr.cA _ _ (by omega),Tr.cA _ _ (by omega)]
  obtain⟨nx1,g1,e200⟩:=c200 hK hv (m+2) V vals ⟨h.z+1+1,h.z,ob⟩ (hV.mono (by show h.z<=h.z+1+1;omega) G3) h2 (fun x hx=>⟨hvs x hx,by have:=h3 x hx;omega⟩);have g1:h.z+1+1<=nx1:=g1;obtain⟨e4,nx2,g2,e204⟩:=c204x h204 hv (m+2) (.agg [wt l.c,W]) l ⟨nx1,h.z,ob⟩ ha' (by omega) hvl;have g2:nx1<=nx2:=g2;obtain⟨v,h',e201,g⟩:=OT hK hv m (.agg [wt l.c,W]) l V vals ⟨nx2,h.z,ob⟩ ha' (hV.mono (by show h.z<=nx2;omega) G3) h1 h2 h3 hvl hvs;obtain⟨nx3,g3,rfl⟩:=iH g;have g3:nx2<=nx3:=g3;obtain⟨⟨r,a2,rfl,hla⟩,_⟩:=g;obtain⟨A2,ea,_,ea1,ea2,ea3,_,_⟩:=hla.ex;have e201:cK K (m+3) (.fn 201 [] []) [.agg [wt l.c,W],V,.bool false] .no ⟨nx2,h.z,ob⟩=some (.ret (.tup [.agg [wt r.1.c,A2],wt r.2]),.no,⟨nx3,h.z,ob⟩):=by
   rw[eV hK _ 201,<-ea];exact e201
  by_cases hgt:(vals.length:Int)<e4
  ·have d0:=HE hgt;simp only[go_sem,simprocAttr,e200,Gr,G1,e204,hlav,d0,G2];refine ez (.inr rfl) (by(repeat' (first|assumption|exact Fv _|apply bo))<;>omega) (by show h.z<=nx2;omega) (by simp only[go_sem,simprocAttr,r151];rfl) ⟨(⟨0,[]⟩,24),.agg [wt 0,.nl],?_,iR 0⟩;rw[jW,cZ];simp only[List.map_cons,List.map_nil,cw,bY,fH]
  ·have d0:=HD hgt;simp only[go_sem,simprocAttr,e200,Gr,G1,e204,hlav,d0,RJ,e201,G2];refine ez (.inr rfl) (by(repeat' (first|assumption|exact Fv _|apply bo))<;>omega) (by show h.z<=nx3;omega) (by simp only[go_sem,simprocAttr,r151];rfl) ⟨r,?_⟩;rw[jW,cZ];simp only[List.map_cons,List.map_nil,cw,bY,ea3];exact⟨_,rfl,by rw[<-ea];exact hla⟩
 obtain⟨v,h',e,g⟩:=key;obtain⟨nx,g1,rfl⟩:=iH g;exact⟨v,nx,g1,e,g.1⟩
end Go.Proofs.YtnacljdablhbgaaGreat
namespace Go.Proofs.YtnacljdablhbgaaGreat.Q87
open Go.AG
theorem run128 (call:aG)(n:Nat)(kind kid:Int):R call n [.code ae2] (FQ r128 (.ret (wt (aV kind kid)))) .normal ⟨bn [wt kind,wt kid],⟨[],.no,none,128⟩⟩ bg:=by
 unfold ae2 r128 bg
 repeat' (first|simp only[go_sem,simprocAttr, *,RZ,Sa]|refine bV (fun _=>?_) fun _=>?_|refine cO (fun _=>?_) fun _=>?_|refine bP (fun _=>?_) fun _=>?_|refine bX (fun _=>?_) fun _=>?_|refine bZ (fun _=>?_) fun _=>?_)
 all_goals (simp_all [aV])
theorem su {base sz:Nat}{agg:Bool}{h:AH}{v:AV}{out:List AV}(o:Own base sz agg h v out):v.cells=[v]/\v.lies=true:=by
 obtain⟨_,⟨rfl,rfl⟩|⟨k,g,rfl,hk,hlt,hbk⟩⟩:=o<;>exact⟨rfl,rfl⟩
def Fq (h:AH)(x:AV)(l:LL):Prop:=∃y,x=.agg [wt l.c,y]/\Own 3 2 true h y (l.v.map encV)
theorem Oz (m:Nat)(h:AH)(b:Nat)(x:LV):frz m h b (encV x)=encV x:=by
 cases m with
 |zero=>rfl
 |succ m=>rw[encV,cw];simp[bY]
structure J87 (k i:Int)(nm:ByteArray)(ls:List LL)(ks:List T)(h:AH)(m:Nat)(v:AV)(out:List AV):Prop where
 b0:h.get 0=some (.box [wt k,wt i,.str nm,.ls (ls.map aK),.ls (ks.map enc)])
 b1:h.get 1=some (.box [wt 0,wt 0,.str (bs []),.nl,.nl])
 b2:h.get 2=some (.box [wt k,wt i,.str nm,v,.nl])
 nx:3<=h.z
 own:Own 3 2 true h v out
 len:out.length=m
 inn:∀(a:Nat) x l,out[a]?=some x->ls[a]?=some l->Fq h x l
 ne:∀(a:Nat) c kk g n,out[a]?=some (.agg [c,.row kk g 2 0 n])->kk<h.z/\∀g' n',v≠.row kk g' 2 0 n'
def I87 (k i:Int)(nm:ByteArray)(ls:List LL)(ks:List T)(j:Nat)(fr:AF)(h:AH):Prop:=∃tm m v out,m+j=ls.length/\fr=⟨tm,⟨[],.no,none,87⟩⟩/\
 nth tm 2=.ptr 1 0 0/\nth tm 3=.ptr 2 0 0/\nth tm 14=.ls (ls.map aK)/\nth tm 15=wt (ls.length:Int)/\nth tm 16=wt (m:Int)/\J87 k i nm ls ks h m v out
theorem BN (h:AH)(l:List LV)(hl:l.length<=20)(hb:3<=h.z):
  ∃y h',dO h 2 true [wt 0,wt 0] 16 .nl (.ls (l.map encV))=some (y,h')/\Own 3 2 true h' y (l.map encV)/\h.z<=h'.z/\(∀k,k<h.z->h'.get k=h.get k)/\(∀kk g n,y=.row kk g 2 0 n->h.z<=kk/\kk<h'.z):=by
 have e0:dO h 2 true [wt 0,wt 0] 16 .nl (.ls (l.map encV))=List.casesOn (l.map encV) (mX .nl h) fun y ys=>kQ .nl h 2 true 16 (y::ys):=by
  show aq (cond (fl 2 (l.map encV)) (some (l.map encV)) none) _=_;rw[om ct,cond_true,aF];rw[mK (fun _=>rfl)];rfl
 have hall:∀x∈l.map encV,x.cells.length=2/\x.isAgg=true:=by
  intro x hx;obtain⟨z,_,rfl⟩:=List.mem_map.1 hx;exact⟨rfl,rfl⟩
 rw[e0];cases l with
 |nil=>exact⟨.nl,h,rfl,⟨by simp,.inl ⟨rfl,rfl⟩⟩,Fv _,fun _ _=>rfl,fun _ _ _ e=>by cases e⟩
 |cons a l=>
  obtain⟨q,hq⟩:∃q,q=len (encV a::l.map encV):=⟨_,rfl⟩
  have hq':q=l.length+1:=by rw[hq,bH,List.length_cons,waa]
  have hn:need 0 q 16=true:=by
   show and (Nat.ble ((2*(0+q)+1000)*16) 140737488355328) (Nat.ble (0+q) 9223372036854775807)=true;simp only[List.length_cons]at hl;have h1:(2*(0+q)+1000)*16<=140737488355328:=by omega
   have h2:0+q<=9223372036854775807:=by omega
   rw[gj h1,gj h2];rfl
  refine⟨.row h.z 0 2 0 q,h.new (.row 0 2 true (flat (encV a::l.map encV)) 0),?_,⟨hall,.inr ⟨h.z,0,?_,?_,?_,hb⟩⟩,?_,fun k hk=>?_,fun kk g n e=>?_⟩
  ·show cond (need 0 (len (encV a::l.map encV)) 16) (some (AV.row h.z 0 2 0 (len (encV a::l.map encV)),h.new (.row 0 2 true (flat (encV a::l.map encV)) 0))) none=_;rw[<-hq,hn];rfl
  ·rw[hq'];simp
  ·rw[get_new,wae rfl];rfl
  ·rw[ci];omega
  ·rw[ci];omega
  ·rw[get_new,wad (by omega)]
  ·cases e;rw[ci];omega
theorem frzL (m:Nat)(h:AH)(x:AV)(l:LL)(hi:Fq h x l):(frz (m+2) h 0 x).norm=aK l:=by
 obtain⟨y,rfl,ho⟩:=hi;rw[cw];have hf:(frz (m+1) h 0 y).norm=.ls (AV.ip (l.v.map encV)):=WO ho (fun h=>by cases h) (fun x hx=>by obtain⟨z,_,rfl⟩:=List.mem_map.1 hx;exact Oz _ _ _ _);simp only[List.map_cons,List.map_nil,bY,Cv,pe,sy,Cu,hf,mE];rfl
theorem Cm {base sz m:Nat}{agg:Bool}{h:AH}{v:AV}{out:List AV}(o:Own base sz agg h v out)(hs:agg=false->sz=1):(frz (m+1) h 0 v).norm=.ls (AV.ip (out.map (frz m h 0))):=by
 obtain⟨o1,⟨rfl,rfl⟩|⟨k,g,rfl,hk,hlt,hbk⟩⟩:=o
 ·show AV.nl.norm=_;simp[AV.norm,AV.ip]
 ·have e:frz (m+1) h 0 (.row k g sz 0 out.length)=.ls (out.map (frz m h 0)):=by
   show jh h (.row k g sz 0 out.length) k g sz 0 out.length (frz m h 0)=_;unfold jh;rw[hk,aF];show cond (and (Nat.beq g g) (Nat.beq sz sz)) (@Option.casesOn (List AV) (fun _=>AV) (chunk agg sz out.length (drp (0*sz) (flat out))) (AV.row k g sz 0 out.length) fun es=>AV.ls (we (frz m h 0) es)) (AV.row k g sz 0 out.length)=_;rw[fN,fN];simp only[Nat.zero_mul,fM,List.drop_zero,kA hs o1,Bool.and_self,cond_true];rw[rN]
  rw[e];simp[AV.norm]
theorem Yx (h:AH)(a b c d e:AV)(x y:Int)(s:ByteArray):cP h [a,b,c,d,e] [(0,1,wt x),(1,1,wt y),(2,1,.str s)]=.val (.agg [wt x,wt y,.str s,d,e]) h:=(rfl)
theorem Yw (h:AH)(a b y:AV)(x:Int)(hy:y=.nl∨∃k g n,y=.row k g 2 0 n):cP h [a,b] [(0,1,wt x),(1,1,y)]=.val (.agg [wt x,y]) h:=by
 rcases hy with rfl|⟨k,g,n,rfl⟩<;>rfl
theorem uy {h h':AH}{x:AV}{l:LL}(hi:Fq h x l)(hn:h.z<=h'.z)(hk:∀kk g n,x=.agg [wt l.c,.row kk g 2 0 n]->h'.get kk=h.get kk):Fq h' x l:=by
 obtain⟨y,rfl,o1,o2⟩:=hi;refine⟨y,rfl,o1,?_⟩;rcases o2 with⟨rfl,ho⟩|⟨k,g,rfl,q1,q2,q3⟩
 ·exact .inl ⟨rfl,ho⟩
 ·exact .inr ⟨k,g,rfl,by rw[hk k g _ rfl];exact q1,by omega,q3⟩
theorem run87 (call:aG)(n:Nat)(k i:Int)(nm:ByteArray)(ls:List LL)(ks:List T)(hn:ls.length<n)(hl:ls.length<=20)(hv:∀x∈ls,x.v.length<=20):
  R call n [.code b87] (FQ r87 (.ret (enc (.mk k i nm ls [])))) .normal ⟨bn [enc (.mk k i nm ls ks)],⟨[],.no,none,87⟩⟩ bg:=by
 rw[ei k i nm ls ks];unfold b87 bg;simp only[go_sem,simprocAttr,UH,Yx,UI];refine bD (I87 k i nm ls ks) ls.length hn ⟨_,0,.nl,[],wac _,rfl,by simp only[go_sem,simprocAttr],by simp only[go_sem,simprocAttr],by simp only[go_sem,simprocAttr],by simp only[go_sem,simprocAttr],by simp only[go_sem,simprocAttr],⟨by simp only[go_sem,simprocAttr],by simp only[go_sem,simprocAttr],by simp only[go_sem,simprocAttr],Fv _,fD _ _ _ _,rfl,by simp,by simp⟩⟩ ?_;rintro j fr h ⟨tm,m,v,out,hm,rfl,t2,t3,t14,t15,t16,J⟩;obtain⟨b0,b1,b2,nx,ho,hlen,hinn,hne⟩:=J;unfold VT;simp only[go_sem,simprocAttr,UK,t15,t16];refine bj (fun hlt=>?_) (fun hge=>?_)
 ·have hlt:m<ls.length:=by omega
  have hget:ls[m]?=some ls[m]:=wO hlt;have ha:=fun h=>aN dj hget .i64 h
  have hel:aK ls[m]=.agg [wt ls[m].c,.ls (ls[m].v.map encV)]:=rfl;have hw2:=aM m (by omega);simp only[go_sem,simprocAttr,UL,t14,t16,ha,hel];obtain⟨h1,hh1⟩:∃h1,h1=(h.new (.box [wt 0,.nl])).set h.z (.box [wt ls[m].c,.ls (ls[m].v.map encV)]):=⟨_,rfl⟩
  rw[<-hh1];have k1:∀a,a<h.z->h1.get a=h.get a:=fun a q=>by rw[hh1,an (by omega),aJ (by omega)]
  have k2:h1.get h.z=some (.box [wt ls[m].c,.ls (ls[m].v.map encV)]):=by rw[hh1,aC]
  have n1:h1.z=h.z+1:=by rw[hh1,co,ci]
  clear hh1;obtain⟨y,h2,e2,o2,n2,q2,r2⟩:=BN h1 ls[m].v (hv _ (List.getElem_mem hlt)) (by omega);obtain⟨y1,y2⟩:=su o2;have ho2:Own 3 2 true h2 v out:=bp ho (by omega) (fun a q1 q2'=>by rw[q2 a (by omega),k1 a q2']);obtain⟨v3,h3,e3,o3,n3,k3,_,_,s3,kk,gg,hv3,u1,u2⟩:=cV (x:=.agg [wt ls[m].c,y]) (z:=[wt 0,.nl]) (bytes:=32) ho2 (by omega) rfl rfl rfl rfl (by omega) (by decide);obtain⟨v1,v2⟩:=su o3;have c2:h1.get 2=some (.box [wt k,wt i,.str nm,v,.nl]):=by rw[k1 2 (by omega)];exact b2
  have d2:h2.get 2=some (.box [wt k,wt i,.str nm,v,.nl]):=by rw[q2 2 (by omega)];exact c2
  have d3:h2.get h.z=some (.box [wt ls[m].c,.ls (ls[m].v.map encV)]):=by rw[q2 _ (by omega)];exact k2
  have f2:h3.get 2=some (.box [wt k,wt i,.str nm,v,.nl]):=by rw[k3 2 (by decide)];exact d2
  have hys:y=.nl∨∃k g n,y=.row k g 2 0 n:=by
   obtain⟨_,⟨rfl,_⟩|⟨k,g,rfl,_⟩⟩:=o2
   ·exact .inl rfl
   ·exact .inr ⟨_,_,_,rfl⟩
  have hb:=Yw h2 (wt 0) .nl y ls[m].c hys;have hvb:AV.beq v v=true:=by
   obtain⟨_,⟨rfl,_⟩|⟨k,g,rfl,_⟩⟩:=ho
   ·rfl
   ·exact jF _ _ _ _ _
  simp only[go_sem,simprocAttr,t3,c2,k2,e2,hb,e3,f2,v1,v2,d2,d3,hvb,hw2,t16];have vlt:∀kk' g n',v=.row kk' g 2 0 n'->kk'<h.z:=by
   intro kk' g n' e;obtain⟨_,⟨rfl,_⟩|⟨k,g,rfl,_,q,_⟩⟩:=ho
   ·cases e
   ·cases e;exact q
  have g4:∀a,3<=a->a<h2.z->(∀g n',v≠.row a g 2 0 n')->(h3.set 2 (.box [wt k,wt i,.str nm,v3,.nl])).get a=h2.get a:=fun a q1 q3 q4=>by rw[an (by omega),s3 a q3 q4]
  have v3ne:∀a,a<h2.z->(∀g n',v≠.row a g 2 0 n')->∀g' n',v3≠.row a g' 2 0 n':=by
   intro a q1 q3 g' n' e;rw[hv3]at e;cases e;obtain⟨_,⟨rfl,_⟩|⟨k',g,rfl,_⟩⟩:=ho
   ·have:=u1 rfl;omega
   ·have:=u2 _ _ _ rfl;exact q3 g _ (by rw[this])
  refine⟨j-1,by omega,_,m+1,v3,out++[.agg [wt ls[m].c,y]],by omega,rfl,by simp only[go_sem,simprocAttr, *],by simp only[go_sem,simprocAttr, *],by simp only[go_sem,simprocAttr, *],by simp only[go_sem,simprocAttr, *],by simp only[go_sem,simprocAttr, *],⟨?_,?_,aC _ _ _,by rw[co];omega,bp o3 (by rw[co];exact Fv _) (fun a q1 _=>an (by omega)),by simp[hlen],fun a x l hx hl'=>?_,fun a c kk' g n' hx=>?_⟩⟩
  ·rw[an (by decide),k3 0 (by decide),q2 0 (by omega),k1 0 (by omega)];exact b0
  ·rw[an (by decide),k3 1 (by decide),q2 1 (by omega),k1 1 (by omega)];exact b1
  ·rcases Nat.lt_or_ge a out.length with q|q
   ·rw[List.getElem?_append_left q]at hx;refine uy (hinn a x l hx hl') (by rw[co];omega) (fun kk' g n' e=>?_);subst e;obtain⟨p1,p2⟩:=hne a _ kk' g n' hx;obtain⟨y',ey,_,⟨rfl,_⟩|⟨k'',g'',rfl,_,_,p3⟩⟩:=hinn a _ l hx hl'
    ·cases ey
    ·cases ey;rw[g4 kk' p3 (by omega) p2,q2 _ (by omega),k1 _ p1]
   ·rw[List.getElem?_append_right q]at hx;have h0:a-out.length=0:=by
     rcases Nat.eq_zero_or_pos (a-out.length) with h|h
     ·exact h
     ·rw[List.getElem?_eq_none (by simp;omega)]at hx;cases hx
    rw[h0]at hx;simp at hx;subst hx;have:a=m:=by omega
    subst this;rw[hget]at hl';cases hl';refine⟨y,rfl,o2.1,?_⟩;rcases o2.2 with⟨rfl,ho⟩|⟨k'',g'',rfl,w1,w2,w3⟩
    ·exact .inl ⟨rfl,ho⟩
    ·have w4:=r2 _ _ _ rfl;refine .inr ⟨k'',g'',rfl,?_,by rw[co];omega,w3⟩;rw[g4 k'' w3 w2 (fun g n' e=>by have:=vlt _ _ _ e;omega)];exact w1
  ·rcases Nat.lt_or_ge a out.length with q|q
   ·rw[List.getElem?_append_left q]at hx;obtain⟨p1,p2⟩:=hne a c kk' g n' hx;exact⟨by rw[co];omega,v3ne kk' (by omega) p2⟩
   ·rw[List.getElem?_append_right q]at hx;have h0:a-out.length=0:=by
     rcases Nat.eq_zero_or_pos (a-out.length) with h|h
     ·exact h
     ·rw[List.getElem?_eq_none (by simp;omega)]at hx;cases hx
    rw[h0]at hx;simp at hx;have w4:=r2 kk' g n' hx.2;exact⟨by rw[co];omega,v3ne kk' (by omega) (fun g n' e=>by have:=vlt _ _ _ e;omega)⟩
 ·have:m=ls.length:=by omega
  subst this;obtain⟨v1,v2⟩:=su ho;simp only[go_sem,simprocAttr,UJ,t2,t3,b1,b2,r87];have hf:=Cm (m:=2) ho (fun h=>by cases h);obtain⟨h4,hh4⟩:∃h4,h4=h.set 1 (.box [wt k,wt i,.str nm,v,.nl]):=⟨_,rfl⟩
  have o4:Own 3 2 true h4 v out:=bp ho (by rw[hh4,co];exact Fv _) (fun a q1 _=>by rw[hh4];exact an (by omega));have i4:∀(a:Nat) x l,out[a]?=some x->ls[a]?=some l->Fq h4 x l:=fun a x l hx hl'=>uy (hinn a x l hx hl') (by rw[hh4,co];exact Fv _) (fun kk' g n' e=>by
   subst e;obtain⟨y',ey,_,⟨rfl,_⟩|⟨k'',g'',rfl,_,_,p3⟩⟩:=hinn a _ l hx hl'
   ·cases ey
   ·cases ey;rw[hh4];exact an (by omega))
  have hf:=Cm (m:=2) o4 (fun h=>by cases h);have hout:AV.ip (out.map (frz 2 h4 0))=ls.map aK:=by
   apply List.ext_getElem?;intro a;rw[lL,List.getElem?_map,List.getElem?_map,List.getElem?_map];rcases Nat.lt_or_ge a ls.length with q|q
   ·have e1:out[a]?=some (out[a]'(by omega)):=wO (by omega);have e2:ls[a]?=some ls[a]:=wO q;have:=frzL 0 h4 _ _ (i4 a _ _ e1 e2);rw[e1,e2];simp only[Option.map_some,this]
   ·rw[List.getElem?_eq_none (by omega),List.getElem?_eq_none (by omega)];rfl
  rw[hout]at hf;rw[<-hh4,ei,hf];simp
