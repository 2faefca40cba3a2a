/- MachineKeeps: guards: the numbers of a declaration (no condition). -/
import Derived.Test.YtocdlbblemjabaaGreatDoorBw
namespace Go.Proofs.YtocdlbblemjabaaGreatDoor
open Go.AG Go.AG.MK
section
variable {K:aQ}{h:AH}
def I1167 (d:DV)(b:Nat)(h0:AH)(j:Nat)(fr:AF)(h:AH):Prop:=∃ tm p c,p+j=d.ctors.length/\fr=⟨tm,⟨[],.no,none,167⟩⟩/\my d b h0 h/\nth tm 1=.ptr b 0 0/\nth tm 4=i_ (p:Int)/\nth tm 3=.bool c/\(c=true->d.fixed<=(leadN d.type:Int))
theorem c1167 (hK:aZ K)(m:Nat)(d:DV)(fd:FD d):
  ∃ v h',cS K (m+2) (.fn 167 [] []) [bW d] .no h=some (.ret v,.no,h')/\(∃ b,v=.bool b/\(b=true->d.fixed<=(leadN d.type:Int)))/\HK h h':=by
 refine bh hK ai4 (ae (mr d h) (aC _)) ?_;rw[cA];have hbx:=bN (h:=h) (aM d) 23 rfl;obtain⟨H,hH⟩:∃ H:AH,H=h.new (.box (aM d)):=⟨_,rfl⟩
 have q0:my d h.z h H:=⟨by rw[hH];exact HK.new _ _,by rw[hH,ala];omega,by rw[hH,aE]⟩;have ret:∀ (tm:Tm) (b:Bool) (H:AH),HK h H->nth tm 2=.bool b->(b=true->d.fixed<=(leadN d.type:Int))->IQ aao (fun v h2=>∃ v' h3,cG v h2=(v',h3)/\(∃ b,v'=.bool b/\(b=true->d.fixed<=(leadN d.type:Int)))/\HK h h3) .ret ⟨tm,⟨[],.no,none,167⟩⟩ H:=fun tm b H hk t4 hb=>
  ⟨rfl,rfl,.inr rfl,[.bool b],by simp only[go_sem,simprocAttr,aao,t4],.bool b,_,aS (by intro l e;cases e) (aW _ _),⟨_,rfl,hb⟩,hk⟩
 have g0:=q0.g;unfold aM at g0;obtain⟨v,H3,e3,rfl,k3⟩:=afD (h:=H) hK m d.type (by have:=fd.ty;omega);rw[aU]at e3;have q3:=q0.up k3;have g3:=q3.g;unfold aM at g3;unfold agf;simp only[go_sem,simprocAttr,hbx,<- hH];clear hH;simp only[go_sem,simprocAttr,Ju,g0,e3,g3,Jv];refine bB (I1167 d h.z h) d.ctors.length (by have:=fd.cl;omega) ⟨_,0,decide ((leadN d.type:Int)≥d.fixed),z_ _,rfl,q3,k_,k_,k_,fun q=>of_decide_eq_true q⟩ ?_;rintro j fr H2 ⟨tm,p,c,hp,rfl,q2,t1,t4,t3,hc⟩;have g2:=q2.g;unfold aM at g2;have cl:=fd.cl;unfold PA;simp only[go_sem,simprocAttr,t1,t4,g2,L_];refine aX (fun hlt=>?_) (fun hge=>?_)
 ·have hlt:p<d.ctors.length:=o_;have hget:d.ctors[p]?=some d.ctors[p]:=a_ hlt;have hcs:=(fd.ct _ (m_ hget)).2;revert hget hcs;generalize d.ctors[p]=ct;intro hget hcs;have ha:=fun h=>aK fN hget .i64 h
  have hf1:∀ h,cp (.vptr (hT ct)) h 1 5 true=.val (.vptr (.agg (aJ ct.type))) h:=fun h=>rfl
  have hlT:=kG ct.type;unfold aJ at hf1 hlT;have hw:=aP p o_;cases c with
  |false=>
   simp only[go_sem,simprocAttr,Ai,t3,t4,hw];exact⟨j-1,o_,_,p+1,false,o_,rfl,q2,q_ t1,k_,k_,by simp⟩
  |true=>
   obtain⟨v,H4,e4,rfl,k4⟩:=afD (h:=H2) hK m ct.type o_;rw[aU]at e4;have q4:=q2.up k4;have g4:=q4.g;unfold aM at g4;simp only[go_sem,simprocAttr,Ai,t1,t3,t4,g2,ha,hf1,hlT,e4,g4,hw];exact⟨j-1,o_,_,p+1,decide ((leadN ct.type:Int)≥d.fixed),o_,rfl,q4,q_ t1,k_,k_,fun _=>hc rfl⟩
 ·simp only[go_sem,simprocAttr,Jw,t3];exact ret _ c H2 q2.hk k_ hc
structure CN (d:DV):Prop where
 fx0:0<=d.fixed
 fx1:d.kind=3->d.fixed<=(leadN d.type:Int)
 fn:∀ f∈d.funs,1<=f.arity/\f.arity<=16
def I1132 (d:DV)(b:Nat)(h0:AH)(j:Nat)(fr:AF)(h:AH):Prop:=∃ tm p,p+j=d.funs.length/\fr=⟨tm,⟨[],.no,none,132⟩⟩/\my d b h0 h/\nth tm 1=.ptr b 0 0/\nth tm 3=i_ (p:Int)/\∀ (i:Nat) x,i<p->d.funs[i]?=some x->1<=x.arity/\x.arity<=16
theorem c1132 (hK:aZ K)(m:Nat)(d:DV)(fd:FD d):
  ∃ v h',cS K (m+3) (.fn 132 [] []) [bW d] .no h=some (.ret v,.no,h')/\(∃ e:Int,v=i_ e/\(e=0->CN d))/\HK h h':=by
 refine bh hK aji (ae (mr d h) (aC _)) ?_;rw[cA];have hbx:=bN (h:=h) (aM d) 23 rfl;obtain⟨H,hH⟩:∃ H:AH,H=h.new (.box (aM d)):=⟨_,rfl⟩
 have q0:my d h.z h H:=⟨by rw[hH];exact HK.new _ _,by rw[hH,ala];omega,by rw[hH,aE]⟩;have ret:∀ (tm:Tm) (e:Int) (H:AH),HK h H->nth tm 2=i_ e->(e=0->CN d)->IQ Cd (fun v h2=>∃ v' h3,cG v h2=(v',h3)/\(∃ e:Int,v'=i_ e/\(e=0->CN d))/\HK h h3) .ret ⟨tm,⟨[],.no,none,132⟩⟩ H:=fun tm e H hk t4 hb=>
  ⟨rfl,rfl,.inr rfl,[i_ e],by simp only[go_sem,simprocAttr,Cd,t4],i_ e,_,aS (by intro l e;cases e) (aG _ _ _),⟨_,rfl,hb⟩,hk⟩
 have st3:∀ (tm:Tm) (H:AH),my d h.z h H->nth tm 1=.ptr h.z 0 0->0<=d.fixed->(∀ f∈d.funs,1<=f.arity/\f.arity<=16)->R (cS K (m+2)) 1000000000000 [.code vz] (IQ Cd (fun v h2=>∃ v' h3,cG v h2=(v',h3)/\(∃ e:Int,v'=i_ e/\(e=0->CN d))/\HK h h3)) .normal ⟨tm,⟨[],.no,none,132⟩⟩ H:=by
  intro tm H q t1 hf hfn;have g0:=q.g;unfold aM at g0;obtain⟨x3,hx3⟩:∃ x,decide (d.kind=3)=x:=⟨_,rfl⟩
  obtain⟨xa,hxa⟩:∃ x,decide (d.rparams=d.params)=x:=⟨_,rfl⟩
  obtain⟨xb,hxb⟩:∃ x,decide (d.rparams=IntKind.wrap .i64 (d.params+1))=x:=⟨_,rfl⟩
  obtain⟨xc,hxc⟩:∃ x,decide ((d.rules.length:Int)=(d.ctors.length:Int))=x:=⟨_,rfl⟩
  cases x3
  case false=>
   have hk:=of_decide_eq_false hx3;simp only[go_sem,simprocAttr,vz,t1,g0,hx3,Aq];exact ret _ 0 H q.hk k_ (fun _=>⟨hf,fun q=>absurd q hk,hfn⟩)
  obtain⟨v,H3,e3,⟨b3,rfl,hb3⟩,k3⟩:=c1167 (h:=H) hK m d fd;rw[cA]at e3;have q3:=q.up k3;unfold aM at e3;cases xa<;>cases xb<;>cases xc<;>cases b3<;>simp only[go_sem,simprocAttr,vz,t1,g0,hx3,hxa,hxb,hxc,L_,e3,Aq]<;>
   first|(refine ret _ 3 _ q3.hk ?_ (fun e=>by cases e);simp only[go_sem,simprocAttr];done)|(refine ret _ 3 _ q.hk ?_ (fun e=>by cases e);simp only[go_sem,simprocAttr];done)|(refine ret _ 0 _ q3.hk ?_ (fun _=>⟨hf,fun _=>hb3 rfl,hfn⟩);simp only[go_sem,simprocAttr];done)
 have st4:∀ (tm:Tm) (H:AH),my d h.z h H->nth tm 1=.ptr h.z 0 0->0<=d.fixed->R (cS K (m+2)) 1000000000000 [.code Ap] (IQ Cd (fun v h2=>∃ v' h3,cG v h2=(v',h3)/\(∃ e:Int,v'=i_ e/\(e=0->CN d))/\HK h h3)) .normal ⟨tm,⟨[],.no,none,132⟩⟩ H:=by
  intro tm H q t1 hf;have fl:=fd.fl;simp only[go_sem,simprocAttr,Ap];refine bB (I1132 d h.z h) d.funs.length o_ ⟨_,0,z_ _,rfl,q,q_ t1,k_,fun i x hi=>by omega⟩ ?_;clear q t1 H tm;rintro j fr H2 ⟨tm,p,hp,rfl,q2,t1,t3,pre⟩;have g2:=q2.g;unfold aM at g2;unfold PO;simp only[go_sem,simprocAttr,t1,t3,g2,L_];refine aX (fun hlt=>?_) (fun hge=>?_)
  ·have hlt:p<d.funs.length:=o_;have hget:d.funs[p]?=some d.funs[p]:=a_ hlt;revert hget;generalize d.funs[p]=f;intro hget;have ha:=fun h=>aK gj hget .i64 h
   have hf6:∀ h,cp (.vptr (fQ f)) h 6 1 false=.val (.vptr (i_ f.arity)) h:=fun h=>rfl
   have hw:=aP p o_;obtain⟨xa,hxa⟩:∃ x,decide (f.arity<1)=x:=⟨_,rfl⟩
   obtain⟨xb,hxb⟩:∃ x,decide (f.arity > 16)=x:=⟨_,rfl⟩
   cases xa
   case true=>
    simp only[go_sem,simprocAttr,vA,t1,t3,g2,ha,hf6,kq,hxa];exact ret _ 3 _ q2.hk k_ (fun e=>by cases e)
   cases xb
   case true=>
    simp only[go_sem,simprocAttr,vA,t1,t3,g2,ha,hf6,kq,hxa,hxb];exact ret _ 3 _ q2.hk k_ (fun e=>by cases e)
   simp only[go_sem,simprocAttr,vA,t1,t3,g2,ha,hf6,kq,hxa,hxb,hw];refine⟨j-1,o_,_,p+1,o_,rfl,q2,q_ t1,k_,fun i x hi hx=>?_⟩;by_cases qi:i=p
   ·subst qi;rw[hget]at hx;cases hx;have:=of_decide_eq_false hxa;have:=of_decide_eq_false hxb;omega
   ·exact pre i x o_ hx
  ·simp only[go_sem,simprocAttr];exact st3 _ _ q2 (q_ t1) hf (jx fun i x hi hx=>pre i x o_ hx)
 have st5:∀ (tm:Tm) (H:AH),my d h.z h H->nth tm 1=.ptr h.z 0 0->0<=d.fixed->R (cS K (m+2)) 1000000000000 [.code Ao] (IQ Cd (fun v h2=>∃ v' h3,cG v h2=(v',h3)/\(∃ e:Int,v'=i_ e/\(e=0->CN d))/\HK h h3)) .normal ⟨tm,⟨[],.no,none,132⟩⟩ H:=by
  intro tm H q t1 hf;have g0:=q.g;unfold aM at g0;obtain⟨xa,hxa⟩:∃ x,decide ((d.ctors.length:Int) > 32)=x:=⟨_,rfl⟩
  obtain⟨xb,hxb⟩:∃ x,decide (d.kind=4)=x:=⟨_,rfl⟩
  obtain⟨xc,hxc⟩:∃ x,decide ((d.funs.length:Int)<1)=x:=⟨_,rfl⟩
  obtain⟨xd,hxd⟩:∃ x,decide ((d.funs.length:Int) > 8)=x:=⟨_,rfl⟩
  cases xa<;>cases xb<;>cases xc<;>cases xd<;>simp only[go_sem,simprocAttr,Ao,t1,g0,hxa,hxb,hxc,hxd,L_]<;>
   first|(refine ret _ 6 _ q.hk ?_ (fun e=>by cases e);simp only[go_sem,simprocAttr];done)|(refine st4 _ _ q ?_ hf;simp only[go_sem,simprocAttr,t1];done)
 have g0:=q0.g;unfold aM at g0;unfold agt;simp only[go_sem,simprocAttr,hbx,<- hH];clear hH;obtain⟨xa,hxa⟩:∃ x,decide (d.params<0)=x:=⟨_,rfl⟩
 obtain⟨xb,hxb⟩:∃ x,decide (d.params > 8)=x:=⟨_,rfl⟩
 obtain⟨xc,hxc⟩:∃ x,decide (d.fixed<0)=x:=⟨_,rfl⟩
 cases xa<;>cases xb<;>cases xc<;>simp only[go_sem,simprocAttr,Kr,g0,hxa,hxb,hxc]<;>
  first|(refine ret _ 2 _ q0.hk ?_ (fun e=>by cases e);simp only[go_sem,simprocAttr];done)|(refine st5 _ _ q0 ?_ (by have:=of_decide_eq_false hxc;omega);simp only[go_sem,simprocAttr];done)
end
section
variable {K:aQ}{h:AH}
theorem ja (l:List ByteArray):(AV.ls (l.map AV.str)).free=true:=by simp only[AV.free];exact bE (fun _=>rfl) l
def I1133 (env:List DV)(l:List ByteArray)(h0:AH)(j:Nat)(fr:AF)(h:AH):Prop:=∃ tm p,p+j=l.length/\fr=⟨tm,⟨[],.no,none,133⟩⟩/\HK h0 h/\nth tm 0=.ls (env.map bW)/\nth tm 5=.ls (l.map AV.str)/\nth tm 6=i_ (p:Int)
theorem c1133 (hK:aZ K)(m:Nat)(env:List DV)(d:DV)(ds:∀ d∈env,DS d)(hl:env.length<1000)(fd:FD d):
  ∃ v h',cS K (m+3) (.fn 133 [] []) [.ls (env.map bW),bW d] .no h=some (.ret v,.no,h')/\(∃ e:Int,v=i_ e)/\HK h h':=by
 refine bh hK ajh (ae (jD _ _) (ae (mr d h) (aC _))) ?_;rw[cA];have hbx:=bN (h:=h) (aM d) 23 rfl;obtain⟨H,hH⟩:∃ H:AH,H=h.new (.box (aM d)):=⟨_,rfl⟩
 have q0:my d h.z h H:=⟨by rw[hH];exact HK.new _ _,by rw[hH,ala];omega,by rw[hH,aE]⟩;have dsd:DS d:=⟨by have:=fd.cl;omega,by have:=fd.fl;omega,by have:=fd.name;omega⟩;have ret:∀ (tm:Tm) (e:Int) (H:AH),HK h H->nth tm 4=i_ e->IQ aau (fun v h2=>∃ v' h3,cG v h2=(v',h3)/\(∃ e:Int,v'=i_ e)/\HK h h3) .ret ⟨tm,⟨[],.no,none,133⟩⟩ H:=fun tm e H hk t4=>
  ⟨rfl,rfl,.inr rfl,[i_ e],by simp only[go_sem,simprocAttr,aau,t4],i_ e,_,aS (by intro l e;cases e) (aG _ _ _),⟨_,rfl⟩,hk⟩
 have g0:=q0.g;unfold aM at g0;obtain⟨v,H1,e1,⟨l,rfl,ll,_,nb⟩,k1⟩:=TP (h:=H) hK (m+1) d dsd;have nb:=nb 200 fd.name (fun c hc=>(fd.ct c hc).1) (fun f hf=>(fd.fn f hf).1);rw[cA]at e1;unfold aM at e1;unfold ags;simp only[go_sem,simprocAttr,hbx,<- hH];clear hH;simp only[go_sem,simprocAttr,Kn,g0,e1,Ko];refine bB (I1133 env l h) l.length o_ ⟨_,0,z_ _,rfl,q0.hk.trans k1,k_,k_,k_⟩ ?_;rintro j fr H2 ⟨tm,p,hp,rfl,k2,t0,t5,t6⟩;unfold PN;simp only[go_sem,simprocAttr,t5,t6,L_];refine aX (fun hlt=>?_) (fun hge=>?_)
 ·have hlt:p<l.length:=o_;have hget:l[p]?=some l[p]:=a_ hlt;have hs:=nb _ (m_ hget);revert hget hs;generalize l[p]=s;intro hget hs;have ha:=fun h=>aK (f:=AV.str) (sz:=1) (fun _=>rfl) hget .i64 h
  have hw:=aP p o_;obtain⟨v,H3,e3,⟨b3,rfl,_⟩,rfl⟩:=c70 (h:=H2) hK m s o_;cases b3 with
  |false=>
   simp only[go_sem,simprocAttr,An,t5,t6,ha,eB,e3];exact ret _ 29 _ k2 k_
  |true=>
   obtain⟨v,H4,e4,⟨e,f,rfl,_⟩,k4⟩:=aa2 (h:=H3) hK m env s ds hl;obtain⟨HB,hHB⟩:∃ HB:AH,HB=(H4.new (.box zE)).set H4.z (.box (bo e)):=⟨_,rfl⟩
   have kB:HK H4 HB:=by rw[hHB];exact(HK.new _ _).set _ (e_ _)
   have hse:=iN (aE H4 (.box zE)) rfl e;rw[<- hHB]at hse;unfold zE at hse;clear hHB;have k24:=(k2.trans k4).trans kB;simp only[go_sem,simprocAttr,An,t0,t5,t6,ha,eB,e3,Kq,e4,hse];by_cases qf:f=0
   ·subst qf;simp only[go_sem,simprocAttr,vy];exact ret _ 8 _ k24 k_
   ·have df:decide (f=0)=false:=D_ qf;obtain⟨v,H5,e5,⟨b5,rfl⟩,k5⟩:=aa1 (h:=HB) hK (m+1) (l.take p) s (by rw[List.length_take];omega);have hsl:=fun h=>ot (f:=AV.str) (sz:=1) (fun _=>rfl) h l .i64 p o_
    have bq1:=bU (ja l);have bq2:=bU (ja (l.take p));cases b5 with
    |true=>
     simp only[go_sem,simprocAttr,vy,df,t5,t6,hsl,ha,eB,e5];exact ret _ 8 _ (k24.trans k5) k_
    |false=>
     simp only[go_sem,simprocAttr,vy,df,t5,t6,hsl,ha,eB,e5,hw];exact⟨j-1,o_,_,p+1,o_,rfl,k24.trans k5,q_ t0,q_ t5,k_⟩
 ·simp only[go_sem,simprocAttr,Kp];exact ret _ 0 H2 k2 k_
end
section
variable {K:aQ}{h:AH}
def dz (env:List DV)(OV:AV)(d:DV):List AV:=.ls (env.map bW)::OV::aM d
theorem sJ (env:List DV){OV:AV}(d:DV)(hf:OV.free=true):(AV.agg (dz env OV d)).free=true:=by
 have f:=fg d;rw[cA]at f;simp only[AV.free]at f;have fe:AV.ale (env.map bW)=true:=bE fg env;simp only[dz,AV.free,AV.ale,f,fe,hf,Bool.and_self]
theorem Zm (env:List DV){OV:AV}{own:List ByteArray}(d:DV)(hf:OV.free=true)(hn:OV.norm=.ls (own.map AV.str))(h:AH):cE (.agg (dz env OV d)) h=(jy env own d,h):=by
 have n:=jd d;rw[cA]at n;simp only[AV.norm]at n;have n:AV.ald (aM d)=aM d:=by injection n
 rw[bG (sJ env d hf)];simp only[jy,dz,AV.norm,AV.ald,n,bw jd,hn]
theorem rG (hK:aZ K)(env:List DV){OV:AV}(own:List ByteArray)(d:DV)(hf:OV.free=true)(hn:OV.norm=.ls (own.map AV.str))(sc:SC env own d)(m:Nat)(t:T)(ps:Int)(h:AH)(hm:410<=m)(hs:size t<=400)(bt:BT t):
  ∃ v h',cS K m (.fn 170 [] []) [.agg (dz env OV d),enc t,i_ 0,i_ ps] .no h=some (.ret v,.no,h')/\(∃ e:Int,v=i_ e/\(e=0->TOK t))/\HK h h':=by
 obtain⟨v,h',e,r⟩:=afF (h:=h) hK env own d sc 400 m t 0 ps o_ hs o_ bt o_;rw[<- jo (f:=170) (c:=[]) (ae (Zm env d hf hn h) (ae (bR t h) (ae (aG .i64 0 h) (ae (aG .i64 ps h) (aC _))))) (ae (xS _ _ _ h) (ae (bR t h) (ae (aG .i64 0 h) (ae (aG .i64 ps h) (aC _)))))]at e;exact⟨v,h',e,r⟩
theorem akj (hK:aZ K)(env:List DV){OV:AV}(own:List ByteArray)(d:DV)(hf:OV.free=true)(hn:OV.norm=.ls (own.map AV.str))(sc:SC env own d)(se:SE env)(m:Nat)(t:eY)(vs:Int)(h:AH)(hm:9000020<=m)(hs:ts t<=9000000)(sm:SmT t 40)(bt:BTr t)(v0:1<=vs)(v1:vs<=16):
  ∃ v h',cS K m (.fn 171 [] []) [.agg (dz env OV d),.agg (bu t),i_ vs,i_ 0] .no h=some (.ret v,.no,h')/\(∃ e:Int,v=i_ e/\(e=0->TB t))/\HK h h':=by
 obtain⟨v,h',e,r⟩:=c1171 hK env own d sc se 9000000 m t 40 vs 0 h o_ hs o_ sm bt o_ o_;rw[bM]at e;rw[<- jo (f:=171) (c:=[]) (ae (Zm env d hf hn h) (ae (iQ t h) (ae (aG .i64 vs h) (ae (aG .i64 0 h) (aC _))))) (ae (xS _ _ _ h) (ae (iQ t h) (ae (aG .i64 vs h) (ae (aG .i64 0 h) (aC _)))))]at e;exact⟨v,h',e,r⟩
theorem WB (h:AH)(env:List DV)(d:DV):bT h [.nl,.nl,i_ 0,.str (bs []),i_ 0,i_ 0,i_ 0,.str (bs []),.nl,.nl,i_ 0,i_ 0,.str (bs []),.nl,.nl,i_ 0,.nl,i_ 0,i_ 0,i_ 0,.str (bs []),.nl,.nl,.nl,.nl]
  [(0,1,.ls (env.map bW)),(2,23,.agg (aM d))]=.val (.agg (dz env .nl d)) h:=(rfl)
theorem QI {h:AH}{k:Nat}{a b V:AV}{cs:List AV}(g:h.get k=some (.box (a::b::cs)))(hl:V.lies=true)(hv:V.cells=[V]):dQ (.ptr k 0 1) h 1 V=some (h.set k (.box (a::V::cs))):=by
 rw[gU _ _ _ _ hl (by rw[hv];rfl),g,aI,hv,om _ _ _ (by simp),aI];rfl
structure TM (d:DV):Prop where
 value:d.kind=1->TOK d.value
 rules:d.kind=3->∀ r∈d.rules,TOK r
 funs:d.kind=4->∀ f∈d.funs,TB f.tree
structure ue (env:List DV)(OV:AV)(d:DV)(b:Nat)(h0 h:AH):Prop where
 hk:HK h0 h
 hb:h0.z<=b
 hn:b+1<h.z
 g0:h.get b=some (.box (aM d))
 g1:h.get (b+1)=some (.box (dz env OV d))
theorem ue.up {env:List DV}{OV:AV}{d:DV}{b:Nat}{h0 h h':AH}(q:ue env OV d b h0 h)(k:HK h h'):ue env OV d b h0 h':=
 ⟨q.hk.trans k,q.hb,by have:=k.z;have:=q.hn;omega,(k.kw _ (by have:=q.hn;omega)).trans q.g0,(k.kw _ q.hn).trans q.g1⟩
theorem ue.put {env:List DV}{OV:AV}{d:DV}{b:Nat}{h0 h:AH}(q:ue env OV d b h0 h)(OV':AV):ue env OV' d b h0 (h.set (b+1) (.box (dz env OV' d))):=
 ⟨q.hk.set _ (by have:=q.hb;omega),q.hb,by rw[alb];exact q.hn,by rw[aB o_];exact q.g0,aH _ _ _⟩
def TT (env:List DV)(OV:AV)(d:DV)(b ix n:Nat)(P:Nat->Prop)(h0:AH)(j:Nat)(fr:AF)(h:AH):Prop:=∃ tm p,p+j=n/\fr=⟨tm,⟨[],.no,none,134⟩⟩/\ue env OV d b h0 h/\nth tm 3=.ptr b 0 0/\nth tm 5=.ptr (b+1) 0 0/\nth tm ix=i_ (p:Int)/\P p
theorem sY (l:List ByteArray):(AV.ls (l.map AV.str)).norm=.ls (l.map AV.str):=by simp only[AV.norm,bw (f:=AV.str) (fun _=>rfl)]
theorem c1134 (hK:aZ K)(m:Nat)(env:List DV)(d:DV)(sc:SC env [] d)(se:SE env)(fd:FD d)(bd:BD d)(cn:CN d)(hm:9000030<=m):
  ∃ v h',cS K m (.fn 134 [] []) [.ls (env.map bW),bW d] .no h=some (.ret v,.no,h')/\(∃ e:Int,v=i_ e/\(e=0->TM d))/\HK h h':=by
 obtain⟨m,rfl⟩:∃ k,m=k+2:=⟨m-2,o_⟩
 have scO:∀ own:List ByteArray,own.length<=10000->SC env own d:=fun own h=>⟨sc.ds,sc.d,sc.len,h⟩
 refine bh hK ajg (ae (jD _ _) (ae (mr d h) (aC _))) ?_;rw[cA];have hbx:=bN (h:=h) (aM d) 23 rfl;obtain⟨H,hH⟩:∃ H:AH,H=h.new (.box (aM d)):=⟨_,rfl⟩
 have n0:H.z=h.z+1:=by rw[hH,ala]
 have g0':H.get h.z=some (.box (aM d)):=by rw[hH,aE]
 obtain⟨HA,hHA⟩:∃ HA:AH,HA=(H.new (.box [.nl,.nl,i_ 0,.str (bs []),i_ 0,i_ 0,i_ 0,.str (bs []),.nl,.nl,i_ 0,i_ 0,.str (bs []),.nl,.nl,i_ 0,.nl,i_ 0,i_ 0,i_ 0,.str (bs []),.nl,.nl,.nl,.nl])).set (h.z+1) (.box (dz env .nl d)):=⟨_,rfl⟩
 have hst:=bp (h:=H.new (.box [.nl,.nl,i_ 0,.str (bs []),i_ 0,i_ 0,i_ 0,.str (bs []),.nl,.nl,i_ 0,i_ 0,.str (bs []),.nl,.nl,i_ 0,.nl,i_ 0,i_ 0,i_ 0,.str (bs []),.nl,.nl,.nl,.nl])) (vs:=dz env .nl d) (sz:=25) (aE _ _) rfl rfl;rw[n0,<- hHA]at hst;have qA:ue env .nl d h.z h HA:=by
  refine⟨?_,e_ _,?_,?_,?_⟩
  ·rw[hHA];exact HK.set (by rw[hH];exact(HK.new _ _).add _) _ o_
  ·rw[hHA,alb,ala];omega
  ·rw[hHA,aB o_,aL o_];exact g0'
  ·rw[hHA,aH]
 clear hHA;have ret:∀ (tm:Tm) (e:Int) (H:AH),HK h H->nth tm 4=i_ e->(e=0->TM d)->IQ TD (fun v h2=>∃ v' h3,cG v h2=(v',h3)/\(∃ e:Int,v'=i_ e/\(e=0->TM d))/\HK h h3) .ret ⟨tm,⟨[],.no,none,134⟩⟩ H:=fun tm e H hk t4 he=>
  ⟨rfl,rfl,.inr rfl,[i_ e],by simp only[go_sem,simprocAttr,TD,t4],i_ e,_,aS (by intro l e;cases e) (aG _ _ _),⟨_,rfl,he⟩,hk⟩
 have cl:=fd.cl;have rl:=fd.rl;have fl:=fd.fl;have st:∀ (tm:Tm) (H:AH),ue env .nl d h.z h H->nth tm 3=.ptr h.z 0 0->nth tm 5=.ptr (h.z+1) 0 0->R (cS K (m+1)) 1000000000000 [.code kQ] (IQ TD (fun v h2=>∃ v' h3,cG v h2=(v',h3)/\(∃ e:Int,v'=i_ e/\(e=0->TM d))/\HK h h3)) .normal ⟨tm,⟨[],.no,none,134⟩⟩ H:=by
  intro tm H q t3 t5;have g0:=q.g0;have g1:=q.g1;unfold aM at g0;unfold dz aM at g1;obtain⟨x1,hx1⟩:∃ x,decide (d.kind=1)=x:=⟨_,rfl⟩
  obtain⟨x2,hx2⟩:∃ x,decide (d.kind=2)=x:=⟨_,rfl⟩
  obtain⟨x3,hx3⟩:∃ x,decide (d.kind=3)=x:=⟨_,rfl⟩
  obtain⟨x4,hx4⟩:∃ x,decide (d.kind=4)=x:=⟨_,rfl⟩
  cases x1
  case true=>
   have hk:=of_decide_eq_true hx1;obtain⟨v,H3,e3,⟨e,rfl,he⟩,k3⟩:=rG hK env [] d (OV:=.nl) rfl rfl sc (m+1) d.value d.params H o_ fd.value bd.value;rw[aU]at e3;unfold dz aM at e3;simp only[go_sem,simprocAttr,kQ,t3,t5,g0,g1,hx1,e3];exact ret _ e _ (q.hk.trans k3) k_ (fun z=>⟨fun _=>he z,fun q=>by omega,fun q=>by omega⟩)
  have hk1:=of_decide_eq_false hx1;cases x2
  case true=>
   have hk:=of_decide_eq_true hx2;obtain⟨v,H3,e3,⟨e,rfl,he⟩,k3⟩:=rG hK env [] d (OV:=.nl) rfl rfl sc (m+1) d.value d.params H o_ fd.value bd.value;rw[aU]at e3;unfold dz aM at e3;simp only[go_sem,simprocAttr,kQ,t3,t5,g0,g1,hx1,hx2,e3];exact ret _ e _ (q.hk.trans k3) k_ (fun z=>⟨fun q=>by omega,fun q=>by omega,fun q=>by omega⟩)
  have hk2:=of_decide_eq_false hx2;cases x3
  case true=>
   have hk:=of_decide_eq_true hx3;have q1:=q.put (.clip [.str d.name]);unfold dz aM at q1;have hs1:=QI (V:=.clip [.str d.name]) g1 rfl rfl;simp only[go_sem,simprocAttr,kQ,t3,t5,g0,hx1,hx2,hx3,pW,hs1];refine bB (TT env (.clip [.str d.name]) d h.z 7 d.ctors.length (fun _=>True) h) d.ctors.length o_ ⟨_,0,z_ _,rfl,q1,q_ t3,q_ t5,k_,trivial⟩ ?_;clear hs1 q q1 g0 g1 t3 t5 H tm;rintro j fr H2 ⟨tm,p,hp,rfl,q,t3,t5,t7,_⟩;have g0:=q.g0;have g1:=q.g1;unfold aM at g0;unfold dz aM at g1;unfold PL;simp only[go_sem,simprocAttr,t3,t7,g0,L_];refine aX (fun hlt=>?_) (fun hge=>?_)
   ·have hlt:p<d.ctors.length:=o_;have hget:d.ctors[p]?=some d.ctors[p]:=a_ hlt;have hmem:=m_ hget;have hcs:=(fd.ct _ hmem).2;have hbt:=bd.ct _ hmem;revert hget hcs hbt;generalize d.ctors[p]=ct;intro hget hcs hbt;have ha:=fun h=>aK fN hget .i64 h
    have hf1:∀ h,cp (.vptr (hT ct)) h 1 5 true=.val (.vptr (.agg (aJ ct.type))) h:=fun h=>rfl
    have hlT:=kG ct.type;have hw:=aP p o_;obtain⟨v,H3,e3,⟨e,rfl,_⟩,k3⟩:=rG hK env [d.name] d (OV:=.clip [.str d.name]) rfl rfl (scO _ (by simp)) (m+1) ct.type d.params H2 o_ hcs hbt;have bqS:=bU (sJ env d (OV:=.clip [.str d.name]) rfl);have bqT:=bU (fW ct.type);rw[aU]at e3 bqT;unfold dz aM at e3 bqS;unfold aJ at hf1 hlT;simp only[go_sem,simprocAttr,Kl,t3,t5,t7,g0,g1,ha,hf1,hlT,e3,Km];by_cases qe:e=0
    ·subst qe;simp only[go_sem,simprocAttr,t7,hw];exact⟨j-1,o_,_,p+1,o_,rfl,q.up k3,q_ t3,q_ t5,k_,trivial⟩
    ·have de:decide (e=0)=false:=D_ qe;simp only[go_sem,simprocAttr,de];exact ret _ e H3 (q.hk.trans k3) k_ (fun q=>absurd q qe)
   ·obtain⟨v,H3,e3,⟨l,rfl,ll,l2,_⟩,k3⟩:=TP (h:=H2) hK m d sc.d;rw[cA]at e3;unfold aM at e3;have l2:=l2 hk;have q3:=q.up k3;have g31:=q3.g1;unfold dz aM at g31;have hw1:IntKind.wrap .i64 ((l.length:Int)-1)=((l.length-1:Nat):Int):=by rw[bI _ o_ o_];omega
    have hsl:=fun h=>ot (f:=AV.str) (sz:=1) (fun _=>rfl) h l .i64 (l.length-1) o_
    have q4:=q3.put (.ls ((l.take (l.length-1)).map AV.str));have g40:=q4.g0;have g41:=q4.g1;obtain⟨v,H5,e5,⟨e,rfl,he⟩,k5⟩:=rG hK env (l.take (l.length-1)) d (ja _) (sY _) (scO _ (by rw[List.length_take];omega)) (m+1) d.rtype d.rparams (H3.set (h.z+1) (.box (dz env (.ls ((l.take (l.length-1)).map AV.str)) d))) o_ fd.rty bd.rty;rw[aU]at e5;have q5:=q4.up k5;have g51:=q5.g1;unfold dz aM at e5 g41 g51;unfold dz at g40;unfold aM at g40;simp only[go_sem,simprocAttr,t3,t5,g0,e3,hw1,hsl,g31,L_,g40,g41,e5];by_cases qe:e=0
    case neg=>
     have de:decide (e=0)=false:=D_ qe;simp only[go_sem,simprocAttr,de];exact ret _ e H5 q5.hk k_ (fun q=>absurd q qe)
    subst qe;have q6:=q5.put (.ls (l.map AV.str));unfold dz aM at q6;simp only[go_sem,simprocAttr,t5,g51];refine bB (TT env (.ls (l.map AV.str)) d h.z 11 d.rules.length (fun p=>∀ (i:Nat) x,i<p->d.rules[i]?=some x->TOK x) h) d.rules.length o_ ⟨_,0,z_ _,rfl,q6,q_ t3,q_ t5,k_,fun i x hi=>by omega⟩ ?_;clear q6 q5 q4 q3 g51 g41 g40 g31 g0 g1 q t3 t5 e3 e5 k3 k5 H3 H5;rintro j fr H2 ⟨tm,p,hp,rfl,q,t3,t5,t11,pre⟩;have g0:=q.g0;have g1:=q.g1;unfold aM at g0;unfold dz aM at g1;unfold PK;simp only[go_sem,simprocAttr,t3,t11,g0,L_];refine aX (fun hlt=>?_) (fun hge=>?_)
    ·have hlt:p<d.rules.length:=o_;have hget:d.rules[p]?=some d.rules[p]:=a_ hlt;have hmem:=m_ hget;have hcs:=fd.rr _ hmem;have hbt:=bd.rr _ hmem;revert hget hcs hbt;generalize d.rules[p]=x;intro hget hcs hbt;have ha:=fun h=>aK bJ hget .i64 h
     have hld:=fun h=>cI (v:=enc x) (sz:=5) (hG x) (bJ x) h
     have hw:=aP p o_;obtain⟨v,H3,e3,⟨e,rfl,he⟩,k3⟩:=rG hK env l d (ja l) (sY l) (scO _ o_) (m+1) x d.rparams H2 o_ hcs hbt;have bqS:=bU (sJ env d (ja l));have bqT:=bU (fW x);unfold dz aM at e3 bqS;simp only[go_sem,simprocAttr,Kj,t3,t5,t11,g0,g1,ha,hld,e3,Kk];by_cases qe:e=0
     ·subst qe;simp only[go_sem,simprocAttr,t11,hw];refine⟨j-1,o_,_,p+1,o_,rfl,q.up k3,q_ t3,q_ t5,k_,fun i y hi hy=>?_⟩;by_cases qi:i=p
      ·subst qi;rw[hget]at hy;cases hy;exact he rfl
      ·exact pre i y o_ hy
     ·have de:decide (e=0)=false:=D_ qe;simp only[go_sem,simprocAttr,de];exact ret _ e H3 (q.hk.trans k3) k_ (fun q=>absurd q qe)
    ·simp only[go_sem,simprocAttr,rI];exact ret _ 0 H2 q.hk k_ (fun _=>⟨fun q=>by omega,fun _=>jx fun i x hi hx=>pre i x o_ hx,fun q=>by omega⟩)
  have hk3:=of_decide_eq_false hx3;cases x4
  case false=>
   have hk4:=of_decide_eq_false hx4;simp only[go_sem,simprocAttr,kQ,t3,g0,hx1,hx2,hx3,hx4,rI];exact ret _ 0 H q.hk k_ (fun _=>⟨fun q=>by omega,fun q=>by omega,fun q=>by omega⟩)
  have hk:=of_decide_eq_true hx4;simp only[go_sem,simprocAttr,kQ,t3,g0,hx1,hx2,hx3,hx4];refine bB (TT env .nl d h.z 13 d.funs.length (fun _=>True) h) d.funs.length o_ ⟨_,0,z_ _,rfl,q,q_ t3,q_ t5,k_,trivial⟩ ?_;clear q g0 g1 t3 t5 H tm;rintro j fr H2 ⟨tm,p,hp,rfl,q,t3,t5,t13,_⟩;have g0:=q.g0;have g1:=q.g1;unfold aM at g0;unfold dz aM at g1;unfold PJ;simp only[go_sem,simprocAttr,t3,t13,g0,L_];refine aX (fun hlt=>?_) (fun hge=>?_)
  ·have hlt:p<d.funs.length:=o_;have hget:d.funs[p]?=some d.funs[p]:=a_ hlt;have hmem:=m_ hget;have hcs:=(fd.fn _ hmem).2.1;have hbt:=(bd.fn _ hmem).1;revert hget hcs hbt;generalize d.funs[p]=f;intro hget hcs hbt;have ha:=fun h=>aK gj hget .i64 h
   have hf1:∀ h,cp (.vptr (fQ f)) h 1 5 true=.val (.vptr (.agg (aJ f.type))) h:=fun h=>rfl
   have hlT:=kG f.type;have hw:=aP p o_;obtain⟨v,H3,e3,⟨e,rfl,_⟩,k3⟩:=rG hK env [] d (OV:=.nl) rfl rfl sc (m+1) f.type d.params H2 o_ hcs hbt;have bqS:=bU (sJ env d (OV:=.nl) rfl);have bqT:=bU (fW f.type);rw[aU]at e3 bqT;unfold dz aM at e3 bqS;unfold aJ at hf1 hlT;simp only[go_sem,simprocAttr,Kh,t3,t5,t13,g0,g1,ha,hf1,hlT,e3,Ki];by_cases qe:e=0
   ·subst qe;simp only[go_sem,simprocAttr,t13,hw];exact⟨j-1,o_,_,p+1,o_,rfl,q.up k3,q_ t3,q_ t5,k_,trivial⟩
   ·have de:decide (e=0)=false:=D_ qe;simp only[go_sem,simprocAttr,de];exact ret _ e H3 (q.hk.trans k3) k_ (fun q=>absurd q qe)
  ·obtain⟨v,H3,e3,⟨l,rfl,ll,_,_⟩,k3⟩:=TP (h:=H2) hK m d sc.d;rw[cA]at e3;unfold aM at e3;have q3:=q.up k3;have g31:=q3.g1;have q4:=q3.put (.ls (l.map AV.str));unfold dz aM at g31 q4;simp only[go_sem,simprocAttr,t3,t5,g0,e3,g31];refine bB (TT env (.ls (l.map AV.str)) d h.z 15 d.funs.length (fun p=>∀ (i:Nat) x,i<p->d.funs[i]?=some x->TB x.tree) h) d.funs.length o_ ⟨_,0,z_ _,rfl,q4,q_ t3,q_ t5,k_,fun i x hi=>by omega⟩ ?_;clear q4 q3 g31 g0 g1 q t3 t5 e3 k3 H3;rintro j fr H2 ⟨tm,p,hp,rfl,q,t3,t5,t15,pre⟩;have g0:=q.g0;have g1:=q.g1;unfold aM at g0;unfold dz aM at g1;unfold Fq;simp only[go_sem,simprocAttr,t3,t15,g0,L_];refine aX (fun hlt=>?_) (fun hge=>?_)
   ·have hlt:p<d.funs.length:=o_;have hget:d.funs[p]?=some d.funs[p]:=a_ hlt;have hmem:=m_ hget;have hcs:=(fd.fn _ hmem).2.2;have hbt:=(bd.fn _ hmem).2;have har:=cn.fn _ hmem;revert hget hcs hbt har;generalize d.funs[p]=f;intro hget hcs hbt har;have ha:=fun h=>aK gj hget .i64 h
    have hf7:∀ h,cp (.vptr (fQ f)) h 7 8 true=.val (.vptr (.agg (bu f.tree))) h:=fun h=>rfl
    have hf6:∀ h,cp (.vptr (fQ f)) h 6 1 false=.val (.vptr (i_ f.arity)) h:=fun h=>rfl
    have hld:=fun h=>cI (v:=.agg (bu f.tree)) (sz:=8) rfl rfl h
    have hw:=aP p o_;obtain⟨v,H3,e3,⟨e,rfl,he⟩,k3⟩:=akj hK env l d (ja l) (sY l) (scO _ o_) se (m+1) f.tree f.arity H2 o_ hbt.2 hcs hbt.1 har.1 har.2;have bqS:=bU (sJ env d (ja l));have bqT:=bU (jL f.tree);rw[bM]at bqT;unfold dz aM at e3 bqS;simp only[go_sem,simprocAttr,DO,t3,t5,t15,g0,g1,ha,hf7,hf6,hld,kq,e3,Kg];by_cases qe:e=0
    ·subst qe;simp only[go_sem,simprocAttr,t15,hw];refine⟨j-1,o_,_,p+1,o_,rfl,q.up k3,q_ t3,q_ t5,k_,fun i y hi hy=>?_⟩;by_cases qi:i=p
     ·subst qi;rw[hget]at hy;cases hy;exact he rfl
     ·exact pre i y o_ hy
    ·have de:decide (e=0)=false:=D_ qe;simp only[go_sem,simprocAttr,de];exact ret _ e H3 (q.hk.trans k3) k_ (fun q=>absurd q qe)
   ·simp only[go_sem,simprocAttr,rI];exact ret _ 0 H2 q.hk k_ (fun _=>⟨fun q=>by omega,fun q=>by omega,fun _=>jx fun i x hi hx=>pre i x o_ hx⟩)
 have hd:=g0';have hb:=fun h=>WB h env d
 have gH:(H.new (.box [.nl,.nl,i_ 0,.str (bs []),i_ 0,i_ 0,i_ 0,.str (bs []),.nl,.nl,i_ 0,i_ 0,.str (bs []),.nl,.nl,i_ 0,.nl,i_ 0,i_ 0,i_ 0,.str (bs []),.nl,.nl,.nl,.nl])).get h.z=some (.box (aM d)):=by rw[aL o_];exact g0'
 have gA0:=qA.g0;have gA1:=qA.g1;unfold aM at hd gH gA0;unfold dz aM at hb gA1 hst;unfold agr;simp only[go_sem,simprocAttr,hbx,<- hH,DM,hd,hb,n0,hst,DN,gA0];clear hH hst hb;by_cases k4:d.kind=4
 ·have d4:decide (d.kind=4)=true:=T_ k4;simp only[go_sem,simprocAttr,d4];exact st _ _ qA k_ k_
 ·have d4:decide (d.kind=4)=false:=D_ k4;obtain⟨v,H3,e3,⟨e,rfl,_⟩,k3⟩:=rG hK env [] d (OV:=.nl) rfl rfl sc (m+1) d.type d.params HA o_ fd.ty bd.ty;rw[aU]at e3;unfold dz aM at e3;simp only[go_sem,simprocAttr,d4,gA0,gA1,e3];by_cases qe:e=0
  ·subst qe;simp only[go_sem,simprocAttr];exact st _ _ (qA.up k3) k_ k_
  ·have de:decide (e=0)=false:=D_ qe;simp only[go_sem,simprocAttr,de];exact ret _ e H3 (qA.hk.trans k3) k_ (fun q=>absurd q qe)
end
