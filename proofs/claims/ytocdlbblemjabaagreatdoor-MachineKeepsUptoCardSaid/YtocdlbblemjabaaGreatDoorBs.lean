/- MachineKeeps: guards: Encodable: a node (no condition). -/
import Derived.Test.YtocdlbblemjabaaGreatDoorBr
namespace Go.Proofs.YtocdlbblemjabaaGreatDoor
open Go.AG Go.AG.MK
def mR (k:Int):Int:=if k=0∨k=1∨k=2∨k=3∨k=12 then 0 else if k=4∨k=5∨k=6∨k=7 then 2 else if k=8∨k=11 then 3 else if k=9∨k=10 then 1 else -1
theorem RU {k:Int}(h0:0<=k)(h1:k<13):mR k=dW k:=by
 unfold mR dW;split<;>split<;>first|rfl|omega|(split<;>first|rfl|omega|(split<;>first|rfl|omega))
structure ud (t:T):Prop where
 K:mR t.kind=(t.K.length:Int)
 vl:∀ l∈t.L,VL l
 i0:t.kind=0∨t.kind=12->0<=t.idx/\t.idx<=2147483647
 i1:t.kind≠0->t.kind≠12->t.idx=0
 name:t.kind≠3->t.name=bs []
 short:t.name.size<=65536
 l2:t.kind=2->t.L.length=1
 l3:t.kind=3->t.L.length<=8
 l0:t.kind≠2->t.kind≠3->t.L.length=0
section
variable {K:aQ}{h:AH}
theorem c1172 (hK:aZ K)(m:Nat)(k:Int):cS K (m+1) (.fn 172 [] []) [i_ k] .no h=some (.ret (i_ (mR k)),.no,h):=by
 obtain⟨v,h',e,rfl,rfl⟩:=bh (m:=m) (c:=[]) (a:=[i_ k]) (h:=h) (P:=fun v h'=>v=i_ (mR k)/\h'=h) hK aiY (ae (aG _ _ _) (aC _)) (by
  simp only[A_];unfold aga
  repeat' (first|simp only[go_sem,simprocAttr, *,Jc,Jb]|refine mC (fun _=>?_) fun _=>?_|refine pI (fun _=>?_) fun _=>?_|refine pJ (fun _=>?_) fun _=>?_)
  all_goals (refine⟨by rfl,by rfl,.inr rfl,[_],by simp only[go_sem,simprocAttr,aeZ];rfl,_,_,aS (by intro l e;cases e) (aG _ _ _),?_,rfl⟩;simp_all [mR]))
 exact e
def I1135 (t:T)(b:Nat)(h0:AH)(j:Nat)(fr:AF)(h:AH):Prop:=∃ tm p,p+j=t.L.length/\fr=⟨tm,⟨[],.no,none,135⟩⟩/\HK h0 h/\b<h.z/\h.get b=some (.box (aJ t))/\nth tm 1=.ptr b 0 0/\nth tm 3=i_ (p:Int)
theorem c1135 (hK:aZ K)(m:Nat)(t:T)(bt:BT t)(_hk:t.K.length<10000000):
  ∃ v h',cS K (m+2) (.fn 135 [] []) [enc t] .no h=some (.ret v,.no,h')/\(∃ b,v=.bool b/\(ud t->b=true))/\HK h h':=by
 refine bh hK ajf (ae (bR t h) (aC _)) ?_;obtain⟨H,hH⟩:∃ H:AH,H=h.new (.box (aJ t)):=⟨_,rfl⟩
 have k0:HK h H:=by rw[hH];exact HK.new _ _
 have n0:H.z=h.z+1:=by rw[hH,ala]
 have g0:H.get h.z=some (.box (aJ t)):=by rw[hH,aE]
 have ret:∀ (tm:Tm) (b:Bool) (H:AH),HK h H->nth tm 2=.bool b->(ud t->b=true)->IQ Cc (fun v h2=>∃ v' h3,cG v h2=(v',h3)/\(∃ b,v'=.bool b/\(ud t->b=true))/\HK h h3) .ret ⟨tm,⟨[],.no,none,135⟩⟩ H:=fun tm b H hk t2 hb=>
  ⟨rfl,rfl,.inr rfl,[.bool b],by simp only[go_sem,simprocAttr,Cc,t2],.bool b,_,aS (by intro l e;cases e) (aW _ _),⟨b,rfl,hb⟩,hk⟩
 have hc:=c1172 (h:=H) hK m t.kind;have hbl:=bt.ln;have g0':=g0;unfold aJ at hH g0;rw[aU t];unfold agq;simp only[go_sem,simprocAttr];rw[<- hH];clear hH;by_cases a1:mR t.kind=(t.K.length:Int)
 case neg=>
  have d1:decide (mR t.kind=(t.K.length:Int))=false:=D_ a1;simp only[go_sem,simprocAttr,Al,g0,hc,L_,d1];exact ret _ false H k0 k_ fun p=>absurd p.K a1
 have d1:decide (mR t.kind=(t.K.length:Int))=true:=T_ a1;simp only[go_sem,simprocAttr,Al,g0,hc,L_,d1,Kd];refine bB (I1135 t h.z h) t.L.length o_ ⟨_,0,z_ _,rfl,k0,o_,g0',k_,k_⟩ ?_;rintro j fr H2 ⟨tm,p,hp,rfl,hk2,hn2,hg2,t1,t3⟩;have hg2':=hg2;unfold aJ at hg2;unfold PI;simp only[go_sem,simprocAttr,t1,t3,hg2,L_];refine aX (fun hlt=>?_) (fun hge=>?_)
 ·have hlt:p<t.L.length:=o_;have hget:t.L[p]?=some t.L[p]:=a_ hlt;have ha:=fun h=>aK eC hget .i64 h
  have ele:=jb t.L[p];have hw:=aP p o_;obtain⟨v,H3,e3,⟨b,rfl,hb⟩,k3⟩:=c21 (h:=H2) hK m t.L[p] (bt.ls _ (m_ hget));simp only[go_sem,simprocAttr,Kf,t1,t3,hg2,ha,ele,e3];cases b with
  |false=>
   simp only[go_sem,simprocAttr];exact ret _ false H3 (hk2.trans k3) k_ fun q=>absurd (hb.2 (q.vl _ (m_ hget))) (by simp)
  |true=>
   simp only[go_sem,simprocAttr,t3,hw];exact⟨j-1,o_,_,p+1,o_,rfl,hk2.trans k3,by have:=k3.z;omega,(k3.kw _ hn2).trans hg2',q_ t1,k_⟩
 ·have last:∀ (tm:Tm),nth tm 1=.ptr h.z 0 0->R (cS K (m+1)) 1000000000000 [.code sg] (IQ Cc (fun v h2=>∃ v' h3,cG v h2=(v',h3)/\(∃ b,v'=.bool b/\(ud t->b=true))/\HK h h3)) .normal ⟨tm,⟨[],.no,none,135⟩⟩ H2:=by
   intro tm t1;by_cases b2:t.kind=2
   ·have e2:decide (t.kind=2)=true:=T_ b2;simp only[go_sem,simprocAttr,sg,t1,hg2,e2,L_];exact ret _ (decide ((t.L.length:Int)=1)) H2 hk2 k_ fun q=>T_ (by have:=q.l2 b2;omega)
   ·have e2:decide (t.kind=2)=false:=D_ b2;by_cases b3:t.kind=3
    ·have e3:decide (t.kind=3)=true:=T_ b3;simp only[go_sem,simprocAttr,sg,t1,hg2,e2,e3,L_];exact ret _ (decide ((t.L.length:Int)<=8)) H2 hk2 k_ fun q=>T_ (by have:=q.l3 b3;omega)
    ·have e3:decide (t.kind=3)=false:=D_ b3;simp only[go_sem,simprocAttr,sg,t1,hg2,e2,e3,L_,Ke];exact ret _ (decide ((t.L.length:Int)=0)) H2 hk2 k_ fun q=>T_ (by have:=q.l0 b2 b3;omega)
  have tail:∀ (tm:Tm) (b4:Bool),nth tm 1=.ptr h.z 0 0->nth tm 4=.bool b4->(b4=true↔(t.kind=0∨t.kind=12))->R (cS K (m+1)) 1000000000000 [.code iO] (IQ Cc (fun v h2=>∃ v' h3,cG v h2=(v',h3)/\(∃ b,v'=.bool b/\(ud t->b=true))/\HK h h3)) .normal ⟨tm,⟨[],.no,none,135⟩⟩ H2:=by
   intro tm b4 t1 t4 hb4;have hno:∀ (tm:Tm),nth tm 2=.bool false->¬ ud t->IQ Cc (fun v h2=>∃ v' h3,cG v h2=(v',h3)/\(∃ b,v'=.bool b/\(ud t->b=true))/\HK h h3) .ret ⟨tm,⟨[],.no,none,135⟩⟩ H2:=fun tm t2 hn=>ret tm false H2 hk2 t2 fun q=>absurd q hn
   cases b4 with
   |true=>
    have hk:=hb4.1 rfl;by_cases c1:t.idx<0
    ·have e1:decide (t.idx<0)=true:=T_ c1;simp only[go_sem,simprocAttr,iO,t1,t4,hg2,e1];exact hno _ k_ fun q=>by have:=q.i0 hk;omega
    have e1:decide (t.idx<0)=false:=D_ c1;by_cases c2:t.idx > 2147483647
    ·have e2:decide (t.idx > 2147483647)=true:=T_ c2;simp only[go_sem,simprocAttr,iO,t1,t4,hg2,e1,e2];exact hno _ k_ fun q=>by have:=q.i0 hk;omega
    have e2:decide (t.idx > 2147483647)=false:=D_ c2;have c3:t.kind≠3:=o_;have e3:decide (t.kind=3)=false:=D_ c3;by_cases c4:(t.name==bs [])=true
    ·have hnm:=aaZ c4;have hs0:(t.name.size:Int) > 65536->False:=by rw[hnm];intro q;exact absurd q (by decide)
     have e5:decide ((t.name.size:Int) > 65536)=false:=D_ hs0;simp only[go_sem,simprocAttr,iO,t1,t4,hg2,e1,e2,e3,c4,e5];exact last _ (q_ t1)
    ·have c4:(t.name==bs [])=false:=by simpa using c4
     simp only[go_sem,simprocAttr,iO,t1,t4,hg2,e1,e2,e3,c4];exact hno _ k_ fun q=>by have:=q.name c3;rw[this]at c4;exact absurd c4 (by decide)
   |false=>
    have hk:¬ (t.kind=0∨t.kind=12):=fun q=>absurd (hb4.2 q) (by simp)
    by_cases c1:t.idx=0
    case neg=>
     have e1:decide (t.idx=0)=false:=D_ c1;simp only[go_sem,simprocAttr,iO,t1,t4,hg2,e1];exact hno _ k_ fun q=>by have:=q.i1 o_ o_;omega
    have e1:decide (t.idx=0)=true:=T_ c1;by_cases c3:t.kind=3
    ·have e3:decide (t.kind=3)=true:=T_ c3;by_cases c5:(t.name.size:Int) > 65536
     ·have e5:decide ((t.name.size:Int) > 65536)=true:=T_ c5;simp only[go_sem,simprocAttr,iO,t1,t4,hg2,e1,e3,e5];exact hno _ k_ fun q=>by have:=q.short;omega
     ·have e5:decide ((t.name.size:Int) > 65536)=false:=D_ c5;simp only[go_sem,simprocAttr,iO,t1,t4,hg2,e1,e3,e5];exact last _ (q_ t1)
    ·have e3:decide (t.kind=3)=false:=D_ c3;by_cases c4:(t.name==bs [])=true
     ·have hnm:=aaZ c4;have hs0:(t.name.size:Int) > 65536->False:=by rw[hnm];intro q;exact absurd q (by decide)
      have e5:decide ((t.name.size:Int) > 65536)=false:=D_ hs0;simp only[go_sem,simprocAttr,iO,t1,t4,hg2,e1,e3,c4,e5];exact last _ (q_ t1)
     ·have c4:(t.name==bs [])=false:=by simpa using c4
      simp only[go_sem,simprocAttr,iO,t1,t4,hg2,e1,e3,c4];exact hno _ k_ fun q=>by have:=q.name c3;rw[this]at c4;exact absurd c4 (by decide)
  by_cases z0:t.kind=0
  ·have f0:decide (t.kind=0)=true:=T_ z0;simp only[go_sem,simprocAttr,Am,t1,hg2,f0];exact tail _ true (q_ t1) k_ (by simp[z0])
  ·have f0:decide (t.kind=0)=false:=D_ z0;simp only[go_sem,simprocAttr,Am,t1,hg2,f0];exact tail _ (decide (t.kind=12)) (q_ t1) k_ (by simp[z0])
end
inductive NP:T->Prop
 |mk (t:T):ud t->(∀ x∈t.K,NP x)->NP t
theorem NP.node {t:T}(p:NP t):ud t:=by cases p;assumption
theorem NP.kid {t:T}(p:NP t):∀ x∈t.K,NP x:=by cases p;assumption
section
variable {K:aQ}{h:AH}
def I1091 (t:T)(b:Nat)(h0:AH)(j:Nat)(fr:AF)(h:AH):Prop:=∃ tm p,p+j=t.K.length/\fr=⟨tm,⟨[],.no,none,91⟩⟩/\HK h0 h/\b<h.z/\h.get b=some (.box (aJ t))/\nth tm 1=.ptr b 0 0/\nth tm 3=i_ (p:Int)
theorem c1091 (hK:aZ K):∀ (n m:Nat) (t:T) (h:AH),n+3<=m->size t<=n->n<=10000000->BT t->
  ∃ v h',cS K m (.fn 91 [] []) [enc t] .no h=some (.ret v,.no,h')/\(∃ b,v=.bool b/\(NP t->b=true))/\HK h h':=by
 intro n;induction n with
 |zero=>intro m t h _ hs;have:=bZ t;omega
 |succ n ih=>
  intro m t h hm hs hn bt;obtain⟨m,rfl⟩:∃ k,m=k+1:=⟨m-1,o_⟩
  have hsk:=eA t;have hlk:=bP t.K;refine bh hK ajy (ae (bR t h) (aC _)) ?_;obtain⟨H,hH⟩:∃ H:AH,H=h.new (.box (aJ t)):=⟨_,rfl⟩
  have k0:HK h H:=by rw[hH];exact HK.new _ _
  have n0:H.z=h.z+1:=by rw[hH,ala]
  have g0:H.get h.z=some (.box (aJ t)):=by rw[hH,aE]
  have ret:∀ (tm:Tm) (b:Bool) (H:AH),HK h H->nth tm 2=.bool b->(NP t->b=true)->IQ aaD (fun v h2=>∃ v' h3,cG v h2=(v',h3)/\(∃ b,v'=.bool b/\(NP t->b=true))/\HK h h3) .ret ⟨tm,⟨[],.no,none,91⟩⟩ H:=fun tm b H hk t2 hb=>
   ⟨rfl,rfl,.inr rfl,[.bool b],by simp only[go_sem,simprocAttr,aaD,t2],.bool b,_,aS (by intro l e;cases e) (aW _ _),⟨b,rfl,hb⟩,hk⟩
  obtain⟨v,H1,e1,⟨b,rfl,hb⟩,k1⟩:=c1135 (h:=H) hK (m-2) t bt o_;rw[show m-2+2=m by omega,aU t]at e1;have g1:=(k1.kw _ o_).trans g0;have nx1:=k1.z;unfold aJ at hH g0;rw[aU t];unfold agJ;simp only[go_sem,simprocAttr];rw[<- hH];clear hH;simp only[go_sem,simprocAttr,Lr,g0,e1];cases b with
  |false=>
   simp only[go_sem,simprocAttr];exact ret _ false H1 (k0.trans k1) k_ fun q=>absurd (hb q.node) (by simp)
  |true=>
   simp only[go_sem,simprocAttr,Ls];refine bB (I1091 t h.z h) t.K.length o_ ⟨_,0,z_ _,rfl,k0.trans k1,o_,g1,k_,k_⟩ ?_;rintro j fr H2 ⟨tm,p,hp,rfl,hk2,hn2,hg2,t1,t3⟩;have hg2':=hg2;unfold aJ at hg2;unfold PW;simp only[go_sem,simprocAttr,t1,t3,hg2,L_];refine aX (fun hlt=>?_) (fun hge=>?_)
   ·have hlt:p<t.K.length:=o_;have hget:t.K[p]?=some t.K[p]:=a_ hlt;have ha:=fun h=>aK bJ hget .i64 h
    have ele:=dN t.K[p];have hsm:=cL (m_ hget);have hw:=aP p o_;obtain⟨v,H3,e3,⟨b3,rfl,hb3⟩,k3⟩:=ih m t.K[p] H2 o_ o_ o_ (bt.kid _ (m_ hget));simp only[go_sem,simprocAttr,Lu,t1,t3,hg2,ha,ele,e3];cases b3 with
    |false=>
     simp only[go_sem,simprocAttr];exact ret _ false H3 (hk2.trans k3) k_ fun q=>absurd (hb3 (q.kid _ (m_ hget))) (by simp)
    |true=>
     simp only[go_sem,simprocAttr,t3,hw];exact⟨j-1,o_,_,p+1,o_,rfl,hk2.trans k3,by have:=k3.z;omega,(k3.kw _ hn2).trans hg2',q_ t1,k_⟩
   ·simp only[go_sem,simprocAttr,Lt];exact ret _ true H2 hk2 k_ fun _=>rfl
theorem afL (hK:aZ K)(n m:Nat)(t:T)(hm:n+4<=m)(hs:size t<=n)(hn:n<=10000000)(bt:BT t):
  ∃ v h',cS K m (.fn 50 [] []) [enc t] .no h=some (.ret v,.no,h')/\(∃ e:Int,v=i_ e/\(size t<=150->NP t->e=0))/\HK h h':=by
 obtain⟨m,rfl⟩:∃ k,m=k+1:=⟨m-1,o_⟩
 refine bh hK ajS (ae (bR t h) (aC _)) ?_;obtain⟨H,hH⟩:∃ H:AH,H=h.new (.box (aJ t)):=⟨_,rfl⟩
 have k0:HK h H:=by rw[hH];exact HK.new _ _
 have n0:H.z=h.z+1:=by rw[hH,ala]
 have g0:H.get h.z=some (.box (aJ t)):=by rw[hH,aE]
 have ret:∀ (tm:Tm) (e:Int) (H1:AH),HK h H1->nth tm 2=i_ e->(size t<=150->NP t->e=0)->IQ aaK (fun v h2=>∃ v' h3,cG v h2=(v',h3)/\(∃ e:Int,v'=i_ e/\(size t<=150->NP t->e=0))/\HK h h3) .ret ⟨tm,⟨[],.no,none,50⟩⟩ H1:=fun tm e H1 hk t2 he=>
  ⟨rfl,rfl,.inr rfl,[i_ e],by simp only[go_sem,simprocAttr,aaK,t2],i_ e,_,aS (by intro l e;cases e) (aG _ _ _),⟨e,rfl,he⟩,hk⟩
 obtain⟨v,H1,e1,⟨x1,rfl,h1⟩,k1⟩:=c1089 hK 4096 n m t H o_ hs o_;obtain⟨v,H2,e2,⟨x2,rfl,h20,h21⟩,k2⟩:=c1090 hK n m 202 t H1 o_ hs o_ o_ o_;obtain⟨v,H3,e3,⟨b3,rfl,h3⟩,k3⟩:=c1091 hK n m t H2 o_ hs o_ bt;have nx1:=k1.z;have nx2:=k2.z;have g1:=(k1.kw _ o_).trans g0;have g2:=(k2.kw _ o_).trans g1;rw[aU t]at e1 e2 e3;unfold aJ at hH g0 g1 g2;rw[aU t];unfold ag3;simp only[go_sem,simprocAttr];rw[<- hH];clear hH;simp only[go_sem,simprocAttr,MR,g0,e1];refine aX (fun c1=>?_) (fun c1=>?_)
 ·simp only[go_sem,simprocAttr];exact ret _ 5 H1 (k0.trans k1) k_ fun q _=>by have:=h1 o_;omega
 ·simp only[go_sem,simprocAttr,MS,g1,e2];refine aX (fun c2=>?_) (fun c2=>?_)
  ·simp only[go_sem,simprocAttr];exact ret _ 7 H2 ((k0.trans k1).trans k2) k_ fun q _=>by omega
  ·simp only[go_sem,simprocAttr,MT,g2,e3];cases b3 with
   |false=>
    simp only[go_sem,simprocAttr];exact ret _ 3 H3 (((k0.trans k1).trans k2).trans k3) k_ fun _ q=>absurd (h3 q) (by simp)
   |true=>
    simp only[go_sem,simprocAttr,MU];exact ret _ 0 H3 (((k0.trans k1).trans k2).trans k3) k_ fun _ _=>rfl
end
section
variable {K:aQ}{h:AH}
def AddP (t:T)(gs:List NV)(ts:List T)(v:AV):Prop:=∃ (gs':List NV) (r e:Int),v=.tup [.agg [.ls (gs'.map aT)],i_ r,i_ e]/\
 (e=0->∃ ts',Wf gs' ts'/\gs'.length<=65536/\(∀ x∈ts',BT x)/\(∃ l,gs'=gs++l)/\(∃ l,ts'=ts++l)/\At ts' r t/\gs'.length<=gs.length+size t)
theorem zc (t:T)(gs:List NV)(h:AH):∃ H:AH,H=((h.new (.box [.ls (gs.map aT)])).new (.box (aJ t))).new (.box [.nl])/\HK h H/\H.z=h.z+3/\H.get h.z=some (.box [.ls (gs.map aT)])/\H.get (h.z+1)=some (.box (aJ t))/\H.get (h.z+1+1)=some (.box [.nl]):=by
 refine⟨_,rfl,((HK.new _ _).add _).add _,by simp only[ala],?_,?_,?_⟩
 ·rw[aL (by simp only[ala];omega),aL (by simp only[ala];omega),aE]
 ·rw[aL (by simp only[ala];omega)];have:h.z+1=(h.new (.box [.ls (gs.map aT)])).z:=by simp only[ala]
  rw[this,aE]
 ·have:h.z+1+1=((h.new (.box [.ls (gs.map aT)])).new (.box (aJ t))).z:=by simp only[ala]
  rw[this,aE]
theorem c1051 (hK:aZ K)(n m:Nat)(t:T)(gs:List NV)(ts:List T)(hm:n+11<=m)(hs:size t<=n)(tok:TOK t)(bt:BT t)(wf:Wf gs ts)(bts:∀ x∈ts,BT x)(hn:gs.length+size t<=90000):
  ∃ v h',cS K m (.fn 51 [] []) [.agg [.ls (gs.map aT)],enc t] .no h=some (.ret v,.no,h')/\AddP t gs ts v/\HK h h':=by
 obtain⟨m,rfl⟩:∃ k,m=k+1:=⟨m-1,o_⟩
 refine bh hK ajR (ae (iA gs h) (ae (bR t h) (aC _))) ?_;have hb:∀ (g:List NV) (H:AH),dB H 1 (.agg [.ls (g.map aT)])=.val (.ptr H.z 0 0) (H.new (.box [.ls (g.map aT)])):=fun g H=>bN _ 1 rfl
 have hbz:∀ H:AH,bT H [.nl] []=.val (.agg [.nl]) H:=fun _=>rfl
 obtain⟨H,hH,k0,n0,g2,g3,g4⟩:=zc t gs h;obtain⟨v,H1,e1,⟨gs',ts',r,rfl,wf',bts',ex1,ex2,ar,hl⟩,k1⟩:=c1092 hK n m t gs ts H o_ hs tok bt wf bts hn;have nx1:=k1.z;have g41:=(k1.kw _ o_).trans g4;obtain⟨H2,hH2⟩:∃ H2:AH,H2=(H1.new (.box [.nl])).set H1.z (.box [.ls (gs'.map aT)]):=⟨_,rfl⟩
 have k2:HK H1 H2:=by rw[hH2];exact HK.new_set _ _ _
 have g7:H2.get H1.z=some (.box [.ls (gs'.map aT)]):=by rw[hH2,aH]
 have g42:=(k2.kw _ o_).trans g41;have k02:=(k0.trans k1).trans k2;rw[aU t]at e1;unfold aJ at hH g3;rw[aU t];unfold ag2;simp only[go_sem,simprocAttr,hb,ala];rw[<- hH];clear hH;simp only[go_sem,simprocAttr,MO,g2,g3,e1];rw[<- hH2];clear hH2;simp only[go_sem,simprocAttr,MP,g7,L_];refine aX (fun c1=>?_) (fun c1=>?_)
 ·simp only[go_sem,simprocAttr,hbz,g42];exact⟨rfl,rfl,.inr rfl,[.agg [.nl],i_ 0,i_ 6],by simp only[go_sem,simprocAttr,aaJ],.tup [.agg [.ls (([]:List NV).map aT)],i_ 0,i_ 6],_,bz (ae (xR _) (ae (aG _ _ _) (ae (aG _ _ _) (aC _)))),⟨[],0,6,rfl,fun q=>absurd q (by decide)⟩,k02.set _ o_⟩
 ·simp only[go_sem,simprocAttr,MQ,g7,g42];exact⟨rfl,rfl,.inr rfl,[.agg [.ls (gs'.map aT)],i_ r,i_ 0],by simp only[go_sem,simprocAttr,aaJ],.tup [.agg [.ls (gs'.map aT)],i_ r,i_ 0],_,bz (ae (iA _ _) (ae (aG _ _ _) (ae (aG _ _ _) (aC _)))),⟨gs',r,0,rfl,fun _=>⟨ts',wf',o_,bts',ex1,ex2,ar,hl⟩⟩,k02.set _ o_⟩
theorem c1026 (hK:aZ K)(n m:Nat)(t:T)(gs:List NV)(ts:List T)(hm:n+12<=m)(hs:size t<=n)(hn0:n<=10000000)(tok:TOK t)(bt:BT t)(wf:Wf gs ts)(bts:∀ x∈ts,BT x)(hn:gs.length+size t<=90000):
  ∃ v h',cS K m (.fn 26 [] []) [.agg [.ls (gs.map aT)],enc t] .no h=some (.ret v,.no,h')/\AddP t gs ts v/\HK h h':=by
 obtain⟨m,rfl⟩:∃ k,m=k+1:=⟨m-1,o_⟩
 refine bh hK aj2 (ae (iA gs h) (ae (bR t h) (aC _))) ?_;have hb:∀ (g:List NV) (H:AH),dB H 1 (.agg [.ls (g.map aT)])=.val (.ptr H.z 0 0) (H.new (.box [.ls (g.map aT)])):=fun g H=>bN _ 1 rfl
 have hbz:∀ H:AH,bT H [.nl] []=.val (.agg [.nl]) H:=fun _=>rfl
 obtain⟨H,hH,k0,n0,g2,g3,g4⟩:=zc t gs h;obtain⟨v,H1,e1,⟨e,rfl,_⟩,k1⟩:=afL (h:=H) hK n m t o_ hs hn0 bt;obtain⟨v,H2,e2,⟨gs',r,x,rfl,hx⟩,k2⟩:=c1051 (h:=H1) hK n m t gs ts o_ hs tok bt wf bts hn;have nx1:=k1.z;have nx2:=k2.z;have g21:=(k1.kw _ o_).trans g2;have g31:=(k1.kw _ o_).trans g3;have g41:=(k1.kw _ o_).trans g4;have g42:=(k2.kw _ o_).trans g41;rw[aU t]at e1 e2;unfold aJ at hH g3 g31;rw[aU t];unfold ahd;simp only[go_sem,simprocAttr,hb,ala];rw[<- hH];clear hH;simp only[go_sem,simprocAttr,NM,g3,e1];by_cases h0:e=0
 ·have d0:decide (e=0)=true:=T_ h0;simp only[go_sem,simprocAttr,d0,NN,g21,g31,e2,g42];exact⟨rfl,rfl,.inr rfl,[.agg [.ls (gs'.map aT)],i_ r,i_ x],by simp only[go_sem,simprocAttr,aaO],.tup [.agg [.ls (gs'.map aT)],i_ r,i_ x],_,bz (ae (iA _ _) (ae (aG _ _ _) (ae (aG _ _ _) (aC _)))),⟨gs',r,x,rfl,hx⟩,((k0.trans k1).trans k2).set _ o_⟩
 ·have d0:decide (e=0)=false:=D_ h0;simp only[go_sem,simprocAttr,d0,hbz,g41];exact⟨rfl,rfl,.inr rfl,[.agg [.nl],i_ 0,i_ e],by simp only[go_sem,simprocAttr,aaO],.tup [.agg [.ls (([]:List NV).map aT)],i_ 0,i_ e],_,bz (ae (xR _) (ae (aG _ _ _) (ae (aG _ _ _) (aC _)))),⟨[],0,e,rfl,fun q=>absurd q h0⟩,(k0.trans k1).set _ o_⟩
end
section
variable {K:aQ}{h:AH}
def I1041 (gs:List NV)(b:Nat)(h0:AH)(j:Nat)(fr:AF)(h:AH):Prop:=∃ tm p,p+j=gs.length/\fr=⟨tm,⟨[],.no,none,41⟩⟩/\HK h0 h/\b+1<h.z/\h.get b=some (.box [.ls (gs.map aT)])/\h.get (b+1)=some (.box [.ls (gs.map aT)])/\nth tm 2=.ptr b 0 0/\nth tm 3=.ptr (b+1) 0 0/\nth tm 5=i_ (p:Int)
theorem c1041 (hK:aZ K)(m:Nat)(gs:List NV)(hl:gs.length<1000000)(bg:∀ x∈gs,BN x):
  ∃ v h',cS K (m+4) (.fn 41 [] []) [.agg [.ls (gs.map aT)],.agg [.ls (gs.map aT)]] .no h=some (.ret v,.no,h')/\v=.bool true/\HK h h':=by
 refine bh hK ajW (ae (iA gs h) (ae (iA gs h) (aC _))) ?_;have hb:∀ (g:List NV) (H:AH),dB H 1 (.agg [.ls (g.map aT)])=.val (.ptr H.z 0 0) (H.new (.box [.ls (g.map aT)])):=fun g H=>bN _ 1 rfl
 obtain⟨H,hH⟩:∃ H:AH,H=(h.new (.box [.ls (gs.map aT)])).new (.box [.ls (gs.map aT)]):=⟨_,rfl⟩
 have n1:=ala h (.box [.ls (gs.map aT)]);have k0:HK h H:=by rw[hH];exact(HK.new _ _).add _
 have n0:H.z=h.z+2:=by rw[hH,ala,n1]
 have g2:H.get h.z=some (.box [.ls (gs.map aT)]):=by rw[hH,aL o_,aE]
 have g3:H.get (h.z+1)=some (.box [.ls (gs.map aT)]):=by rw[hH,<- n1,aE]
 have d1:decide ((gs.length:Int)=(gs.length:Int))=true:=T_ rfl;unfold ag7;simp only[go_sem,simprocAttr,hb,n1];rw[<- hH];clear hH;simp only[go_sem,simprocAttr,Nc,g2,g3,L_,Ng];refine bB (I1041 gs h.z h) gs.length o_ ⟨_,0,z_ _,rfl,k0,o_,g2,g3,k_,k_,k_⟩ ?_;rintro j fr H2 ⟨tm,p,hp,rfl,hk,hn,g2,g3,t2,t3,t5⟩;unfold Qn;simp only[go_sem,simprocAttr,t2,t5,g2,L_];refine aX (fun hlt=>?_) (fun hge=>?_)
 ·have hlt:p<gs.length:=o_;have hget:gs[p]?=some gs[p]:=a_ hlt;have ha:=fun h=>aK lj hget .i64 h
  have hl5:∀ h:AH,cj (.vptr (aT gs[p])) h true 5=some (aT gs[p]):=fun h=>cI rfl rfl h
  have hbn:=bg _ (m_ hget);have hw:=aP p o_;obtain⟨v,H3,e3,⟨b,rfl,hbb⟩,k3⟩:=aa3 (h:=H2) hK m gs[p] gs[p] hbn hbn;have hbt:b=true:=hbb.2 rfl;subst hbt;have hv:∀ n:NV,aT n=.agg [i_ n.kind,i_ n.idx,.str n.name,.ls (n.L.map ba),.ls (n.K.map AG.aO)]:=fun _=>rfl
  have bqn:AV.beq (aT gs[p]) (aT gs[p])=true:=bU (eQ _);have nx:=k3.z;rw[hv gs[p]]at hl5 e3 ha bqn;simp only[go_sem,simprocAttr,Ni,t2,t3,t5,g2,g3,ha,hl5,e3,hw];exact⟨j-1,o_,_,p+1,o_,rfl,hk.trans k3,o_,(k3.kw _ o_).trans g2,(k3.kw _ o_).trans g3,q_ t2,q_ t3,k_⟩
 ·simp only[go_sem,simprocAttr,Nh];exact⟨rfl,rfl,.inr rfl,[.bool true],by simp only[go_sem,simprocAttr,afh],.bool true,_,aS (by intro l e;cases e) (aW _ _),rfl,hk⟩
end
def zA:AV:=.agg [i_ 0,i_ 0,.str (bs []),.nl,.nl]
def t0:T:=.mk 0 0 (bs []) [] []
theorem abh:∀ p:Nat,(AV.ls (List.replicate p zA)).norm=.ls ((List.replicate p t0).map enc):=by
 intro p;have:AV.ald (List.replicate p zA)=(List.replicate p t0).map enc:=by
  induction p with
  |zero=>rfl
  |succ p ih=>
   rw[List.replicate_succ,List.replicate_succ,List.map_cons,AV.ald,ih];congr 1
 simp only[AV.norm,this]
theorem ac8 {base p:Nat}{h:AH}{V:AV}(k i:Int)(nm:ByteArray)(ls:List LL)(o:Own base 5 true h V (List.replicate p zA)):
  ∃ h',cE (.agg [i_ k,i_ i,.str nm,.ls (ls.map ba),V]) h=(enc (.mk k i nm ls (List.replicate p t0)),h')/\h'.z=h.z/\∀ j,j<base->h'.get j=h.get j:=by
 have key:∀ x h',cP V h=(x,h')->x.norm=.ls ((List.replicate p t0).map enc)->cE (.agg [i_ k,i_ i,.str nm,.ls (ls.map ba),V]) h=(enc (.mk k i nm ls (List.replicate p t0)),h'):=by
  intro x h' e hx;have e2:cC [i_ k,i_ i,.str nm,.ls (ls.map ba),V] h=([i_ k,i_ i,.str nm,.ls (ls.map ba),x],h'):=by
   simp only[cC,dw (show(AV.int .i64 k).free=true from rfl),dw (show(AV.int .i64 i).free=true from rfl),dw (show(AV.str nm).free=true from rfl),dw (show(AV.ls (ls.map ba)).free=true by simp only[AV.free];exact bE hJ ls),e]
  show((AV.agg (cC _ h).1).norm,(cC _ h).2)=_;rw[e2,xK (vQ ls) hx]
 rcases own_shut o (fun h=>by cases h) with⟨rfl,e,e2⟩|⟨k',g,e1,e2,e3,e4⟩
 ·have:p=0:=by simpa using e
  subst this;exact⟨h,key _ _ e2 rfl,rfl,fun _ _=>rfl⟩
 ·exact⟨_,key _ _ e2 (abh p),alb _ _ _,fun j hj=>aB o_⟩
theorem acn:NP t0:=.mk t0 ⟨rfl,by simp[t0,T.L],fun _=>⟨by decide,by decide⟩,fun _ _=>rfl,fun _=>rfl,by decide,fun q=>absurd q (by decide),fun q=>absurd q (by decide),fun _ _=>rfl⟩ (by simp[t0,T.K])
theorem Bu:BT t0:=.mk t0 (by decide) (by decide) (by simp[t0,T.L]) (by decide) (by decide) (by simp[t0,T.K])
theorem NOK.np {n:NV}(q:NOK n):NP (.mk n.kind n.idx n.name n.L (List.replicate n.K.length t0)):=by
 obtain⟨a1,a2,a3,a4,a5,a6,a7,a8,a9,a10,a11⟩:=q.nd;refine .mk _ ⟨?_,a11,fun _=>⟨a4,by show n.idx<=2147483647;omega⟩,a6,a9,by show n.name.size<=65536;omega,a10.1,a10.2.1,fun q1 q2=>by show n.L.length=0;rw[a10.2.2 q1 q2];rfl⟩ fun x hx=>?_
 ·show mR n.kind=((List.replicate n.K.length t0).length:Int);rw[List.length_replicate,RU a1 a2];exact a3.symm
 ·have hx:x∈List.replicate n.K.length t0:=hx;rw[List.eq_of_mem_replicate hx];exact acn
theorem NOK.bt {n:NV}(q:NOK n):BT (.mk n.kind n.idx n.name n.L (List.replicate n.K.length t0)):=by
 obtain⟨a1,a2,a3,a4,a5,a6,a7,a8,a9,a10,a11⟩:=q.nd;refine .mk _ (by show n.name.size<10000000;omega) ?_ (fun l hl=>by have:=(a11 l hl).len;omega) (by show -9223372036854775808<=n.idx;omega) (by show n.idx<9223372036854775808;omega) fun x hx=>?_
 ·show n.L.length<10000000;by_cases k2:n.kind=2
  ·rw[a10.1 k2];decide
  ·by_cases k3:n.kind=3
   ·have:=a10.2.1 k3;omega
   ·rw[a10.2.2 k2 k3];decide
 ·have hx:x∈List.replicate n.K.length t0:=hx;rw[List.eq_of_mem_replicate hx];exact Bu
theorem QX (p:Nat):bO (List.replicate p t0)=p:=by
 induction p with
 |zero=>rfl
 |succ p ih=>rw[List.replicate_succ,bO,ih];simp[t0,size,bO];omega
section
variable {K:aQ}{h:AH}
def I1078 (n:NV)(b:Nat)(h0:AH)(j:Nat)(fr:AF)(h:AH):Prop:=∃ tm p V,p+j=n.K.length/\fr=⟨tm,⟨[],.no,none,78⟩⟩/\HK h0 h/\b+2<=h.z/\h.get b=some (.box [i_ n.kind,i_ n.idx,.str n.name,.ls (n.L.map ba),.ls (n.K.map AG.aO)])/\
 h.get (b+1)=some (.box [i_ n.kind,i_ n.idx,.str n.name,.ls (n.L.map ba),V])/\Own (b+2) 5 true h V (List.replicate p zA)/\nth tm 1=.ptr b 0 0/\nth tm 3=.ptr (b+1) 0 0/\nth tm 4=i_ (p:Int)
theorem c1078 (hK:aZ K)(m:Nat)(hm:100<=m){n:NV}(q:NOK n):
  ∃ v h',cS K m (.fn 78 [] []) [aT n] .no h=some (.ret v,.no,h')/\v=.bool true/\HK h h':=by
 obtain⟨m,rfl⟩:∃ k,m=k+1:=⟨m-1,o_⟩
 refine bh hK ajE (ae (jT n h) (aC _)) ?_;have hkl:n.K.length<=3:=by
  have:=q.nd.K;unfold dW at this;split at this
  ·omega
  ·split at this
   ·omega
   ·split at this<;>omega
 obtain⟨H,hH⟩:∃ H:AH,H=h.new (.box [i_ n.kind,i_ n.idx,.str n.name,.ls (n.L.map ba),.ls (n.K.map AG.aO)]):=⟨_,rfl⟩
 have k0:HK h H:=by rw[hH];exact HK.new _ _
 have n0:H.z=h.z+1:=by rw[hH,ala]
 have g1:H.get h.z=some (.box [i_ n.kind,i_ n.idx,.str n.name,.ls (n.L.map ba),.ls (n.K.map AG.aO)]):=by rw[hH,aE]
 have gq:(H.new (.box [i_ 0,i_ 0,.str (bs []),.nl,.nl])).get (h.z+1)=some (.box [i_ 0,i_ 0,.str (bs []),.nl,.nl]):=by rw[<- n0,aE]
 obtain⟨H1,hH1⟩:∃ H1:AH,H1=(H.new (.box [i_ 0,i_ 0,.str (bs []),.nl,.nl])).set (h.z+1) (.box [i_ n.kind,i_ n.idx,.str n.name,.ls (n.L.map ba),.nl]):=⟨_,rfl⟩
 have k1:HK h H1:=by rw[hH1];exact(k0.add _).set _ o_
 have n1:H1.z=h.z+2:=by rw[hH1,alb,ala,n0]
 have g11:H1.get h.z=some (.box [i_ n.kind,i_ n.idx,.str n.name,.ls (n.L.map ba),.ls (n.K.map AG.aO)]):=by rw[hH1,aB o_,aL o_];exact g1
 have g31:H1.get (h.z+1)=some (.box [i_ n.kind,i_ n.idx,.str n.name,.ls (n.L.map ba),.nl]):=by rw[hH1,aH]
 unfold agP;simp only[go_sem,simprocAttr,aa5];rw[<- hH];clear hH;simp only[go_sem,simprocAttr,LN,g1,wR,n0,gq];rw[<- hH1];clear hH1;have d3:decide ((n.K.length:Int) > 3)=false:=d_;simp only[go_sem,simprocAttr,LO,g11,L_,d3,LP];refine bB (I1078 n h.z h) n.K.length o_ ⟨_,0,.nl,z_ _,rfl,k1,o_,g11,g31,fp _ _ _ _,k_,k_,k_⟩ ?_;clear g11 g31 k1 n1 g1 gq k0 n0 H1 H;rintro j fr H2 ⟨tm,p,V,hp,rfl,hk,hn,g1,g3,o,t1,t3,t4⟩;unfold Qd;simp only[go_sem,simprocAttr,t1,t4,g1,L_];refine aX (fun hlt=>?_) (fun hge=>?_)
 ·have hlt:p<n.K.length:=o_;have hw:=aP p o_;obtain⟨V',H3,ea,o3,hn3,k3,_⟩:=dD (x:=zA) (z:=[i_ 0,i_ 0,.str (bs []),.nl,.nl]) (bytes:=80) o hn rfl rfl rfl rfl (by rw[List.length_replicate];omega) (by decide);obtain⟨_,v1,v2⟩:=kD o3;have g33:=(k3 (h.z+1) o_).trans g3;have hbz:∀ H:AH,bT H [i_ 0,i_ 0,.str (bs []),.nl,.nl] []=.val zA H:=fun _=>rfl
  have hlt2:∀ H:AH,fY true true 5 [i_ 0,i_ 0,.str (bs []),.nl,.nl] 1 [(0,5,zA)] H=.val (.clip [zA]) H:=fun _=>rfl
  simp only[go_sem,simprocAttr,LS,t3,g3,hbz,dT,hlt2,ea,g33,v1,v2,t4,hw];refine⟨j-1,o_,_,p+1,V',o_,rfl,⟨by rw[alb];have:=hk.z;omega,fun k q=>by rw[aB o_,k3 k o_];exact hk.kw k q⟩,by rw[alb];omega,by rw[aB o_,k3 _ o_];exact g1,aH _ _ _,?_,q_ t1,q_ t3,k_⟩;rw[List.replicate_succ'];exact cd o3 (by rw[alb];exact e_ _) (fun k q1 q2=>aB o_)
 ·have hpp:p=n.K.length:=o_;subst hpp;obtain⟨H3,ec,n3,k3⟩:=ac8 n.kind n.idx n.name n.L o;have hsz:size (.mk n.kind n.idx n.name n.L (List.replicate n.K.length t0))=1+n.K.length:=by simp only[size,QX]
  obtain⟨v,H4,e4,⟨e,rfl,he⟩,k4⟩:=afL (h:=H3) hK 10 m (.mk n.kind n.idx n.name n.L (List.replicate n.K.length t0)) o_ o_ o_ q.bt;have he:=he o_ q.np;subst he;rw[<- jo (f:=50) (c:=[]) (ae ec (aC _)) (ae (bR _ _) (aC _))]at e4;have d0:decide ((0:Int)=0)=true:=rfl;simp only[go_sem,simprocAttr,LR,t3,g3,e4];exact⟨rfl,rfl,.inr rfl,[.bool true],by simp only[go_sem,simprocAttr,ae7],.bool true,_,aS (by intro l e;cases e) (aW _ _),rfl,⟨by have:=hk.z;have:=k4.z;omega,fun k q=>(k4.kw k (by have:=hk.z;omega)).trans ((k3 k o_).trans (hk.kw k q))⟩⟩
end
