/- MachineKeeps: guards: levels of a term, the form of a node (no condition). -/
import Derived.Test.YtocdlbblemjabaaGreatDoorBo
namespace Go.Proofs.YtocdlbblemjabaaGreatDoor
open Go.AG Go.AG.MK
section
variable {K:aQ}{h:AH}
def afs (l:LL)(h0:AH)(v:AV)(h':AH):Prop:=(∃ e:Int,v=i_ e/\(e=0->VL l))/\HK h0 h'
def I71a (l:LL)(b:Nat)(q1 q2:Int)(h1:AH)(j:Nat)(fr:AF)(h:AH):Prop:=∃ tm p,p+j=l.vars.length/\fr=⟨tm,⟨[],.no,none,127⟩⟩/\h=h1/\nth tm 1=i_ q1/\nth tm 2=i_ q2/\nth tm 3=.ptr b 0 0/\nth tm 7=i_ (p:Int)
def I71b (l:LL)(b:Nat)(q1 q2:Int)(h1:AH)(j:Nat)(fr:AF)(h:AH):Prop:=∃ tm p,p+j=l.vars.length/\fr=⟨tm,⟨[],.no,none,127⟩⟩/\h=h1/\nth tm 1=i_ q1/\nth tm 2=i_ q2/\nth tm 3=.ptr b 0 0/\nth tm 8=i_ (p:Int)
theorem c71 (hK:aZ K)(m:Nat)(l:LL)(q1 q2:Int)(hl:l.vars.length<10000000):
  ∃ v h',cS K (m+2) (.fn 127 [] []) [ba l,i_ q1,i_ q2] .no h=some (.ret v,.no,h')/\afs l h v h':=by
 refine bh hK cf71 (ae (jz l h) (ae (aG .i64 q1 h) (ae (aG .i64 q2 h) (aC _)))) ?_;obtain⟨H,hH⟩:∃ H:AH,H=h.new (.box [i_ l.c,.ls (l.vars.map bV)]):=⟨_,rfl⟩
 have k0:HK h H:=by rw[hH];exact HK.new _ _
 have n0:H.z=h.z+1:=by rw[hH,ala]
 have g0:H.get h.z=some (.box [i_ l.c,.ls (l.vars.map bV)]):=by rw[hH,aE]
 obtain⟨v,H1,e1,⟨b,rfl,hb⟩,k1⟩:=c21 (h:=H) hK m l hl;have g1:=(k1.kw _ o_).trans g0;have ret:∀ (tm:Tm) (e:Int) (H1:AH),HK h H1->nth tm 6=i_ e->(e=0->VL l)->IQ r71 (fun v h2=>∃ v' h3,cG v h2=(v',h3)/\afs l h v' h3) .ret ⟨tm,⟨[],.no,none,127⟩⟩ H1:=fun tm e H1 hk t6 he=>
  ⟨rfl,rfl,.inr rfl,[i_ e],by simp only[go_sem,simprocAttr,r71,t6],i_ e,_,aS (by intro l e;cases e) (aG _ _ _),⟨⟨e,rfl,he⟩,hk⟩⟩
 unfold b71;simp only[go_sem,simprocAttr,pB];rw[<- hH];clear hH;simp only[go_sem,simprocAttr,aeg,g0,lp,e1];cases b with
 |false=>
  simp only[go_sem,simprocAttr];exact ret _ 3 H1 (k0.trans k1) k_ o_
 |true=>
  have vl:=hb.1 rfl;simp only[go_sem,simprocAttr,aeh];refine bB (I71a l h.z q1 q2 H1) l.vars.length o_ ⟨_,0,z_ _,rfl,rfl,k_,k_,k_,k_⟩ ?_;rintro j fr H2 ⟨tm,p,hp,rfl,rfl,t1,t2,t3,t7⟩;unfold afT;simp only[go_sem,simprocAttr,t3,t7,g1,L_];refine aX (fun hlt=>?_) (fun hge=>?_)
  ·have hlt:p<l.vars.length:=o_;have hget:l.vars[p]?=some l.vars[p]:=a_ hlt;have ha:=fun h=>aK cV hget .i64 h
   have hv:bV l.vars[p]=.agg [i_ l.vars[p].idx,i_ l.vars[p].plus]:=rfl;have hw:=aP p o_;by_cases c1:l.vars[p].idx≥0
   ·have d1:decide (l.vars[p].idx≥0)=true:=T_ c1;by_cases c2:l.vars[p].idx≥q1
    ·have d2:decide (l.vars[p].idx≥q1)=true:=T_ c2;simp only[go_sem,simprocAttr,Tv,t1,t3,t7,g1,ha,hv,d1,d2];exact ret _ 15 _ (k0.trans k1) k_ o_
    ·have d2:decide (l.vars[p].idx≥q1)=false:=D_ c2;simp only[go_sem,simprocAttr,Tv,t1,t3,t7,g1,ha,hv,d1,d2,hw];exact⟨j-1,o_,_,p+1,o_,rfl,rfl,q_ t1,q_ t2,q_ t3,k_⟩
   ·have d1:decide (l.vars[p].idx≥0)=false:=D_ c1;simp only[go_sem,simprocAttr,Tv,t3,t7,g1,ha,hv,d1,hw];exact⟨j-1,o_,_,p+1,o_,rfl,rfl,q_ t1,q_ t2,q_ t3,k_⟩
  ·simp only[go_sem,simprocAttr,aei];refine bB (I71b l h.z q1 q2 H2) l.vars.length o_ ⟨_,0,z_ _,rfl,rfl,q_ t1,q_ t2,q_ t3,k_⟩ ?_;clear t1 t2 t3 t7 tm;rintro j fr H3 ⟨tm,p,hp,rfl,rfl,t1,t2,t3,t8⟩;unfold afS;simp only[go_sem,simprocAttr,t3,t8,g1,L_];refine aX (fun hlt=>?_) (fun hge=>?_)
   ·have hlt:p<l.vars.length:=o_;have hget:l.vars[p]?=some l.vars[p]:=a_ hlt;have ha:=fun h=>aK cV hget .i64 h
    have hv:bV l.vars[p]=.agg [i_ l.vars[p].idx,i_ l.vars[p].plus]:=rfl;have hw:=aP p o_;by_cases c1:l.vars[p].idx<0
    ·have d1:decide (l.vars[p].idx<0)=true:=T_ c1;by_cases c2:IntKind.wrap .i64 (-1-l.vars[p].idx)≥q2
     ·have d2:decide (IntKind.wrap .i64 (-1-l.vars[p].idx)≥q2)=true:=T_ c2;simp only[go_sem,simprocAttr,Tu,t2,t3,t8,g1,ha,hv,d1,d2];exact ret _ 23 _ (k0.trans k1) k_ o_
     ·have d2:decide (IntKind.wrap .i64 (-1-l.vars[p].idx)≥q2)=false:=D_ c2;simp only[go_sem,simprocAttr,Tu,t2,t3,t8,g1,ha,hv,d1,d2,hw];exact⟨j-1,o_,_,p+1,o_,rfl,rfl,q_ t1,q_ t2,q_ t3,k_⟩
    ·have d1:decide (l.vars[p].idx<0)=false:=D_ c1;simp only[go_sem,simprocAttr,Tu,t3,t8,g1,ha,hv,d1,hw];exact⟨j-1,o_,_,p+1,o_,rfl,rfl,q_ t1,q_ t2,q_ t3,k_⟩
   ·simp only[go_sem,simprocAttr,aej];exact ret _ 0 _ (k0.trans k1) k_ (fun _=>vl)
structure qM (t:T):Prop where
 k0:0<=t.kind
 k1:t.kind<13
 K:(t.K.length:Int)=dW t.kind
 idx:t.kind≠0->t.kind≠12->t.idx=0
 name:t.kind≠3->t.name=bs []
 l2:t.kind=2->t.L.length=1
 l0:t.kind≠2->t.kind≠3->t.L=[]
theorem aaZ {s:ByteArray}(h:(s==bs [])=true):s=bs []:=by rw[db]at h;exact of_decide_eq_true h
theorem c69 (hK:aZ K)(m:Nat)(t:T):
  ∃ v h',cS K (m+2) (.fn 125 [] []) [enc t] .no h=some (.ret v,.no,h')/\(∃ b,v=.bool b/\(b=true->qM t))/\HK h h':=by
 refine bh hK cf69 (ae (bR t h) (aC _)) ?_;obtain⟨H,hH⟩:∃ H:AH,H=h.new (.box (aJ t)):=⟨_,rfl⟩
 have k0:HK h H:=by rw[hH];exact HK.new _ _
 have g0:H.get h.z=some (.box (aJ t)):=by rw[hH,aE]
 have no:∀ (tm:Tm),nth tm 2=.bool false->IQ r69 (fun v h2=>∃ v' h3,cG v h2=(v',h3)/\(∃ b,v'=.bool b/\(b=true->qM t))/\HK h h3) .ret ⟨tm,⟨[],.no,none,125⟩⟩ H:=fun tm t2=>
  ⟨rfl,rfl,.inr rfl,[.bool false],by simp only[go_sem,simprocAttr,r69,t2],.bool false,_,aS (by intro l e;cases e) (aW _ _),⟨false,rfl,by simp⟩,k0⟩
 have yes:∀ (tm:Tm) (b:Bool),nth tm 2=.bool b->(b=true->qM t)->IQ r69 (fun v h2=>∃ v' h3,cG v h2=(v',h3)/\(∃ b,v'=.bool b/\(b=true->qM t))/\HK h h3) .ret ⟨tm,⟨[],.no,none,125⟩⟩ H:=fun tm b t2 hb=>
  ⟨rfl,rfl,.inr rfl,[.bool b],by simp only[go_sem,simprocAttr,r69,t2],.bool b,_,aS (by intro l e;cases e) (aW _ _),⟨b,rfl,hb⟩,k0⟩
 have hc:=c116 (h:=H) hK m t.kind;unfold aJ at hH g0;rw[aU t];unfold b69;simp only[go_sem,simprocAttr];rw[<- hH];clear hH;by_cases a1:t.kind<0
 ·have d1:decide (t.kind<0)=true:=T_ a1;simp only[go_sem,simprocAttr,GW,g0,d1];exact no _ k_
 have d1:decide (t.kind<0)=false:=D_ a1;by_cases a2:t.kind≥13
 ·have d2:decide (t.kind≥13)=true:=T_ a2;simp only[go_sem,simprocAttr,GW,g0,d1,d2];exact no _ k_
 have d2:decide (t.kind≥13)=false:=D_ a2;by_cases a3:(t.K.length:Int)=dW t.kind
 case neg=>
  have d3:decide ((t.K.length:Int)=dW t.kind)=false:=D_ a3;simp only[go_sem,simprocAttr,GW,g0,d1,d2,hc,L_,d3];exact no _ k_
 have d3:decide ((t.K.length:Int)=dW t.kind)=true:=T_ a3;have mid:∀ (tm:Tm),nth tm 1=.ptr h.z 0 0->(t.kind≠0->t.kind≠12->t.idx=0)->R (cS K (m+1)) 1000000000000 [.code GY] (IQ r69 (fun v h2=>∃ v' h3,cG v h2=(v',h3)/\(∃ b,v'=.bool b/\(b=true->qM t))/\HK h h3)) .normal ⟨tm,⟨[],.no,none,125⟩⟩ H:=by
  intro tm t1 hidx;have mid2:∀ (tm:Tm),nth tm 1=.ptr h.z 0 0->(t.kind≠3->t.name=bs [])->R (cS K (m+1)) 1000000000000 [.code GZ] (IQ r69 (fun v h2=>∃ v' h3,cG v h2=(v',h3)/\(∃ b,v'=.bool b/\(b=true->qM t))/\HK h h3)) .normal ⟨tm,⟨[],.no,none,125⟩⟩ H:=by
   intro tm t1 hnm;by_cases b1:t.kind=2
   ·have e1:decide (t.kind=2)=true:=T_ b1;simp only[go_sem,simprocAttr,GZ,t1,g0,e1,L_];refine yes _ (decide ((t.L.length:Int)=1)) k_ fun hb=>?_
    have hb:=of_decide_eq_true hb;exact⟨o_,o_,a3,hidx,hnm,fun _=>by omega,fun q=>absurd b1 q⟩
   ·have e1:decide (t.kind=2)=false:=D_ b1;by_cases b2:t.L.length=0
    ·have e2:decide ((t.L.length:Int)=0)=true:=t_;simp only[go_sem,simprocAttr,GZ,t1,g0,e1,L_,ZZ,e2];exact yes _ true k_ fun _=>⟨o_,o_,a3,hidx,hnm,fun q=>absurd q b1,fun _ _=>List.eq_nil_of_length_eq_zero b2⟩
    ·have e2:decide ((t.L.length:Int)=0)=false:=d_;simp only[go_sem,simprocAttr,GZ,t1,g0,e1,L_,ZZ,e2];exact yes _ (decide (t.kind=3)) k_ fun hb=>⟨o_,o_,a3,hidx,hnm,fun q=>absurd q b1,fun _ q=>absurd (of_decide_eq_true hb) q⟩
  by_cases b1:(t.name==bs [])=true
  ·simp only[go_sem,simprocAttr,GY,t1,g0,b1];exact mid2 _ (q_ t1) fun _=>aaZ b1
  ·have b1:(t.name==bs [])=false:=by simpa using b1
   by_cases b2:t.kind=3
   ·have e2:decide (t.kind=3)=true:=T_ b2;simp only[go_sem,simprocAttr,GY,t1,g0,b1,e2];exact mid2 _ (q_ t1) fun q=>absurd b2 q
   ·have e2:decide (t.kind=3)=false:=D_ b2;simp only[go_sem,simprocAttr,GY,t1,g0,b1,e2];exact no _ k_
 simp only[go_sem,simprocAttr,GW,g0,d1,d2,hc,L_,d3];by_cases b1:t.idx=0
 ·have e1:decide (t.idx=0)=true:=T_ b1;simp only[go_sem,simprocAttr,GX,g0,e1];exact mid _ k_ fun _ _=>b1
 ·have e1:decide (t.idx=0)=false:=D_ b1;by_cases b2:t.kind=0
  ·have e2:decide (t.kind=0)=true:=T_ b2;simp only[go_sem,simprocAttr,GX,g0,e1,e2];exact mid _ k_ fun q=>absurd b2 q
  ·have e2:decide (t.kind=0)=false:=D_ b2;by_cases b3:t.kind=12
   ·have e3:decide (t.kind=12)=true:=T_ b3;simp only[go_sem,simprocAttr,GX,g0,e1,e2,e3];exact mid _ k_ fun _ q=>absurd b3 q
   ·have e3:decide (t.kind=12)=false:=D_ b3;simp only[go_sem,simprocAttr,GX,g0,e1,e2,e3];exact no _ k_
end
inductive BT:T->Prop
 |mk (t:T):t.name.size<10000000->t.L.length<10000000->(∀ l∈t.L,l.vars.length<10000000)->-9223372036854775808<=t.idx->t.idx<9223372036854775808->(∀ x∈t.K,BT x)->BT t
theorem BT.nm {t:T}(b:BT t):t.name.size<10000000:=by cases b;assumption
theorem BT.ln {t:T}(b:BT t):t.L.length<10000000:=by cases b;assumption
theorem BT.ls {t:T}(b:BT t):∀ l∈t.L,l.vars.length<10000000:=by cases b;assumption
theorem BT.i0 {t:T}(b:BT t): -9223372036854775808<=t.idx:=by cases b;assumption
theorem BT.i1 {t:T}(b:BT t):t.idx<9223372036854775808:=by cases b;assumption
theorem BT.kid {t:T}(b:BT t):∀ x∈t.K,BT x:=by cases b;assumption
inductive CK (vars metas:Int):T->Int->Prop
 |mk (t:T) (d:Int):qM t->(t.kind=3->uk t.name)->t.L.length<=8->(∀ l∈t.L,VL l)->(t.kind=0->0<=t.idx/\t.idx<vars+d)->(t.kind=12->0<=t.idx/\t.idx<metas)->
   (∀ (a:Nat) x,t.K[a]?=some x->CK vars metas x (d+cq t.kind a))->CK vars metas t d
theorem eA (t:T):size t=1+bO t.K:=by cases t;simp[size,T.K]
theorem ou {ks:List T}{i:Nat}{t:T}(h:ks[i]?=some t):bO (ks.take (i+1))=bO (ks.take i)+size t:=by
 induction ks generalizing i with
 |nil=>simp at h
 |cons x l ih=>
  cases i with
  |zero=>simp at h;subst h;simp[bO]
  |succ i=>simp only[List.take_succ_cons,bO];rw[ih (by simpa using h)];omega
section
variable {K:aQ}
def I28 (t:T)(b:Nat)(h0:AH)(j:Nat)(fr:AF)(h:AH):Prop:=∃ tm p,p+j=t.K.length/\fr=⟨tm,⟨[],.no,none,85⟩⟩/\HK h0 h/\b<h.z/\h.get b=some (.box (aJ t))/\nth tm 1=.ptr b 0 0/\nth tm 3=i_ ((1+bO (t.K.take p):Nat):Int)/\nth tm 4=i_ (p:Int)
theorem c28 (hK:aZ K):∀ (n m:Nat) (t:T) (h:AH),n<=m->size t<=n->n<=100000000->
  ∃ v h',cS K m (.fn 85 [] []) [enc t] .no h=some (.ret v,.no,h')/\v=i_ (size t:Int)/\HK h h':=by
 intro n;induction n with
 |zero=>intro m t h _ hs;have:=bZ t;omega
 |succ n ih=>
  intro m t h hm hs hn;obtain⟨m,rfl⟩:∃ k,m=k+1:=⟨m-1,o_⟩
  have hsk:=eA t;have hlk:=bP t.K;refine bh hK cf28 (ae (bR t h) (aC _)) ?_;obtain⟨H,hH⟩:∃ H:AH,H=h.new (.box (aJ t)):=⟨_,rfl⟩
  have k0:HK h H:=by rw[hH];exact HK.new _ _
  have n0:H.z=h.z+1:=by rw[hH,ala]
  have g0:H.get h.z=some (.box (aJ t)):=by rw[hH,aE]
  unfold aJ at hH;rw[aU t];unfold b28;simp only[go_sem,simprocAttr];rw[<- hH];clear hH;simp only[go_sem,simprocAttr,aeG,aeH];refine bB (I28 t h.z h) t.K.length o_ ⟨_,0,z_ _,rfl,k0,o_,g0,k_,by simp only[go_sem,simprocAttr];simp[bO],k_⟩ ?_;rintro j fr H2 ⟨tm,p,hp,rfl,hk2,hn2,hg2,t1,t3,t4⟩;unfold aJ at hg2;unfold afZ;simp only[go_sem,simprocAttr,t1,t4,hg2,L_];refine aX (fun hlt=>?_) (fun hge=>?_)
  ·have hlt:p<t.K.length:=o_;have hget:t.K[p]?=some t.K[p]:=a_ hlt;have ha:=fun h=>aK bJ hget .i64 h
   have ele:=dN t.K[p];have hsm:=cL (m_ hget);have hst:=ou hget;have hle:bO (t.K.take (p+1))<=bO t.K:=by
    have:t.K=t.K.take (p+1)++t.K.drop (p+1):=(List.take_append_drop _ _).symm;have e:∀ a b:List T,bO (a++b)=bO a+bO b:=by
     intro a b;induction a with
     |nil=>simp[bO]
     |cons x a ih=>simp only[List.cons_append,bO,ih];omega
    have:=congrArg bO this;rw[e]at this;omega
   obtain⟨v,H3,e3,rfl,k3⟩:=ih m t.K[p] H2 o_ o_ o_;have hw:=aP p o_;have hw2:IntKind.wrap .i64 (((1+bO (t.K.take p):Nat):Int)+(size t.K[p]:Int))=((1+bO (t.K.take (p+1)):Nat):Int):=by rw[bI _ o_ o_,hst];omega
   simp only[go_sem,simprocAttr,aeJ,t1,t3,t4,hg2,ha,ele,e3,hw2,hw];refine⟨j-1,o_,_,p+1,o_,rfl,hk2.trans k3,by have:=k3.z;omega,(k3.kw _ hn2).trans hg2,q_ t1,k_,k_⟩
  ·have hpp:p=t.K.length:=o_;subst hpp;rw[List.take_length]at t3;simp only[go_sem,simprocAttr,aeI,t3];refine⟨rfl,rfl,.inr rfl,[i_ ((1+bO t.K:Nat):Int)],by simp only[go_sem,simprocAttr,r28],i_ ((1+bO t.K:Nat):Int),_,aS (by intro l e;cases e) (aG _ _ _),by rw[hsk],hk2⟩
def I29 (t:T)(b:Nat)(h0:AH)(j:Nat)(fr:AF)(h:AH):Prop:=∃ tm p x,p+j=t.K.length/\fr=⟨tm,⟨[],.no,none,13⟩⟩/\HK h0 h/\b<h.z/\h.get b=some (.box (aJ t))/\nth tm 1=.ptr b 0 0/\nth tm 3=i_ x/\nth tm 4=i_ (p:Int)
theorem c29 (hK:aZ K):∀ (n m:Nat) (t:T) (h:AH),n<=m->size t<=n->n<=100000000->
  ∃ v h',cS K m (.fn 13 [] []) [enc t] .no h=some (.ret v,.no,h')/\(∃ e,v=i_ e)/\HK h h':=by
 intro n;induction n with
 |zero=>intro m t h _ hs;have:=bZ t;omega
 |succ n ih=>
  intro m t h hm hs hn;obtain⟨m,rfl⟩:∃ k,m=k+1:=⟨m-1,o_⟩
  have hsk:=eA t;have hlk:=bP t.K;refine bh hK cf29 (ae (bR t h) (aC _)) ?_;obtain⟨H,hH⟩:∃ H:AH,H=h.new (.box (aJ t)):=⟨_,rfl⟩
  have k0:HK h H:=by rw[hH];exact HK.new _ _
  have n0:H.z=h.z+1:=by rw[hH,ala]
  have g0:H.get h.z=some (.box (aJ t)):=by rw[hH,aE]
  unfold aJ at hH;rw[aU t];unfold b29;simp only[go_sem,simprocAttr];rw[<- hH];clear hH;simp only[go_sem,simprocAttr,aeC,aeD];refine bB (I29 t h.z h) t.K.length o_ ⟨_,0,0,z_ _,rfl,k0,o_,g0,k_,k_,k_⟩ ?_;rintro j fr H2 ⟨tm,p,x,hp,rfl,hk2,hn2,hg2,t1,t3,t4⟩;unfold aJ at hg2;unfold afY;simp only[go_sem,simprocAttr,t1,t4,hg2,L_];refine aX (fun hlt=>?_) (fun hge=>?_)
  ·have hlt:p<t.K.length:=o_;have hget:t.K[p]?=some t.K[p]:=a_ hlt;have ha:=fun h=>aK bJ hget .i64 h
   have ele:=dN t.K[p];have hsm:=cL (m_ hget);obtain⟨v,H3,e3,⟨e,rfl⟩,k3⟩:=ih m t.K[p] H2 o_ o_ o_;have hw:=aP p o_;simp only[go_sem,simprocAttr,aeF,t1,t3,t4,hg2,ha,ele,e3,hw];exact⟨j-1,o_,_,p+1,max x e,o_,rfl,hk2.trans k3,by have:=k3.z;omega,(k3.kw _ hn2).trans hg2,q_ t1,k_,k_⟩
  ·simp only[go_sem,simprocAttr,aeE,t3];exact⟨rfl,rfl,.inr rfl,[i_ (IntKind.wrap .i64 (x+1))],by simp only[go_sem,simprocAttr,r29],i_ (IntKind.wrap .i64 (x+1)),_,aS (by intro l e;cases e) (aG _ _ _),⟨_,rfl⟩,hk2⟩
end
section
variable {K:aQ}
structure L27 (b:Nat)(d q1 q2 q3 q4:Int)(tm:Tm):Prop where
 t1:nth tm 1=i_ d
 t2:nth tm 2=i_ q1
 t3:nth tm 3=i_ q2
 t4:nth tm 4=i_ q3
 t5:nth tm 5=i_ q4
 t6:nth tm 6=.ptr b 0 0
structure H27 (t:T)(b:Nat)(h0 h:AH):Prop where
 hk:HK h0 h
 hn:b<h.z
 hg:h.get b=some (.box (aJ t))
theorem H27.up {t:T}{b:Nat}{h0 h h':AH}(q:H27 t b h0 h)(k:HK h h'):H27 t b h0 h':=⟨q.hk.trans k,by have:=k.z;have:=q.hn;omega,(k.kw _ q.hn).trans q.hg⟩
def I27a (t:T)(b:Nat)(d q1 q2 q3 q4:Int)(h0:AH)(j:Nat)(fr:AF)(h:AH):Prop:=∃ tm p,p+j=t.L.length/\fr=⟨tm,⟨[],.no,none,84⟩⟩/\H27 t b h0 h/\L27 b d q1 q2 q3 q4 tm/\nth tm 13=i_ (p:Int)/\∀ (i:Nat) l,i<p->t.L[i]?=some l->VL l
def I27b (t:T)(b:Nat)(d q1 q2 q3 q4:Int)(h0:AH)(j:Nat)(fr:AF)(h:AH):Prop:=∃ tm p,p+j=t.K.length/\fr=⟨tm,⟨[],.no,none,84⟩⟩/\H27 t b h0 h/\L27 b d q1 q2 q3 q4 tm/\nth tm 15=i_ (p:Int)/\∀ (a:Nat) x,a<p->t.K[a]?=some x->CK q1 q3 x (d+cq t.kind a)
def ZQ (t:T)(d q1 q3:Int)(h0:AH)(v:AV)(h':AH):Prop:=(∃ e:Int,v=i_ e/\(e=0->CK q1 q3 t d))/\HK h0 h'
theorem c27 (hK:aZ K)(q1 q2 q3 q4:Int):∀ (n m:Nat) (t:T) (d:Int) (h:AH),n+5<=m->size t<=n->n<=100000000->BT t->0<=d->d+n<=200000000->
  ∃ v h',cS K m (.fn 84 [] []) [enc t,i_ d,i_ q1,i_ q2,i_ q3,i_ q4] .no h=some (.ret v,.no,h')/\ZQ t d q1 q3 h v h':=by
 intro n;induction n with
 |zero=>intro m t d h _ hs;have:=bZ t;omega
 |succ n ih=>
  intro m t d h hm hs hn bt hd0 hd1;obtain⟨m,rfl⟩:∃ k,m=k+1:=⟨m-1,o_⟩
  have hsk:=eA t;have hlk:=bP t.K;have hbn:=bt.nm;have hbl:=bt.ln;have hi0:=bt.i0;have hi1:=bt.i1;refine bh hK cf27 (ae (bR t h) (ae (aG .i64 d h) (ae (aG .i64 q1 h) (ae (aG .i64 q2 h) (ae (aG .i64 q3 h) (ae (aG .i64 q4 h) (aC _))))))) ?_;obtain⟨H,hH⟩:∃ H:AH,H=h.new (.box (aJ t)):=⟨_,rfl⟩
  have k0:HK h H:=by rw[hH];exact HK.new _ _
  have n0:H.z=h.z+1:=by rw[hH,ala]
  have g0:H.get h.z=some (.box (aJ t)):=by rw[hH,aE]
  have ret:∀ (tm:Tm) (e:Int) (H1:AH),HK h H1->nth tm 12=i_ e->(e=0->CK q1 q3 t d)->IQ r27 (fun v h2=>∃ v' h3,cG v h2=(v',h3)/\ZQ t d q1 q3 h v' h3) .ret ⟨tm,⟨[],.no,none,84⟩⟩ H1:=fun tm e H1 hk t12 he=>
   ⟨rfl,rfl,.inr rfl,[i_ e],by simp only[go_sem,simprocAttr,r27,t12],i_ e,_,aS (by intro l e;cases e) (aG _ _ _),⟨⟨e,rfl,he⟩,hk⟩⟩
  have kids:∀ (tm:Tm) (H1:AH),H27 t h.z h H1->L27 h.z d q1 q2 q3 q4 tm->qM t->(t.kind=3->uk t.name)->t.L.length<=8->(∀ l∈t.L,VL l)->(t.kind=0->0<=t.idx/\t.idx<q1+d)->(t.kind=12->0<=t.idx/\t.idx<q3)->
    R (cS K m) 1000000000000 [.code aab] (IQ r27 (fun v h2=>∃ v' h3,cG v h2=(v',h3)/\ZQ t d q1 q3 h v' h3)) .normal ⟨tm,⟨[],.no,none,84⟩⟩ H1:=by
   intro tm H1 hh L f1 f2 f3 f4 f5 f6;simp only[go_sem,simprocAttr,aab];refine bB (I27b t h.z d q1 q2 q3 q4 h) t.K.length o_ ⟨_,0,z_ _,rfl,hh,⟨q_ L.t1,q_ L.t2,q_ L.t3,q_ L.t4,q_ L.t5,q_ L.t6⟩,k_,fun a x ha=>by omega⟩ ?_;clear L hh tm;rintro j fr H2 ⟨tm,p,hp,rfl,hh,L,t15,pre⟩;have g:=hh.hg;unfold aJ at g;unfold af0;simp only[go_sem,simprocAttr,L.t6,t15,g,L_];refine aX (fun hlt=>?_) (fun hge=>?_)
   ·have hlt:p<t.K.length:=o_;have hget:t.K[p]?=some t.K[p]:=a_ hlt;have ha:=fun h=>aK bJ hget .i64 h
    have ele:=dN t.K[p];have hsm:=cL (m_ hget);have hbk:=bt.kid _ (m_ hget);have hbb:=iZ t.kind p;have hw:=aP p o_;have hw2:IntKind.wrap .i64 (d+cq t.kind p)=d+cq t.kind p:=bI _ o_ o_;have eb:=c72 (h:=H2) hK (m-1) t.kind (p:Int);rw[show m-1+1=m by omega]at eb;obtain⟨v,H3,e3,⟨e,rfl,he⟩,k3⟩:=ih m t.K[p] (d+cq t.kind p) H2 o_ o_ o_ hbk o_ o_;simp only[go_sem,simprocAttr,aeL,L.t1,L.t2,L.t3,L.t4,L.t5,L.t6,t15,g,ha,ele,eb,hw2,e3,aeM];by_cases h0:e=0
    ·have d0:decide (e=0)=true:=T_ h0;simp only[go_sem,simprocAttr,d0,t15,hw];refine⟨j-1,o_,_,p+1,o_,rfl,hh.up k3,⟨q_ L.t1,q_ L.t2,q_ L.t3,q_ L.t4,q_ L.t5,q_ L.t6⟩,k_,fun a x hlt hx=>?_⟩;by_cases q:a=p
     ·subst q;rw[hget]at hx;cases hx;exact he h0
     ·exact pre a x o_ hx
    ·have d0:decide (e=0)=false:=D_ h0;simp only[go_sem,simprocAttr,d0];exact ret _ e H3 (hh.up k3).hk k_ (fun q=>absurd q h0)
   ·simp only[go_sem,simprocAttr,aeK];exact ret _ 0 H2 hh.hk k_ fun _=>.mk t d f1 f2 f3 f4 f5 f6 fun a x hx=>pre a x (by have:=(E_.1 hx).1;omega) hx
  have metas:∀ (tm:Tm) (H1:AH),H27 t h.z h H1->L27 h.z d q1 q2 q3 q4 tm->qM t->(t.kind=3->uk t.name)->t.L.length<=8->(∀ l∈t.L,VL l)->(t.kind=0->0<=t.idx/\t.idx<q1+d)->
    R (cS K m) 1000000000000 [.code BZ] (IQ r27 (fun v h2=>∃ v' h3,cG v h2=(v',h3)/\ZQ t d q1 q3 h v' h3)) .normal ⟨tm,⟨[],.no,none,84⟩⟩ H1:=by
   intro tm H1 hh L f1 f2 f3 f4 f5;have g:=hh.hg;unfold aJ at g;by_cases a1:t.kind=12
   ·have d1:decide (t.kind=12)=true:=T_ a1;by_cases a2:t.idx<0
    ·have d2:decide (t.idx<0)=true:=T_ a2;simp only[go_sem,simprocAttr,BZ,L.t6,g,d1,d2];exact ret _ 23 H1 hh.hk k_ o_
    ·have d2:decide (t.idx<0)=false:=D_ a2;by_cases a3:t.idx≥q3
     ·have d3:decide (t.idx≥q3)=true:=T_ a3;simp only[go_sem,simprocAttr,BZ,L.t4,L.t6,g,d1,d2,d3];exact ret _ 23 H1 hh.hk k_ o_
     ·have d3:decide (t.idx≥q3)=false:=D_ a3;simp only[go_sem,simprocAttr,BZ,L.t4,L.t6,g,d1,d2,d3];exact kids _ H1 hh ⟨q_ L.t1,q_ L.t2,q_ L.t3,q_ L.t4,q_ L.t5,q_ L.t6⟩ f1 f2 f3 f4 f5 fun _=>⟨o_,o_⟩
   ·have d1:decide (t.kind=12)=false:=D_ a1;simp only[go_sem,simprocAttr,BZ,L.t6,g,d1];exact kids _ H1 hh ⟨q_ L.t1,q_ L.t2,q_ L.t3,q_ L.t4,q_ L.t5,q_ L.t6⟩ f1 f2 f3 f4 f5 fun q=>absurd q a1
  have vars:∀ (tm:Tm) (H1:AH),H27 t h.z h H1->L27 h.z d q1 q2 q3 q4 tm->qM t->(t.kind=3->uk t.name)->t.L.length<=8->(∀ l∈t.L,VL l)->
    R (cS K m) 1000000000000 [.code BY] (IQ r27 (fun v h2=>∃ v' h3,cG v h2=(v',h3)/\ZQ t d q1 q3 h v' h3)) .normal ⟨tm,⟨[],.no,none,84⟩⟩ H1:=by
   intro tm H1 hh L f1 f2 f3 f4;have g:=hh.hg;unfold aJ at g;by_cases a1:t.kind=0
   ·have d1:decide (t.kind=0)=true:=T_ a1;by_cases a2:t.idx<0
    ·have d2:decide (t.idx<0)=true:=T_ a2;simp only[go_sem,simprocAttr,BY,L.t6,g,d1,d2];exact ret _ 24 H1 hh.hk k_ o_
    ·have d2:decide (t.idx<0)=false:=D_ a2;have hw:IntKind.wrap .i64 (t.idx-d)=t.idx-d:=bI _ o_ o_;by_cases a3:t.idx-d≥q1
     ·have d3:decide (t.idx-d≥q1)=true:=T_ a3;simp only[go_sem,simprocAttr,BY,L.t1,L.t2,L.t6,g,d1,d2,hw,d3];exact ret _ 24 H1 hh.hk k_ o_
     ·have d3:decide (t.idx-d≥q1)=false:=D_ a3;simp only[go_sem,simprocAttr,BY,L.t1,L.t2,L.t6,g,d1,d2,hw,d3];exact metas _ H1 hh ⟨q_ L.t1,q_ L.t2,q_ L.t3,q_ L.t4,q_ L.t5,q_ L.t6⟩ f1 f2 f3 f4 fun _=>⟨o_,o_⟩
   ·have d1:decide (t.kind=0)=false:=D_ a1;simp only[go_sem,simprocAttr,BY,L.t6,g,d1];exact metas _ H1 hh ⟨q_ L.t1,q_ L.t2,q_ L.t3,q_ L.t4,q_ L.t5,q_ L.t6⟩ f1 f2 f3 f4 fun q=>absurd q a1
  have levels:∀ (tm:Tm) (H1:AH),H27 t h.z h H1->L27 h.z d q1 q2 q3 q4 tm->qM t->(t.kind=3->uk t.name)->
    R (cS K m) 1000000000000 [.code HN] (IQ r27 (fun v h2=>∃ v' h3,cG v h2=(v',h3)/\ZQ t d q1 q3 h v' h3)) .normal ⟨tm,⟨[],.no,none,84⟩⟩ H1:=by
   intro tm H1 hh L f1 f2;have g:=hh.hg;unfold aJ at g;simp only[go_sem,simprocAttr,HN,L.t6,g,L_];refine aX (fun h8=>?_) (fun h8=>?_)
   ·simp only[go_sem,simprocAttr];exact ret _ 6 H1 hh.hk k_ o_
   ·have h8:t.L.length<=8:=o_;simp only[go_sem,simprocAttr,XD];refine bB (I27a t h.z d q1 q2 q3 q4 h) t.L.length o_ ⟨_,0,z_ _,rfl,hh,⟨q_ L.t1,q_ L.t2,q_ L.t3,q_ L.t4,q_ L.t5,q_ L.t6⟩,k_,fun i l hi=>by omega⟩ ?_;clear L hh tm g;rintro j fr H2 ⟨tm,p,hp,rfl,hh,L,t13,pre⟩;have g:=hh.hg;unfold aJ at g;unfold af1;simp only[go_sem,simprocAttr,L.t6,t13,g,L_];refine aX (fun hlt=>?_) (fun hge=>?_)
    ·have hlt:p<t.L.length:=o_;have hget:t.L[p]?=some t.L[p]:=a_ hlt;have ha:=fun h=>aK eC hget .i64 h
     have ele:=jb t.L[p];have hw:=aP p o_;obtain⟨v,H3,e3,⟨e,rfl,he⟩,k3⟩:=c71 (h:=H2) hK (m-2) t.L[p] q2 q4 (bt.ls _ (m_ hget));rw[show m-2+2=m by omega]at e3;simp only[go_sem,simprocAttr,aeN,L.t3,L.t5,L.t6,t13,g,ha,ele,e3,aeO];by_cases h0:e=0
     ·have d0:decide (e=0)=true:=T_ h0;simp only[go_sem,simprocAttr,d0,t13,hw];refine⟨j-1,o_,_,p+1,o_,rfl,hh.up k3,⟨q_ L.t1,q_ L.t2,q_ L.t3,q_ L.t4,q_ L.t5,q_ L.t6⟩,k_,fun i x hi hx=>?_⟩;by_cases q:i=p
      ·subst q;rw[hget]at hx;cases hx;exact he h0
      ·exact pre i x o_ hx
     ·have d0:decide (e=0)=false:=D_ h0;simp only[go_sem,simprocAttr,d0];exact ret _ e H3 (hh.up k3).hk k_ (fun q=>absurd q h0)
    ·simp only[go_sem,simprocAttr];refine vars _ H2 hh ⟨q_ L.t1,q_ L.t2,q_ L.t3,q_ L.t4,q_ L.t5,q_ L.t6⟩ f1 f2 h8 fun l hl=>?_
     obtain⟨i,hi⟩:=List.getElem?_of_mem hl;exact pre i l (by have:=(E_.1 hi).1;omega) hi
  obtain⟨v,H1,e1,⟨bf,rfl,hf⟩,k1⟩:=c69 (h:=H) hK (m-2) t;rw[show m-2+2=m by omega,aU t]at e1;have hh0:H27 t h.z h H:=⟨k0,o_,g0⟩;have hh1:=hh0.up k1;have g1:=hh1.hg;unfold aJ at hH g0 g1;rw[aU t];unfold b27;simp only[go_sem,simprocAttr];rw[<- hH];clear hH;simp only[go_sem,simprocAttr,XC,g0,e1];cases bf with
  |false=>
   simp only[go_sem,simprocAttr];exact ret _ 3 H1 hh1.hk k_ o_
  |true=>
   have f1:=hf rfl;by_cases a1:t.kind=3
   ·have d1:decide (t.kind=3)=true:=T_ a1;obtain⟨v,H2,e2,⟨bn,rfl,hnm⟩,rfl⟩:=c70 (h:=H1) hK (m-2) t.name hbn;rw[show m-2+2=m by omega]at e2;simp only[go_sem,simprocAttr,HL,g1,d1,e2];cases bn with
    |false=>
     simp only[go_sem,simprocAttr];exact ret _ 29 H2 hh1.hk k_ o_
    |true=>
     simp only[go_sem,simprocAttr];exact levels _ H2 hh1 ⟨k_,k_,k_,k_,k_,k_⟩ f1 fun _=>hnm rfl
   ·have d1:decide (t.kind=3)=false:=D_ a1;simp only[go_sem,simprocAttr,HL,g1,d1];exact levels _ H1 hh1 ⟨k_,k_,k_,k_,k_,k_⟩ f1 fun q=>absurd q a1
end
section
variable {K:aQ}{h:AH}
theorem c7 (hK:aZ K)(q1 q2 q3 q4:Int)(n m:Nat)(t:T)(hm:n+6<=m)(hs:size t<=n)(hn:n<=100000000)(bt:BT t):
  ∃ v h',cS K m (.fn 45 [] []) [enc t,i_ q1,i_ q2,i_ q3,i_ q4] .no h=some (.ret v,.no,h')/\(∃ e:Int,v=i_ e/\(e=0->CK (max q1 0) q3 t 0/\size t<=4096))/\HK h h':=by
 obtain⟨m,rfl⟩:∃ k,m=k+1:=⟨m-1,o_⟩
 refine bh hK cf7 (ae (bR t h) (ae (aG .i64 q1 h) (ae (aG .i64 q2 h) (ae (aG .i64 q3 h) (ae (aG .i64 q4 h) (aC _)))))) ?_;obtain⟨H,hH⟩:∃ H:AH,H=h.new (.box (aJ t)):=⟨_,rfl⟩
 have k0:HK h H:=by rw[hH];exact HK.new _ _
 have n0:H.z=h.z+1:=by rw[hH,ala]
 have g0:H.get h.z=some (.box (aJ t)):=by rw[hH,aE]
 have ret:∀ (tm:Tm) (e:Int) (H1:AH),HK h H1->nth tm 10=i_ e->(e=0->CK (max q1 0) q3 t 0/\size t<=4096)->IQ r7 (fun v h2=>∃ v' h3,cG v h2=(v',h3)/\(∃ e:Int,v'=i_ e/\(e=0->CK (max q1 0) q3 t 0/\size t<=4096))/\HK h h3) .ret ⟨tm,⟨[],.no,none,45⟩⟩ H1:=fun tm e H1 hk t10 he=>
  ⟨rfl,rfl,.inr rfl,[i_ e],by simp only[go_sem,simprocAttr,r7,t10],i_ e,_,aS (by intro l e;cases e) (aG _ _ _),⟨e,rfl,he⟩,hk⟩
 obtain⟨v,H1,e1,⟨⟨e,rfl,he⟩,k1⟩⟩:=c27 hK (max q1 0) q2 q3 q4 n m t 0 H o_ hs hn bt o_ o_;obtain⟨v,H2,e2,rfl,k2⟩:=c28 hK n m t H1 o_ hs hn;obtain⟨v,H3,e3,⟨dp,rfl⟩,k3⟩:=c29 hK n m t H2 o_ hs hn;have g1:=(k1.kw _ o_).trans g0;have nx1:=k1.z;have g2:=(k2.kw _ o_).trans g1;rw[aU t]at e1 e2 e3;unfold aJ at hH g0 g1 g2;rw[aU t];unfold b7;simp only[go_sem,simprocAttr];rw[<- hH];clear hH;simp only[go_sem,simprocAttr,s7_3,g0,e1];by_cases h0:e=0
 ·have d0:decide (e=0)=true:=T_ h0;simp only[go_sem,simprocAttr,d0,s7_2,g1,e2];refine aX (fun hb=>?_) (fun hb=>?_)
  ·simp only[go_sem,simprocAttr];exact ret _ 5 H2 ((k0.trans k1).trans k2) k_ o_
  ·simp only[go_sem,simprocAttr,s7_1,g2,e3];refine aX (fun hd=>?_) (fun hd=>?_)
   ·simp only[go_sem,simprocAttr];exact ret _ 7 H3 (((k0.trans k1).trans k2).trans k3) k_ o_
   ·simp only[go_sem,simprocAttr,s7_0];exact ret _ 0 H3 (((k0.trans k1).trans k2).trans k3) k_ fun _=>⟨he h0,o_⟩
 ·have d0:decide (e=0)=false:=D_ h0;simp only[go_sem,simprocAttr,d0];exact ret _ e H1 (k0.trans k1) k_ (fun q=>absurd q h0)
end
