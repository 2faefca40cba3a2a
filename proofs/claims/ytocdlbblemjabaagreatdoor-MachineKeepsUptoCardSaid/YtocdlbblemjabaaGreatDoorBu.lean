/- MachineKeeps: guards: small case trees (no condition). -/
import Derived.Test.YtocdlbblemjabaaGreatDoorBt
namespace Go.Proofs.YtocdlbblemjabaaGreatDoor
open Go.AG Go.AG.MK
mutual
def ts:eY->Nat
 |.mk _ b _ l=>1+size b+tss l
def tss:List Br->Nat
 |[]=>0
 |.mk _ _ t::l=>1+ts t+tss l
end
mutual
def SmT:eY->Nat->Prop
 |.mk _ b _ l,n=>size b<=400/\l.length<=40/\SmB l n
def SmB:List Br->Nat->Prop
 |[],_=>True
 |.mk _ _ t::l,n=>(∃ k,n=k+1/\SmT t k)/\SmB l n
end
def brT:Br->eY|.mk _ _ t=>t
theorem Qy {n:Nat}: ∀ {l:List Br},(∀ b∈l,∃ k,n=k+1/\SmT (brT b) k)->SmB l n
 |[],_=>trivial
 |.mk c a t::l,h=>by
  unfold SmB;exact⟨h _ (List.mem_cons_self ..),Qy fun b hb=>h b (List.mem_cons_of_mem _ hb)⟩
theorem ZV {b:Br}: ∀ {l:List Br},b∈l->1+ts (brT b)<=tss l
 |.mk c a t::l,h=>by
  unfold tss;rcases List.mem_cons.1 h with rfl|h
  ·show 1+ts t<=_;omega
  ·have:=ZV h;omega
theorem Ab:∀ l:List Br,l.length<=tss l
 |[]=>Nat.zero_le _
 |.mk c a t::l=>by have:=Ab l;unfold tss;simp only[List.length_cons];omega
theorem oG (t:eY):ts t=1+size (fX t)+tss (cy t):=by obtain⟨k,b,v,l⟩:=t;rw[ts];rfl
section
variable {K:aQ}{h:AH}
def I1130 (t:eY)(d e b:Nat)(h0:AH)(j:Nat)(fr:AF)(h:AH):Prop:=∃ tm p,p+j=(cy t).length/\fr=⟨tm,⟨[],.no,none,130⟩⟩/\HK h0 h/\b<h.z/\h.get b=some (.box (bu t))/\nth tm 1=i_ (d:Int)/\nth tm 2=.ptr b 0 0/\nth tm 5=i_ (p:Int)/\
 ∀ (i:Nat) x,i<p->(cy t)[i]?=some x->∃ k,e=k+1/\SmT (brT x) k
theorem c1130 (hK:aZ K):∀ (n m:Nat) (t:eY) (d:Nat) (h:AH),n+2<=m->ts t<=n->n<=10000000->d<=41->
  ∃ v h',cS K m (.fn 130 [] []) [dR t,i_ (d:Int)] .no h=some (.ret v,.no,h')/\(∃ b,v=.bool b/\(b=true->∃ e,d+e=40/\SmT t e))/\HK h h':=by
 intro n;induction n with
 |zero=>intro m t d h _ hs;have:=oG t;omega
 |succ n ih=>
  intro m t d h hm hs hn hd;obtain⟨m,rfl⟩:∃ k,m=k+1:=⟨m-1,o_⟩
  have hp:=oG t;have hl:=Ab (cy t);rw[bM];refine bh hK ajk (ae (iQ t h) (ae (aG _ _ _) (aC _))) ?_;have hbx:=bN (h:=h) (bu t) 8 rfl;obtain⟨H,hH⟩:∃ H:AH,H=h.new (.box (bu t)):=⟨_,rfl⟩
  have k0:HK h H:=by rw[hH];exact HK.new _ _
  have n0:H.z=h.z+1:=by rw[hH,ala]
  have g0':H.get h.z=some (.box (bu t)):=by rw[hH,aE]
  have ret:∀ (tm:Tm) (b:Bool) (H:AH),HK h H->nth tm 4=.bool b->(b=true->∃ e,d+e=40/\SmT t e)->IQ aav (fun v h2=>∃ v' h3,cG v h2=(v',h3)/\(∃ b,v'=.bool b/\(b=true->∃ e,d+e=40/\SmT t e))/\HK h h3) .ret ⟨tm,⟨[],.no,none,130⟩⟩ H:=fun tm b H hk t4 hb=>
   ⟨rfl,rfl,.inr rfl,[.bool b],by simp only[go_sem,simprocAttr,aav,t4],.bool b,_,aS (by intro l e;cases e) (aW _ _),⟨_,rfl,hb⟩,hk⟩
  have g0:=g0';unfold bu gh at g0;obtain⟨v,H1,e1,⟨b1,rfl,hb1⟩,k1⟩:=zn hK n m (fX t) (h:=H) o_ o_ o_;rw[aU]at e1;have g1':=(k1.kw _ o_).trans g0';have n1:=k1.z;unfold agv;simp only[go_sem,simprocAttr,A_,hbx];rw[<- hH];clear hH;by_cases a1:(d:Int) > 40
  ·have d1:decide ((d:Int) > 40)=true:=T_ a1;simp only[go_sem,simprocAttr,sh,d1];exact ret _ false H k0 k_ (by simp)
  have d1:decide ((d:Int) > 40)=false:=D_ a1;by_cases a2:((cy t).length:Int) > 40
  ·have d2:decide (((cy t).length:Int) > 40)=true:=T_ a2;simp only[go_sem,simprocAttr,sh,d1,g0,L_,d2];exact ret _ false H k0 k_ (by simp)
  have d2:decide (((cy t).length:Int) > 40)=false:=D_ a2;cases b1 with
  |false=>
   simp only[go_sem,simprocAttr,sh,d1,g0,L_,d2,e1];exact ret _ false H1 (k0.trans k1) k_ (by simp)
  |true=>
   simp only[go_sem,simprocAttr,sh,d1,g0,L_,d2,e1,Ku];obtain⟨e,he⟩:∃ e,d+e=40:=⟨40-d,o_⟩
   refine bB (I1130 t d e h.z h) (cy t).length o_ ⟨_,0,z_ _,rfl,k0.trans k1,o_,g1',k_,k_,k_,fun i x hi=>by omega⟩ ?_;clear g1' e1 g0 g0' k0 k1 n0 n1;rintro j fr H2 ⟨tm,p,hp2,rfl,k2,n2,g2',t1,t2,t5,pre⟩;have g2:=g2';unfold bu gh at g2;unfold PQ;simp only[go_sem,simprocAttr,t2,t5,g2,L_];refine aX (fun hlt=>?_) (fun hge=>?_)
   ·have hlt:p<(cy t).length:=o_;have hget:(cy t)[p]?=some (cy t)[p]:=a_ hlt;have hmem:=ZV (m_ hget);revert hget hmem;generalize (cy t)[p]=b;intro hget hmem;have ha:=fun h=>aK ml hget .i64 h
    obtain⟨c,ab,tr⟩:=b;have hf2:∀ h,cp (.vptr (nL (.mk c ab tr))) h 2 8 true=.val (.vptr (.agg (bu tr))) h:=fun h=>by rw[lq];rfl
    have hf0:∀ h,cp (.vptr (nL (.mk c ab tr))) h 0 1 false=.val (.vptr (.str c)) h:=fun h=>by rw[lq];rfl
    have hld:=fun h=>cI (v:=.agg (bu tr)) (sz:=8) rfl rfl h
    obtain⟨v,H3,e3,⟨b3,rfl,hb3⟩,k3⟩:=ih m tr (d+1) H2 o_ (by show ts (brT (.mk c ab tr))<=n;omega) o_ o_;rw[bM]at e3;have n3:=k3.z;have g3':=(k3.kw _ o_).trans g2';have g3:=g3';unfold bu gh at g3;have hw:=aP p o_;have hwd:=aP d o_;cases b3 with
    |false=>
     simp only[go_sem,simprocAttr,vB,t1,t2,t5,g2,ha,hf2,hld,hwd,e3];exact ret _ false H3 (k2.trans k3) k_ (by simp)
    |true=>
     by_cases a3:(c.size:Int) > 200
     ·have d3:decide ((c.size:Int) > 200)=true:=T_ a3;simp only[go_sem,simprocAttr,vB,t1,t2,t5,g2,ha,hf2,hld,hwd,e3,g3,hf0,d3];exact ret _ false H3 (k2.trans k3) k_ (by simp)
     ·have d3:decide ((c.size:Int) > 200)=false:=D_ a3;simp only[go_sem,simprocAttr,vB,t1,t2,t5,g2,ha,hf2,hld,hwd,e3,g3,hf0,d3,hw];refine⟨j-1,o_,_,p+1,o_,rfl,k2.trans k3,o_,g3',q_ t1,q_ t2,k_,fun i x hi hx=>?_⟩;by_cases q:i=p
      ·subst q;rw[hget]at hx;cases hx;obtain⟨e',q1,q2⟩:=hb3 rfl;exact⟨e',o_,q2⟩
      ·exact pre i x o_ hx
   ·have hpp:p=(cy t).length:=o_;subst hpp;simp only[go_sem,simprocAttr,Kv];refine ret _ true H2 k2 k_ fun _=>⟨e,he,?_⟩
    obtain⟨k,b,v,l⟩:=t;unfold SmT;refine⟨hb1 rfl,by simp only[cy]at a2;omega,Qy fun b hb=>?_⟩;obtain⟨i,hi⟩:=List.getElem?_of_mem hb;exact pre i b (E_.1 hi).1 hi
end
structure PD (n:Nat)(d:DV):Prop where
 ty:size d.type<=n
 value:size d.value<=n
 rty:size d.rtype<=n
 cl:d.ctors.length<=n
 rl:d.rules.length<=n
 fl:d.funs.length<=n
 ct:∀ c∈d.ctors,size c.type<=n
 rr:∀ r∈d.rules,size r<=n
 fn:∀ f∈d.funs,size f.type<=n/\ts f.tree<=n
structure FD (d:DV):Prop where
 name:d.name.size<=200
 ty:size d.type<=400
 value:size d.value<=400
 rty:size d.rtype<=400
 cl:d.ctors.length<=40
 rl:d.rules.length<=40
 fl:d.funs.length<=12
 ct:∀ c∈d.ctors,c.name.size<=200/\size c.type<=400
 rr:∀ r∈d.rules,size r<=400
 fn:∀ f∈d.funs,f.name.size<=200/\size f.type<=400/\SmT f.tree 40
theorem jx {α:Type}{l:List α}{P:α->Prop}(h:∀ (i:Nat) x,i<l.length->l[i]?=some x->P x):∀ x∈l,P x:=fun x hx=>by
 obtain⟨i,hi⟩:=List.getElem?_of_mem hx;exact h i x (E_.1 hi).1 hi
section
variable {K:aQ}{h:AH}
def abe {α:Type}(d:DV)(b ix:Nat)(l:List α)(P:α->Prop)(h0:AH)(j:Nat)(fr:AF)(h:AH):Prop:=∃ tm p,p+j=l.length/\fr=⟨tm,⟨[],.no,none,86⟩⟩/\HK h0 h/\b<h.z/\h.get b=some (.box (aM d))/\nth tm 1=.ptr b 0 0/\nth tm ix=i_ (p:Int)/\
 ∀ (i:Nat) x,i<p->l[i]?=some x->P x
theorem c1086 (hK:aZ K)(n m:Nat)(d:DV)(pd:PD n d)(hm:n+4<=m)(hn:n<=10000000):
  ∃ v h',cS K m (.fn 86 [] []) [bW d] .no h=some (.ret v,.no,h')/\(∃ b,v=.bool b/\(b=true->FD d))/\HK h h':=by
 obtain⟨m,rfl⟩:∃ k,m=k+1:=⟨m-1,o_⟩
 refine bh hK ajC (ae (mr d h) (aC _)) ?_;rw[cA];have hbx:=bN (h:=h) (aM d) 23 rfl;obtain⟨H,hH⟩:∃ H:AH,H=h.new (.box (aM d)):=⟨_,rfl⟩
 have k0:HK h H:=by rw[hH];exact HK.new _ _
 have n0:H.z=h.z+1:=by rw[hH,ala]
 have g0':H.get h.z=some (.box (aM d)):=by rw[hH,aE]
 have ret:∀ (tm:Tm) (b:Bool) (H:AH),HK h H->nth tm 2=.bool b->(b=true->FD d)->IQ Cg (fun v h2=>∃ v' h3,cG v h2=(v',h3)/\(∃ b,v'=.bool b/\(b=true->FD d))/\HK h h3) .ret ⟨tm,⟨[],.no,none,86⟩⟩ H:=fun tm b H hk t2 hb=>
  ⟨rfl,rfl,.inr rfl,[.bool b],by simp only[go_sem,simprocAttr,Cg,t2],.bool b,_,aS (by intro l e;cases e) (aW _ _),⟨_,rfl,hb⟩,hk⟩
 have L3:∀ (tm:Tm) (H:AH),HK h H->h.z<H.z->H.get h.z=some (.box (aM d))->nth tm 1=.ptr h.z 0 0->
   ((∀ f∈d.funs,f.name.size<=200/\size f.type<=400/\SmT f.tree 40)->FD d)->R (cS K m) 1000000000000 [.code AP] (IQ Cg (fun v h2=>∃ v' h3,cG v h2=(v',h3)/\(∃ b,v'=.bool b/\(b=true->FD d))/\HK h h3)) .normal ⟨tm,⟨[],.no,none,86⟩⟩ H:=by
  intro tm H k0 n0 g0' t1 hF;simp only[go_sem,simprocAttr,AP];refine bB (abe d h.z 5 d.funs (fun f=>f.name.size<=200/\size f.type<=400/\SmT f.tree 40) h) d.funs.length (by have:=pd.fl;omega) ⟨_,0,z_ _,rfl,k0,n0,g0',q_ t1,k_,fun i x hi=>by omega⟩ ?_;clear k0 n0 g0' t1 H tm;rintro j fr H2 ⟨tm,p,hp2,rfl,k2,n2,g2',t1,t5,pre⟩;have g2:=g2';unfold aM at g2;unfold PZ;simp only[go_sem,simprocAttr,t1,t5,g2,L_];refine aX (fun hlt=>?_) (fun hge=>?_)
  ·have hlt:p<d.funs.length:=o_;have hget:d.funs[p]?=some d.funs[p]:=a_ hlt;have hmem:=pd.fn _ (m_ hget);have hl:=pd.fl;revert hget hmem;generalize d.funs[p]=f;intro hget hmem;have ha:=fun h=>aK gj hget .i64 h
   have hf0:∀ h,cp (.vptr (fQ f)) h 0 1 false=.val (.vptr (.str f.name)) h:=fun h=>rfl
   have hf1:∀ h,cp (.vptr (fQ f)) h 1 5 true=.val (.vptr (.agg (aJ f.type))) h:=fun h=>rfl
   have hf7:∀ h,cp (.vptr (fQ f)) h 7 8 true=.val (.vptr (.agg (bu f.tree))) h:=fun h=>rfl
   have hld:=fun h=>cI (v:=.agg (bu f.tree)) (sz:=8) rfl rfl h
   have hlt5:=kG f.type;obtain⟨v,H3,e3,⟨b3,rfl,hb3⟩,k3⟩:=zn hK n m f.type (h:=H2) o_ hmem.1 o_;have n3:=k3.z;have g3':=(k3.kw _ o_).trans g2';have g3:=g3';unfold aM at g3;obtain⟨v,H4,e4,⟨b4,rfl,hb4⟩,k4⟩:=c1130 hK n m f.tree 0 H3 o_ hmem.2 o_ o_;have n4:=k4.z;rw[dF]at e3;rw[bM]at e4;have hw:=aP p o_;by_cases a3:(f.name.size:Int) > 200
   ·have d3:decide ((f.name.size:Int) > 200)=true:=T_ a3;simp only[go_sem,simprocAttr,su,t1,t5,g2,ha,hf0,d3];exact ret _ false H2 k2 k_ (by simp)
   have d3:decide ((f.name.size:Int) > 200)=false:=D_ a3;cases b3 with
   |false=>
    simp only[go_sem,simprocAttr,su,t1,t5,g2,ha,hf0,d3,hf1,hlt5,e3];exact ret _ false H3 (k2.trans k3) k_ (by simp)
   |true=>
    cases b4 with
    |false=>
     simp only[go_sem,simprocAttr,su,t1,t5,g2,ha,hf0,d3,hf1,hlt5,e3,g3,hf7,hld];simp only[Int.natCast_zero]at e4;simp only[go_sem,simprocAttr,e4];exact ret _ false H4 ((k2.trans k3).trans k4) k_ (by simp)
    |true=>
     simp only[go_sem,simprocAttr,su,t1,t5,g2,ha,hf0,d3,hf1,hlt5,e3,g3,hf7,hld];simp only[Int.natCast_zero]at e4;simp only[go_sem,simprocAttr,e4,t5,hw];refine⟨j-1,o_,_,p+1,o_,rfl,(k2.trans k3).trans k4,o_,(k4.kw _ o_).trans g3',q_ t1,k_,fun i x hi hx=>?_⟩;by_cases q:i=p
     ·subst q;rw[hget]at hx;cases hx;obtain⟨e',q1,q2⟩:=hb4 rfl;have:e'=40:=o_;subst this;exact⟨o_,hb3 rfl,q2⟩
     ·exact pre i x o_ hx
  ·have hpp:p=d.funs.length:=o_;subst hpp;simp only[go_sem,simprocAttr,LI];exact ret _ true H2 k2 k_ fun _=>hF (jx pre)
 have L2:∀ (tm:Tm) (H:AH),HK h H->h.z<H.z->H.get h.z=some (.box (aM d))->nth tm 1=.ptr h.z 0 0->
   ((∀ f∈d.funs,f.name.size<=200/\size f.type<=400/\SmT f.tree 40)->(∀ r∈d.rules,size r<=400)->FD d)->R (cS K m) 1000000000000 [.code AO] (IQ Cg (fun v h2=>∃ v' h3,cG v h2=(v',h3)/\(∃ b,v'=.bool b/\(b=true->FD d))/\HK h h3)) .normal ⟨tm,⟨[],.no,none,86⟩⟩ H:=by
  intro tm H k0 n0 g0' t1 hF;simp only[go_sem,simprocAttr,AO];refine bB (abe d h.z 4 d.rules (fun r=>size r<=400) h) d.rules.length (by have:=pd.rl;omega) ⟨_,0,z_ _,rfl,k0,n0,g0',q_ t1,k_,fun i x hi=>by omega⟩ ?_;clear k0 n0 g0' t1 H tm;rintro j fr H2 ⟨tm,p,hp2,rfl,k2,n2,g2',t1,t5,pre⟩;have g2:=g2';unfold aM at g2;unfold Qa;simp only[go_sem,simprocAttr,t1,t5,g2,L_];refine aX (fun hlt=>?_) (fun hge=>?_)
  ·have hlt:p<d.rules.length:=o_;have hget:d.rules[p]?=some d.rules[p]:=a_ hlt;have hmem:=pd.rr _ (m_ hget);have hl:=pd.rl;revert hget hmem;generalize d.rules[p]=f;intro hget hmem;have ha:=fun h=>aK bJ hget .i64 h
   have ele:=dN f;obtain⟨v,H3,e3,⟨b3,rfl,hb3⟩,k3⟩:=zn hK n m f (h:=H2) o_ hmem o_;have n3:=k3.z;have g3':=(k3.kw _ o_).trans g2';have hw:=aP p o_;simp only[go_sem,simprocAttr,LJ,t1,t5,g2,ha,ele,e3];cases b3 with
   |false=>
    simp only[go_sem,simprocAttr];exact ret _ false H3 (k2.trans k3) k_ (by simp)
   |true=>
    simp only[go_sem,simprocAttr,t5,hw];refine⟨j-1,o_,_,p+1,o_,rfl,k2.trans k3,o_,g3',q_ t1,k_,fun i x hi hx=>?_⟩;by_cases q:i=p
    ·subst q;rw[hget]at hx;cases hx;exact hb3 rfl
    ·exact pre i x o_ hx
  ·have hpp:p=d.rules.length:=o_;subst hpp;simp only[go_sem,simprocAttr];exact L3 _ H2 k2 n2 g2' (q_ t1) fun a=>hF a (jx pre)
 have L1:∀ (tm:Tm) (H:AH),HK h H->h.z<H.z->H.get h.z=some (.box (aM d))->nth tm 1=.ptr h.z 0 0->
   ((∀ f∈d.funs,f.name.size<=200/\size f.type<=400/\SmT f.tree 40)->(∀ r∈d.rules,size r<=400)->(∀ c∈d.ctors,c.name.size<=200/\size c.type<=400)->FD d)->R (cS K m) 1000000000000 [.code AN] (IQ Cg (fun v h2=>∃ v' h3,cG v h2=(v',h3)/\(∃ b,v'=.bool b/\(b=true->FD d))/\HK h h3)) .normal ⟨tm,⟨[],.no,none,86⟩⟩ H:=by
  intro tm H k0 n0 g0' t1 hF;simp only[go_sem,simprocAttr,AN];refine bB (abe d h.z 3 d.ctors (fun c=>c.name.size<=200/\size c.type<=400) h) d.ctors.length (by have:=pd.cl;omega) ⟨_,0,z_ _,rfl,k0,n0,g0',q_ t1,k_,fun i x hi=>by omega⟩ ?_;clear k0 n0 g0' t1 H tm;rintro j fr H2 ⟨tm,p,hp2,rfl,k2,n2,g2',t1,t5,pre⟩;have g2:=g2';unfold aM at g2;unfold Qb;simp only[go_sem,simprocAttr,t1,t5,g2,L_];refine aX (fun hlt=>?_) (fun hge=>?_)
  ·have hlt:p<d.ctors.length:=o_;have hget:d.ctors[p]?=some d.ctors[p]:=a_ hlt;have hmem:=pd.ct _ (m_ hget);have hl:=pd.cl;revert hget hmem;generalize d.ctors[p]=f;intro hget hmem;have ha:=fun h=>aK fN hget .i64 h
   have hf0:∀ h,cp (.vptr (hT f)) h 0 1 false=.val (.vptr (.str f.name)) h:=fun h=>rfl
   have hf1:∀ h,cp (.vptr (hT f)) h 1 5 true=.val (.vptr (.agg (aJ f.type))) h:=fun h=>rfl
   have hlt5:=kG f.type;obtain⟨v,H3,e3,⟨b3,rfl,hb3⟩,k3⟩:=zn hK n m f.type (h:=H2) o_ hmem o_;have n3:=k3.z;have g3':=(k3.kw _ o_).trans g2';rw[dF]at e3;have hw:=aP p o_;by_cases a3:(f.name.size:Int) > 200
   ·have d3:decide ((f.name.size:Int) > 200)=true:=T_ a3;simp only[go_sem,simprocAttr,vF,t1,t5,g2,ha,hf0,d3];exact ret _ false H2 k2 k_ (by simp)
   have d3:decide ((f.name.size:Int) > 200)=false:=D_ a3;cases b3 with
   |false=>
    simp only[go_sem,simprocAttr,vF,t1,t5,g2,ha,hf0,d3,hf1,hlt5,e3];exact ret _ false H3 (k2.trans k3) k_ (by simp)
   |true=>
    simp only[go_sem,simprocAttr,vF,t1,t5,g2,ha,hf0,d3,hf1,hlt5,e3,hw];refine⟨j-1,o_,_,p+1,o_,rfl,k2.trans k3,o_,g3',q_ t1,k_,fun i x hi hx=>?_⟩;by_cases q:i=p
    ·subst q;rw[hget]at hx;cases hx;exact⟨o_,hb3 rfl⟩
    ·exact pre i x o_ hx
  ·have hpp:p=d.ctors.length:=o_;subst hpp;simp only[go_sem,simprocAttr];exact L2 _ H2 k2 n2 g2' (q_ t1) fun a b=>hF a b (jx pre)
 obtain⟨v,H1,e1,⟨b1,rfl,hb1⟩,k1⟩:=zn hK n m d.type (h:=H) o_ pd.ty o_;have n1:=k1.z;have g1':=(k1.kw _ o_).trans g0';obtain⟨v,H2,e2,⟨b2,rfl,hb2⟩,k2⟩:=zn hK n m d.value (h:=H1) o_ pd.value o_;have n2:=k2.z;have g2':=(k2.kw _ o_).trans g1';obtain⟨v,H3,e3,⟨b3,rfl,hb3⟩,k3⟩:=zn hK n m d.rtype (h:=H2) o_ pd.rty o_;have n3:=k3.z;have g3':=(k3.kw _ o_).trans g2';rw[aU]at e1 e2 e3;have g0:=g0';have g1:=g1';have g2:=g2';have g3:=g3';unfold aM at g0 g1 g2 g3;unfold agN;simp only[go_sem,simprocAttr,A_,hbx];rw[<- hH];clear hH;by_cases a1:(d.name.size:Int) > 200
 ·have d1:decide ((d.name.size:Int) > 200)=true:=T_ a1;simp only[go_sem,simprocAttr,iI,g0,d1];exact ret _ false H k0 k_ (by simp)
 have d1:decide ((d.name.size:Int) > 200)=false:=D_ a1;cases b1 with
 |false=>
  simp only[go_sem,simprocAttr,iI,g0,d1,e1];exact ret _ false H1 (k0.trans k1) k_ (by simp)
 |true=>
 cases b2 with
 |false=>
  simp only[go_sem,simprocAttr,iI,g0,d1,e1,g1,e2];exact ret _ false H2 ((k0.trans k1).trans k2) k_ (by simp)
 |true=>
 by_cases a2:(d.ctors.length:Int) > 40
 ·have d2:decide ((d.ctors.length:Int) > 40)=true:=T_ a2;simp only[go_sem,simprocAttr,iI,g0,d1,e1,g1,e2,g2,L_,d2];exact ret _ false H2 ((k0.trans k1).trans k2) k_ (by simp)
 have d2:decide ((d.ctors.length:Int) > 40)=false:=D_ a2;by_cases a3:(d.funs.length:Int) > 12
 ·have d3:decide ((d.funs.length:Int) > 12)=true:=T_ a3;simp only[go_sem,simprocAttr,iI,g0,d1,e1,g1,e2,g2,L_,d2,d3];exact ret _ false H2 ((k0.trans k1).trans k2) k_ (by simp)
 have d3:decide ((d.funs.length:Int) > 12)=false:=D_ a3;cases b3 with
 |false=>
  simp only[go_sem,simprocAttr,iI,g0,d1,e1,g1,e2,g2,L_,d2,d3,e3];exact ret _ false H3 (((k0.trans k1).trans k2).trans k3) k_ (by simp)
 |true=>
 by_cases a4:(d.rules.length:Int) > 40
 ·have d4:decide ((d.rules.length:Int) > 40)=true:=T_ a4;simp only[go_sem,simprocAttr,iI,g0,d1,e1,g1,e2,g2,L_,d2,d3,e3,g3,d4];exact ret _ false H3 (((k0.trans k1).trans k2).trans k3) k_ (by simp)
 have d4:decide ((d.rules.length:Int) > 40)=false:=D_ a4;simp only[go_sem,simprocAttr,iI,g0,d1,e1,g1,e2,g2,L_,d2,d3,e3,g3,d4];exact L1 _ H3 (((k0.trans k1).trans k2).trans k3) o_ g3' k_ fun a b c=>⟨o_,hb1 rfl,hb2 rfl,hb3 rfl,o_,o_,o_,c,b,a⟩
end
section
variable {K:aQ}{h:AH}
def I1046 (env:List DV)(h0:AH)(j:Nat)(fr:AF)(h:AH):Prop:=∃ tm p,p+j=env.length/\fr=⟨tm,⟨[],.no,none,46⟩⟩/\HK h0 h/\nth tm 0=.ls (env.map bW)/\nth tm 3=i_ (p:Int)/\∀ (i:Nat) x,i<p->env[i]?=some x->FD x
theorem c1046 (hK:aZ K)(n m:Nat)(env:List DV)(pd:∀ d∈env,PD n d)(hl:env.length<=n)(hm:n+5<=m)(hn:n<=10000000):
  ∃ v h',cS K m (.fn 46 [] []) [.ls (env.map bW)] .no h=some (.ret v,.no,h')/\(∃ b,v=.bool b/\(b=true->(∀ d∈env,FD d)/\env.length<=70))/\HK h h':=by
 obtain⟨m,rfl⟩:∃ k,m=k+1:=⟨m-1,o_⟩
 refine bh hK ajV (ae (jD _ _) (aC _)) ?_;have ret:∀ (tm:Tm) (b:Bool) (H:AH),HK h H->nth tm 2=.bool b->(b=true->(∀ d∈env,FD d)/\env.length<=70)->IQ TG (fun v h2=>∃ v' h3,cG v h2=(v',h3)/\(∃ b,v'=.bool b/\(b=true->(∀ d∈env,FD d)/\env.length<=70))/\HK h h3) .ret ⟨tm,⟨[],.no,none,46⟩⟩ H:=fun tm b H hk t2 hb=>
  ⟨rfl,rfl,.inr rfl,[.bool b],by simp only[go_sem,simprocAttr,TG,t2],.bool b,_,aS (by intro l e;cases e) (aW _ _),⟨_,rfl,hb⟩,hk⟩
 unfold ag6;simp only[go_sem,simprocAttr,Na];refine bB (I1046 env h) env.length o_ ⟨_,0,z_ _,rfl,HK.refl h,k_,k_,fun i x hi=>by omega⟩ ?_;rintro j fr H2 ⟨tm,p,hp,rfl,k2,t0,t3,pre⟩;have fin:∀ (tm:Tm),nth tm 0=.ls (env.map bW)->(p=env.length∨80<=p)->R (cS K m) 1000000000000 [.code AU] (IQ TG (fun v h2=>∃ v' h3,cG v h2=(v',h3)/\(∃ b,v'=.bool b/\(b=true->(∀ d∈env,FD d)/\env.length<=70))/\HK h h3)) .normal ⟨tm,⟨[],.no,none,46⟩⟩ H2:=by
  intro tm t0 hp5;simp only[go_sem,simprocAttr,AU,t0,L_];refine ret _ (decide ((env.length:Int)<=70)) H2 k2 k_ fun e=>?_
  have e:=of_decide_eq_true e;have hpe:p=env.length:=o_;subst hpe;exact⟨jx pre,o_⟩
 unfold Qm;by_cases a1:(p:Int)<(env.length:Int)
 ·have d1:decide ((p:Int)<(env.length:Int))=true:=T_ a1;by_cases a2:(p:Int)<80
  ·have d2:decide ((p:Int)<80)=true:=T_ a2;have hlt:p<env.length:=o_;have hget:env[p]?=some env[p]:=a_ hlt;have hmem:=pd _ (m_ hget);revert hget hmem;generalize env[p]=d;intro hget hmem;have ha:=fun h=>aK eL hget .i64 h
   have hld:=fun h=>cI (v:=bW d) (sz:=23) rfl (eL d) h
   obtain⟨v,H3,e3,⟨b3,rfl,hb3⟩,k3⟩:=c1086 (h:=H2) hK n m d hmem o_ hn;have hw:=aP p o_;simp only[go_sem,simprocAttr,t0,t3,L_,d1,d2,Nb,ha,hld,e3];cases b3 with
   |false=>
    simp only[go_sem,simprocAttr];exact ret _ false H3 (k2.trans k3) k_ (by simp)
   |true=>
    simp only[go_sem,simprocAttr,t3,hw];refine⟨j-1,o_,_,p+1,o_,rfl,k2.trans k3,q_ t0,k_,fun i x hi hx=>?_⟩;by_cases q:i=p
    ·subst q;rw[hget]at hx;cases hx;exact hb3 rfl
    ·exact pre i x o_ hx
  ·have d2:decide ((p:Int)<80)=false:=D_ a2;simp only[go_sem,simprocAttr,t0,t3,L_,d1,d2];exact fin _ (q_ t0) (.inr o_)
 ·have d1:decide ((p:Int)<(env.length:Int))=false:=D_ a1;simp only[go_sem,simprocAttr,t0,t3,L_,d1];exact fin _ (q_ t0) (.inl o_)
end
section
variable {K:aQ}
structure Ps (K:aQ)(m:Nat)(fv:AV)(Q:T->Prop)(xs:List T):Prop where
 run:∀ x∈xs,∀ h,∃ v h',cS K m fv [enc x] .no h=some (.ret v,.no,h')/\(∃ b,v=.bool b/\(b=false->Q x))/\HK h h'
 can:∀ h,cE fv h=(fv,h)
def I160 (xs:List T)(fv:AV)(Q:T->Prop)(h0:AH)(j:Nat)(fr:AF)(h:AH):Prop:=∃ tm i,i+j=xs.length/\fr=⟨tm,⟨[],.no,none,88⟩⟩/\HK h0 h/\nth tm 0=.ls (xs.map enc)/\nth tm 1=fv/\nth tm 7=i_ (xs.length:Int)/\nth tm 8=i_ (i:Int)/\∀ (a:Nat) x,a<i->xs[a]?=some x->Q x
theorem c160 (hK:aZ K){m:Nat}{xs:List T}{fv:AV}{Q:T->Prop}(pr:Ps K m fv Q xs){h:AH}(hl:xs.length<10000000):
  ∃ v h',cS K (m+1) (.fn 88 [] []) [.ls (xs.map enc),fv] .no h=some (.ret v,.no,h')/\(∃ i:Int,v=i_ i/\(¬ 0<=i->∀ x∈xs,Q x))/\HK h h':=by
 refine bh hK cf160 (ae (pY xs h) (ae (pr.can h) (aC _))) ?_;simp only[A_];unfold b160;simp only[go_sem,simprocAttr,Yp,L_];refine bB (I160 xs fv Q h) xs.length o_ ⟨_,0,z_ _,rfl,HK.refl h,k_,k_,k_,k_,fun a x ha=>by omega⟩ ?_;rintro j fr H ⟨tm,i,hi,rfl,hk,t0,t1,t7,t8,hn⟩;unfold ZF;simp only[go_sem,simprocAttr,t7,t8,Yr];refine aX (fun hlt=>?_) (fun hge=>?_)
 ·have hlt:i<xs.length:=o_;have hget:xs[i]?=some xs[i]:=a_ hlt;have ha:=fun h=>aK (f:=enc) (sz:=5) bJ hget .i64 h
  have ele:=fun h=>cI (v:=enc xs[i]) (sz:=5) (hG _) (bJ _) h
  obtain⟨v,H',e,⟨b,rfl,hb⟩,hk'⟩:=pr.run _ (List.getElem_mem hlt) H;have hw:=aP i o_;simp only[go_sem,simprocAttr,Ys,Yt,t0,t1,t8,ha,ele,e];cases b with
  |true=>
   simp only[go_sem,simprocAttr];exact⟨rfl,rfl,.inr rfl,[i_ (i:Int)],by simp only[go_sem,simprocAttr,akT],i_ (i:Int),H',aS (by intro l e;cases e) (aG _ _ _),⟨_,rfl,fun q=>absurd (Int.natCast_nonneg i) q⟩,hk.trans hk'⟩
  |false=>
   simp only[go_sem,simprocAttr,t8,hw];refine⟨j-1,o_,_,i+1,o_,rfl,hk.trans hk',q_ t0,q_ t1,q_ t7,k_,fun a x q hx=>?_⟩;by_cases qa:a=i
   ·subst qa;rw[hget]at hx;cases hx;exact hb rfl
   ·exact hn a x o_ hx
 ·have hp:i=xs.length:=o_;subst hp;simp only[go_sem,simprocAttr,Yq];exact⟨rfl,rfl,.inr rfl,[i_ (-1)],by simp only[go_sem,simprocAttr,akT],i_ (-1),H,aS (by intro l e;cases e) (aG _ _ _),⟨_,rfl,fun _=>jx hn⟩,hk⟩
theorem c111 (hK:aZ K){m:Nat}{xs:List T}{fv:AV}{Q:T->Prop}(pr:Ps K m fv Q xs){h:AH}(hl:xs.length<10000000):
  ∃ v h',cS K (m+2) (.fn 48 [] []) [.ls (xs.map enc),fv] .no h=some (.ret v,.no,h')/\(∃ b,v=.bool b/\(b=false->∀ x∈xs,Q x))/\HK h h':=by
 refine bh hK cf111 (ae (pY xs h) (ae (pr.can h) (aC _))) ?_;simp only[A_];obtain⟨v,h',e,⟨i,rfl,hi⟩,hk⟩:=c160 (h:=h) hK pr hl;unfold b111;simp only[go_sem,simprocAttr,YI,e];exact⟨rfl,rfl,.inr rfl,[.bool (decide (0<=i))],by simp only[go_sem,simprocAttr,r111],.bool (decide (0<=i)),h',aS (by intro l e;cases e) (aW _ _),⟨_,rfl,fun q=>hi (of_decide_eq_false q)⟩,hk⟩
end
mutual
def TB:eY->Prop
 |.mk _ b _ l=>TOK b/\TBs l
def TBs:List Br->Prop
 |[]=>True
 |.mk _ _ t::l=>TB t/\TBs l
end
theorem Qw:∀ {l:List Br},(∀ b∈l,TB (brT b))->TBs l
 |[],_=>by unfold TBs;trivial
 |.mk c a t::l,h=>by
  unfold TBs;exact⟨h _ (List.mem_cons_self ..),Qw fun b hb=>h b (List.mem_cons_of_mem _ hb)⟩
mutual
theorem Qv:∀ (t:eY) (n n':Nat),SmT t n->TB t->n<=n'->To t n'
 |.mk k b v l,n,n',h,g,le=>by
  unfold SmT at h;unfold TB at g;unfold To;exact⟨g.1,o_,o_,QA l n n' h.2.2 g.2 le⟩
theorem QA:∀ (l:List Br) (n n':Nat),SmB l n->TBs l->n<=n'->Tp l n'
 |[],_,_,_,_,_=>by unfold Tp;trivial
 |.mk c a t::l,n,n',h,g,le=>by
  unfold SmB at h;unfold TBs at g;unfold Tp;obtain⟨⟨k,rfl,hk⟩,hl⟩:=h;exact⟨⟨n'-1,o_,Qv t k (n'-1) hk g.1 o_⟩,QA l _ n' hl g.2 le⟩
end
theorem EJ:∀ (n:Nat) (t:T),size t<=n->leadN t=(gk t).length:=by
 intro n;induction n with
 |zero=>intro t h;have:=bZ t;omega
 |succ n ih=>
  intro t h;obtain⟨k,i,nm,ls,ks⟩:=t
  match ks with
  |[]=>rfl
  |[_]=>rfl
  |[a,b]=>
   have hs:size (.mk k i nm ls [a,b])=1+(size a+(size b+0)):=by simp only[size,bO]
   have ha:=bZ a;rw[leadN,gk];split
   ·rw[ih b o_];rfl
   ·rfl
  |_::_::_::_=>rfl
structure OD (d:DV):Prop where
 fx0:0<=d.fixed
 fx1:d.kind=3->d.fixed<=(leadN d.type:Int)
 value:d.kind=1->TOK d.value
 rules:∀ r∈d.rules,TOK r
 funs:∀ f∈d.funs,1<=f.arity/\f.arity<=16/\TB f.tree
theorem Dg.of {d:DV}(f:FD d)(o:OD d):Dg d where
 ds:=⟨by have:=f.cl;omega,by have:=f.fl;omega,by have:=f.name;omega⟩
 fx0:=o.fx0
 fx1:=fun q=>by have:=o.fx1 q;rw[EJ _ _ (e_ _)]at this;exact this
 ty:=by have:=f.ty;omega
 cty:=fun c hc=>by have:=(f.ct c hc).2;have h2:=ma _ c.type (e_ _);omega
 value:=fun q=>⟨o.value q,by have:=f.value;omega⟩
 rules:=fun r hr=>⟨o.rules r hr,by have:=f.rr r hr;omega⟩
 funs:=fun x hx=>⟨(o.funs x hx).1,(o.funs x hx).2.1,Qv _ _ _ (f.fn x hx).2.2 (o.funs x hx).2.2 o_⟩
theorem Eg.of {env:List DV}(f:∀ d∈env,FD d)(l:env.length<=70)(o:∀ d∈env,OD d):Eg env:=⟨o_,fun d hd=>.of (f d hd) (o d hd)⟩
