/- MachineKeeps: guards: a term of a declaration; fields; trees that are zero (no condition). -/
import Derived.Test.YtocdlbblemjabaaGreatDoorBv
namespace Go.Proofs.YtocdlbblemjabaaGreatDoor
open Go.AG Go.AG.MK
section
variable {K:aQ}{h:AH}
theorem afF (hK:aZ K)(env:List DV)(own:List ByteArray)(d:DV)(sc:SC env own d)(n m:Nat)(t:T)(vs ps:Int)(hm:n+7<=m)(hs:size t<=n)(hn:n<=10000000)(bt:BT t)(hv:vs<=60000):
  ∃ v h',cS K m (.fn 170 [] []) [jy env own d,enc t,i_ vs,i_ ps] .no h=some (.ret v,.no,h')/\(∃ e:Int,v=i_ e/\(e=0->TOK t))/\HK h h':=by
 obtain⟨m,rfl⟩:∃ k,m=k+1:=⟨m-1,o_⟩
 refine bh hK ai1 (ae (xS _ _ _ h) (ae (bR t h) (ae (aG _ _ _) (ae (aG _ _ _) (aC _))))) ?_;have hbx:=bN (h:=h) (cO env own d) 25 rfl;have n1:=ala h (.box (cO env own d));obtain⟨H,hH⟩:∃ H:AH,H=(h.new (.box (cO env own d))).new (.box (aJ t)):=⟨_,rfl⟩
 have n0:H.z=h.z+2:=by rw[hH,ala,n1]
 have q0:xk env own d t h.z h H:=⟨by rw[hH];exact(HK.new _ _).add _,e_ _,o_,by rw[hH,aL o_,aE],by rw[hH,<- n1,aE]⟩;have ret:∀ (tm:Tm) (e:Int) (H:AH),HK h H->nth tm 8=i_ e->(e=0->TOK t)->IQ aal (fun v h2=>∃ v' h3,cG v h2=(v',h3)/\(∃ e:Int,v'=i_ e/\(e=0->TOK t))/\HK h h3) .ret ⟨tm,⟨[],.no,none,170⟩⟩ H:=fun tm e H hk t2 he=>
  ⟨rfl,rfl,.inr rfl,[i_ e],by simp only[go_sem,simprocAttr,aal,t2],i_ e,_,aS (by intro l e;cases e) (aG _ _ _),⟨_,rfl,he⟩,hk⟩
 obtain⟨v,H3,e3,⟨e,rfl,he⟩,k3⟩:=c7 (h:=H) hK vs ps 0 0 n m t o_ hs o_ bt;have q3:=q0.up k3;obtain⟨v,H4,e4,⟨e',rfl⟩,k4⟩:=c1195 hK env own d sc n m t H3 o_ hs hn;have g0:=q0.g0;have g1:=q0.g1;have g30:=q3.g0;have g31:=q3.g1;unfold cO aM at g0 g30;unfold aJ at g1 g31;unfold cO at hbx n1;unfold aJ cO at hH;rw[aU t]at e3 e4 ⊢;unfold jy agc;unfold jy aM at e4;simp only[go_sem,simprocAttr,hbx,n1,<- hH,Jl,g1,e3];by_cases q:e=0
 ·have ht:TOK t:=by
   obtain⟨c,hz⟩:=he q;exact c.tok o_ 4096 t 0 hz o_
  subst q;simp only[go_sem,simprocAttr,Jm,g30,g31,e4];exact ret _ e' H4 (q3.hk.trans k4) k_ (fun _=>ht)
 ·have de:decide (e=0)=false:=D_ q;simp only[go_sem,simprocAttr,de];exact ret _ e H3 q3.hk k_ (fun q'=>absurd q' q)
theorem c1190 (hK:aZ K)(m:Nat)(d:DV)(jn:Nat)(c:CtV)(hj:d.ctors[jn]?=some c)(f0:0<=d.fixed)(f1:d.fixed<=400)(hc:size c.type<=400):
  ∃ v h',cS K (m+2) (.fn 190 [] []) [bW d,i_ (jn:Int)] .no h=some (.ret v,.no,h')/\(∃ f:Int,v=i_ f/\0<=f/\f<=400)/\HK h h':=by
 refine bh hK aiV (ae (mr d h) (ae (aG _ _ _) (aC _))) ?_;rw[cA];have hbx:=bN (h:=h) (aM d) 23 rfl;obtain⟨H,hH⟩:∃ H:AH,H=h.new (.box (aM d)):=⟨_,rfl⟩
 have k0:HK h H:=by rw[hH];exact HK.new _ _
 have n0:H.z=h.z+1:=by rw[hH,ala]
 have g0':H.get h.z=some (.box (aM d)):=by rw[hH,aE]
 have g0:=g0';unfold aM at g0;have ha:=fun h=>aK fN hj .i64 h
 have hf1:∀ h,cp (.vptr (hT c)) h 1 5 true=.val (.vptr (.agg (aJ c.type))) h:=fun h=>rfl
 have hlT:=kG c.type;unfold aJ at hf1 hlT;obtain⟨v,H3,e3,rfl,k3⟩:=c1189 hK m c.type H o_;rw[aU c.type]at e3;have g3:=(k3.kw _ o_).trans g0';unfold aM at g3;obtain⟨HA,hHA⟩:∃ HA:AH,HA=(H3.new (.box [i_ 0,i_ 0,.str (bs []),.nl,.nl])).set H3.z (.box (aJ (nW c.type))):=⟨_,rfl⟩
 have kA:HK H3 HA:=by rw[hHA];exact(HK.new _ _).set _ (e_ _)
 have gA:=(kA.kw _ (by have:=k3.z;omega)).trans g3;have hst:=du (aE H3 (.box [i_ 0,i_ 0,.str (bs []),.nl,.nl])) (nW c.type);rw[<- hHA]at hst;clear hHA;have htl:=ma _ c.type (e_ _);have hsub:IntKind.wrap .i64 (((gk c.type).length:Int)-d.fixed)=((gk c.type).length:Int)-d.fixed:=bI _ o_ o_;unfold af7;simp only[go_sem,simprocAttr,hbx,<- hH,IT,g0,ha,hf1,hlT,e3,hst,IU,gA,L_,hsub];exact⟨rfl,rfl,.inr rfl,[i_ (max 0 (((gk c.type).length:Int)-d.fixed))],by simp only[go_sem,simprocAttr,aeY],i_ (max 0 (((gk c.type).length:Int)-d.fixed)),_,aS (by intro l e;cases e) (aG _ _ _),⟨_,rfl,o_,o_⟩,(k0.trans k3).trans kA⟩
end
mutual
def BTr:eY->Prop
 |.mk _ b _ l=>BT b/\Tq l
def Tq:List Br->Prop
 |[]=>True
 |.mk _ _ t::l=>BTr t/\Tq l
end
theorem Fu {b:Br}: ∀ {l:List Br},b∈l->Tq l->BTr (brT b)
 |.mk c a t::l,h,g=>by
  unfold Tq at g;rcases List.mem_cons.1 h with rfl|h
  ·exact g.1
  ·exact Fu h g.2
theorem Qx {b:Br}{n:Nat}: ∀ {l:List Br},b∈l->SmB l n->∃ k,n=k+1/\SmT (brT b) k
 |.mk c a t::l,h,g=>by
  unfold SmB at g;rcases List.mem_cons.1 h with rfl|h
  ·exact g.1
  ·exact Qx h g.2
theorem abc {t:eY}(h1:TOK (fX t))(h2:∀ b∈cy t,TB (brT b)):TB t:=by
 obtain⟨k,b,v,l⟩:=t;unfold TB;exact⟨h1,Qw h2⟩
theorem ze {t:eY}(h:BTr t):BT (fX t)/\Tq (cy t):=by obtain⟨k,b,v,l⟩:=t;unfold BTr at h;exact h
theorem SY {t:eY}{n:Nat}(h:SmT t n):size (fX t)<=400/\(cy t).length<=40/\SmB (cy t) n:=by obtain⟨k,b,v,l⟩:=t;unfold SmT at h;exact h
def zTr0:eY:=.mk 0 t0 0 []
theorem WX:TOK t0:=ID (by decide) (by decide)
section
variable {K:aQ}{h:AH}
def I1196 (b:Nat)(x:eY)(h0:AH)(_j:Nat)(fr:AF)(h:AH):Prop:=∃ tm,fr=⟨tm,⟨[],.no,none,196⟩⟩/\HK h0 h/\h.get b=some (.box (bu x))/\nth tm 2=.ptr b 0 0/\nth tm 5=i_ 0
theorem c1196 (hK:aZ K)(n m:Nat)(x:eY)(hm:n+6<=m)(hs:ts x<=n)(hn:n<=10000000)(bt:BT (fX x)):
  ∃ v h',cS K m (.fn 196 [] []) [dR x,dR zTr0] .no h=some (.ret v,.no,h')/\(∃ b,v=.bool b/\(b=true->TB x))/\HK h h':=by
 obtain⟨m,rfl⟩:∃ k,m=k+1:=⟨m-1,o_⟩
 have hp:=oG x;rw[bM,bM];refine bh hK aiS (ae (iQ x h) (ae (iQ zTr0 h) (aC _))) ?_;have hbx:=fun(x:eY) (h:AH)=>bN (h:=h) (bu x) 8 rfl
 have n1:=ala h (.box (bu x));obtain⟨H,hH⟩:∃ H:AH,H=(h.new (.box (bu x))).new (.box (bu zTr0)):=⟨_,rfl⟩
 have k0:HK h H:=by rw[hH];exact(HK.new _ _).add _
 have n0:H.z=h.z+2:=by rw[hH,ala,n1]
 have g0':H.get h.z=some (.box (bu x)):=by rw[hH,aL o_,aE]
 have g1':H.get (h.z+1)=some (.box (bu zTr0)):=by rw[hH,<- n1,aE]
 have ret:∀ (tm:Tm) (b:Bool) (H:AH),HK h H->nth tm 4=.bool b->(b=true->TB x)->IQ aai (fun v h2=>∃ v' h3,cG v h2=(v',h3)/\(∃ b,v'=.bool b/\(b=true->TB x))/\HK h h3) .ret ⟨tm,⟨[],.no,none,196⟩⟩ H:=fun tm b H hk t4 hb=>
  ⟨rfl,rfl,.inr rfl,[.bool b],by simp only[go_sem,aai,t4],.bool b,_,aS (by intro l e;cases e) (aW _ _),⟨_,rfl,hb⟩,hk⟩
 obtain⟨v,H3,e3,⟨b3,rfl,hb3⟩,k3⟩:=c11 hK n m (fX x) t0 H o_ o_ hn (by decide) bt Bu;have g3':=(k3.kw _ o_).trans g0';have g31':=(k3.kw _ o_).trans g1';have g0:=g0';have g1:=g1';have g3:=g3';have g31:=g31';rw[aU,aU]at e3;have zk:jO zTr0=0:=rfl;have zv:gu zTr0=0:=rfl;have zb:fX zTr0=t0:=rfl;have zl:cy zTr0=[]:=rfl;unfold bu gh at g0 g1 g3 g31;rw[zk,zv,zb,zl]at g1 g31;unfold af4;simp only[go_sem,Nat.reduceEqDiff,reduceCtorEq,hbx,n1,<- hH,IH,g0,g1,List.map_nil];clear hH;by_cases a1:jO x=0
 case neg=>
  have d1:decide (jO x=0)=false:=D_ a1;simp only[go_sem,Nat.reduceEqDiff,d1];exact ret _ false H k0 (by simp only[go_sem]) (by simp)
 have d1:decide (jO x=0)=true:=T_ a1;by_cases a2:gu x=0
 case neg=>
  have d2:decide (gu x=0)=false:=D_ a2;simp only[go_sem,Nat.reduceEqDiff,d1,g0,g1,d2];exact ret _ false H k0 (by simp only[go_sem]) (by simp)
 have d2:decide (gu x=0)=true:=T_ a2;cases b3 with
 |false=>
  simp only[go_sem,Nat.reduceEqDiff,Nat.reduceAdd,Nat.reduceLeDiff,d1,g0,g1,d2,e3];exact ret _ false H3 (k0.trans k3) (by simp only[go_sem]) (by simp)
 |true=>
  by_cases a4:cy x=[]
  case neg=>
   have d4:decide (((cy x).length:Int)=((0:Nat):Int))=false:=D_ (by
    have:(cy x).length≠0:=fun e=>a4 (List.eq_nil_of_length_eq_zero e)
    omega)
   simp only[go_sem,Nat.reduceEqDiff,Nat.reduceAdd,Nat.reduceLeDiff,d1,g0,g1,d2,e3,g3,g31,L_,List.map_nil,List.length_nil,d4];exact ret _ false H3 (k0.trans k3) (by simp only[go_sem]) (by simp)
  have d4:decide (((cy x).length:Int)=((0:Nat):Int))=true:=by rw[a4];rfl
  simp only[go_sem,Nat.reduceEqDiff,Nat.reduceAdd,Nat.reduceLeDiff,d1,g0,g1,d2,e3,g3,g31,L_,List.map_nil,List.length_nil,d4,II];refine bB (I1196 h.z x h) 0 o_ ⟨_,rfl,k0.trans k3,g3',by simp only[go_sem,Nat.reduceEqDiff],by simp only[go_sem]⟩ ?_;rintro j fr H2 ⟨tm,rfl,k2,g2,t2,t5⟩;unfold bu gh at g2;rw[a4]at g2;unfold Pk;simp only[go_sem,Nat.reduceEqDiff,t2,t5,g2,List.map_nil,List.length_nil];refine aX (fun hlt=>?_) (fun hge=>?_)
  ·omega
  ·simp only[go_sem,IJ];exact ret _ true H2 k2 (by simp only[go_sem]) fun _=>abc (by rw[hb3 rfl];exact WX) (by rw[a4];simp)
theorem Gt (env:List DV)(own:List ByteArray)(d:DV):(jy env own d).free=true:=by
 have f:=fg d;rw[cA]at f;simp only[AV.free]at f;have fe:AV.ale (env.map bW)=true:=bE fg env;have fo:AV.ale (own.map AV.str)=true:=bE (fun _=>rfl) own;simp only[jy,AV.free,AV.ale,f,fe,fo,Bool.and_self]
structure SE (env:List DV):Prop where
 f:∀ d∈env,0<=d.fixed/\d.fixed<=400/\∀ c∈d.ctors,size c.type<=400
structure Dj (env:List DV)(own:List ByteArray)(d:DV)(t:eY)(b:Nat)(h0:AH)(h:AH):Prop where
 hk:HK h0 h
 hb:h0.z<=b
 hn:b+1<h.z
 g0:h.get b=some (.box (cO env own d))
 g1:h.get (b+1)=some (.box (bu t))
theorem Dj.up {env:List DV}{own:List ByteArray}{d:DV}{t:eY}{b:Nat}{h0 h h':AH}(q:Dj env own d t b h0 h)(k:HK h h'):Dj env own d t b h0 h':=
 ⟨q.hk.trans k,q.hb,by have:=k.z;have:=q.hn;omega,(k.kw _ (by have:=q.hn;omega)).trans q.g0,(k.kw _ q.hn).trans q.g1⟩
def I1171 (env:List DV)(own:List ByteArray)(d:DV)(t:eY)(vs dp:Int)(b:Nat)(h0:AH)(j:Nat)(fr:AF)(h:AH):Prop:=∃ tm p,p+j=(cy t).length/\fr=⟨tm,⟨[],.no,none,171⟩⟩/\Dj env own d t b h0 h/\nth tm 2=i_ vs/\nth tm 3=i_ dp/\nth tm 4=.ptr b 0 0/\nth tm 5=.ptr (b+1) 0 0/\nth tm 9=i_ (p:Int)/\
 ∀ (i:Nat) x,i<p->(cy t)[i]?=some x->TB (brT x)
theorem c1171 (hK:aZ K)(env:List DV)(own:List ByteArray)(d:DV)(sc:SC env own d)(se:SE env):∀ (n m:Nat) (t:eY) (k:Nat) (vs dp:Int) (h:AH),n+12<=m->ts t<=n->n<=10000000->SmT t k->BTr t->-1000<=vs->vs+400*k<=60000->
  ∃ v h',cS K m (.fn 171 [] []) [jy env own d,dR t,i_ vs,i_ dp] .no h=some (.ret v,.no,h')/\(∃ e:Int,v=i_ e/\(e=0->TB t))/\HK h h':=by
 intro n;induction n with
 |zero=>intro m t k vs dp h _ hs;have:=oG t;omega
 |succ n ih=>
  intro m t k vs dp h hm hs hn sm btr v0 hv;obtain⟨m,rfl⟩:∃ k,m=k+3:=⟨m-3,o_⟩
  have hp:=oG t;have hl:=Ab (cy t);obtain⟨bt,bts⟩:=ze btr;obtain⟨_,sl,sb⟩:=SY sm;rw[bM];refine bh hK aiZ (ae (xS _ _ _ h) (ae (iQ t h) (ae (aG _ _ _) (ae (aG _ _ _) (aC _))))) ?_;have hbx:=bN (h:=h) (cO env own d) 25 rfl;have hbt:=fun(x:eY) (h:AH)=>bN (h:=h) (bu x) 8 rfl
  have n1:=ala h (.box (cO env own d));obtain⟨H,hH⟩:∃ H:AH,H=(h.new (.box (cO env own d))).new (.box (bu t)):=⟨_,rfl⟩
  have n0:H.z=h.z+2:=by rw[hH,ala,n1]
  have q0:Dj env own d t h.z h H:=⟨by rw[hH];exact(HK.new _ _).add _,e_ _,o_,by rw[hH,aL o_,aE],by rw[hH,<- n1,aE]⟩;have ret:∀ (tm:Tm) (e:Int) (H:AH),HK h H->nth tm 8=i_ e->(e=0->TB t)->IQ TC (fun v h2=>∃ v' h3,cG v h2=(v',h3)/\(∃ e:Int,v'=i_ e/\(e=0->TB t))/\HK h h3) .ret ⟨tm,⟨[],.no,none,171⟩⟩ H:=fun tm e H hk t2 he=>
   ⟨rfl,rfl,.inr rfl,[i_ e],by simp only[go_sem,simprocAttr,TC,t2],i_ e,_,aS (by intro l e;cases e) (aG _ _ _),⟨_,rfl,he⟩,hk⟩
  have loop:∀ (tm:Tm) (H:AH),Dj env own d t h.z h H->TOK (fX t)->nth tm 2=i_ vs->nth tm 3=i_ dp->nth tm 4=.ptr h.z 0 0->nth tm 5=.ptr (h.z+1) 0 0->R (cS K (m+2)) 1000000000000 [.code mE] (IQ TC (fun v h2=>∃ v' h3,cG v h2=(v',h3)/\(∃ e:Int,v'=i_ e/\(e=0->TB t))/\HK h h3)) .normal ⟨tm,⟨[],.no,none,171⟩⟩ H:=by
   intro tm H q tb t2 t3 t4 t5;have g1:=q.g1;unfold bu gh at g1;by_cases c1:gu t<0
   ·have d1:decide (gu t<0)=true:=T_ c1;simp only[go_sem,simprocAttr,mE,t5,g1,d1];exact ret _ 24 H q.hk k_ o_
   have d1:decide (gu t<0)=false:=D_ c1;by_cases c2:gu t≥vs
   ·have d2:decide (gu t≥vs)=true:=T_ c2;simp only[go_sem,simprocAttr,mE,t2,t5,g1,d1,d2];exact ret _ 24 H q.hk k_ o_
   have d2:decide (gu t≥vs)=false:=D_ c2;by_cases c3:((cy t).length:Int) > 32
   ·have d3:decide (((cy t).length:Int) > 32)=true:=T_ c3;simp only[go_sem,simprocAttr,mE,t2,t5,g1,d1,d2,Ah,L_,d3];exact ret _ 6 H q.hk k_ o_
   have d3:decide (((cy t).length:Int) > 32)=false:=D_ c3;simp only[go_sem,simprocAttr,mE,t2,t5,g1,d1,d2,Ah,L_,d3,Jd];refine bB (I1171 env own d t vs dp h.z h) (cy t).length o_ ⟨_,0,z_ _,rfl,q,q_ t2,q_ t3,q_ t4,q_ t5,k_,fun i x hi=>by omega⟩ ?_;clear q t2 t3 t4 t5 g1 H tm;rintro j fr H2 ⟨tm,p,hpj,rfl,q,t2,t3,t4,t5,t9,pre⟩;have g0:=q.g0;have g1:=q.g1;unfold cO aM at g0;unfold bu gh at g1;unfold Pu;simp only[go_sem,simprocAttr,t5,t9,g1,L_];refine aX (fun hlt=>?_) (fun hge=>?_)
   ·have hlt:p<(cy t).length:=o_;have hget:(cy t)[p]?=some (cy t)[p]:=a_ hlt;have hmem:=m_ hget;have hts:=ZV hmem;have hbr:=Fu hmem bts;have hsb:=Qx hmem sb;revert hget hts hbr hsb;generalize (cy t)[p]=b;intro hget hts hbr hsb;obtain⟨k',rfl,hsm⟩:=hsb;have ha:=fun h=>aK ml hget .i64 h
    obtain⟨c,ab,tr⟩:=b;have hld:∀ h,cj (.vptr (nL (.mk c ab tr))) h true 10=some (.agg (.str c :: .bool ab::bu tr)):=fun h=>by rw[lq];exact cI (v:=.agg (.str c :: .bool ab::bu tr)) (sz:=10) rfl rfl h
    have hw:=aP p o_;have hbt':BT (fX tr):=(ze hbr).1;obtain⟨HA,hHA⟩:∃ HA:AH,HA=(H2.new (.box [.str (bs []),.bool false,i_ 0,i_ 0,i_ 0,.str (bs []),.nl,.nl,i_ 0,.nl])).set H2.z (.box (.str c :: .bool ab::bu tr)):=⟨_,rfl⟩
    have kA:HK H2 HA:=by rw[hHA];exact(HK.new _ _).set _ (e_ _)
    have nA:H2.z<HA.z:=by rw[hHA,alb,ala];omega
    have gA':HA.get H2.z=some (.box (.str c :: .bool ab::bu tr)):=by rw[hHA,aH]
    have hst:=bp (h:=H2.new (.box [.str (bs []),.bool false,i_ 0,i_ 0,i_ 0,.str (bs []),.nl,.nl,i_ 0,.nl])) (vs:=.str c :: .bool ab::bu tr) (sz:=10) (aE _ _) rfl rfl;rw[<- hHA]at hst;clear hHA;have qA:=q.up kA;obtain⟨v,H3,e3,⟨e,f,rfl,hef⟩,k3⟩:=aa2 (h:=HA) hK m env c sc.ds sc.len;obtain⟨HB,hHB⟩:∃ HB:AH,HB=(H3.new (.box zE)).set H3.z (.box (bo e)):=⟨_,rfl⟩
    have kB:HK H3 HB:=by rw[hHB];exact(HK.new _ _).set _ (e_ _)
    have nB:H3.z<HB.z:=by rw[hHB,alb,ala];omega
    have gE':HB.get H3.z=some (.box (bo e)):=by rw[hHB,aH]
    have hse:=iN (aE H3 (.box zE)) rfl e;rw[<- hHB]at hse;unfold zE at hse;clear hHB;have kAB:=k3.trans kB;have qB:=qA.up kAB;have gB':=(kAB.kw _ nA).trans gA';have gA0:=qA.g0;have gA:=gA';have gB0:=qB.g0;have gB:=gB';have gE:=gE';unfold cO aM at gA0 gB0;unfold bu gh at gA gB hst hld;unfold bo at gE;simp only[go_sem,simprocAttr,Jf,t4,t5,t9,g1,ha,hld,hst,Jg,gA0,gA,e3,hse,Jh];by_cases qf:f=0
    case neg=>
     have df:decide (f=0)=false:=D_ qf;simp only[go_sem,simprocAttr,df];exact ret _ 9 HB qB.hk k_ o_
    subst qf;by_cases qk:e.kind=4
    case neg=>
     have dk:decide (e.kind=4)=false:=D_ qk;simp only[go_sem,simprocAttr,gE,dk];exact ret _ 9 HB qB.hk k_ o_
    have dk:decide (e.kind=4)=true:=T_ qk;obtain⟨n5,j5,d5,hd5,hdecl,hj5,hitem⟩:=hef rfl qk;simp only[go_sem,simprocAttr,gE,dk,Ji,gB];cases ab with
    |true=>
     obtain⟨v,H4,e4,⟨b4,rfl,hb4⟩,k4⟩:=c1196 (h:=HB) hK n (m+2) tr o_ (by show ts (brT (.mk c true tr))<=n;omega) o_ hbt';have hz:cE (.agg [i_ 0,i_ 0,i_ 0,.str (bs []),.nl,.nl,i_ 0,.nl]) HB=(dR zTr0,HB):=by
      rw[bG (by simp[AV.free,AV.ale])];rw[bM];simp[AV.norm,AV.ald,zTr0,bu,gh,jO,fX,gu,cy,t0,T.kind,T.idx,T.name,T.L,T.K]
     rw[<- jo (f:=196) (c:=[]) (ae (show cE (dR tr) HB=_ from by rw[bM];exact iQ tr HB) (ae hz (aC _))) (ae (show cE (dR tr) HB=(dR tr,HB) from by rw[bM];exact iQ tr HB) (ae (show cE (dR zTr0) HB=(dR zTr0,HB) from by rw[bM];exact iQ zTr0 HB) (aC _)))]at e4;rw[bM]at e4;unfold bu gh at e4;have hbz:∀ H:AH,bT H [i_ 0,i_ 0,i_ 0,.str (bs []),.nl,.nl,i_ 0,.nl] []=.val (.agg [i_ 0,i_ 0,i_ 0,.str (bs []),.nl,.nl,i_ 0,.nl]) H:=fun _=>rfl
     simp only[go_sem,simprocAttr,gB,hbz,e4];cases b4 with
     |false=>
      simp only[go_sem,simprocAttr];exact ret _ 3 H4 (qB.hk.trans k4) k_ o_
     |true=>
      simp only[go_sem,simprocAttr,t9,hw];refine⟨j-1,o_,_,p+1,o_,rfl,qB.up k4,q_ t2,q_ t3,q_ t4,q_ t5,k_,fun i x hi hx=>?_⟩;by_cases qi:i=p
      ·subst qi;rw[hget]at hx;cases hx;exact hb4 rfl
      ·exact pre i x o_ hx
    |false=>
     have hd5m:=m_ hd5;obtain⟨f0,f1,fc⟩:=se.f d5 hd5m;have had:∀ h,cz (.ls (env.map bW)) h 23 (i_ e.decl)=.val (.vptr (bW d5)) h:=fun h=>by rw[hdecl];exact aK eL hd5 .i64 h
     have hldd:=fun h=>cI (v:=bW d5) (sz:=23) rfl (eL d5) h
     have hc5:d5.ctors[j5]?=some d5.ctors[j5]:=a_ hj5;obtain⟨v,H4,e4,⟨f4,rfl,f40,f41⟩,k4⟩:=c1190 (h:=HB) hK m d5 j5 _ hc5 f0 f1 (fc _ (m_ hc5));rw[<- hitem]at e4;have hwv:IntKind.wrap .i64 (vs+f4)=vs+f4:=bI _ o_ o_;obtain⟨v,H5,e5,⟨e',rfl,he'⟩,k5⟩:=ih (m+2) tr k' (vs+f4) (IntKind.wrap .i64 (dp+1)) H4 o_ (by show ts (brT (.mk c false tr))<=n;omega) o_ hsm hbr o_ o_;rw[bM]at e5;unfold jy aM bu gh at e5;have gB40:=(qB.up k4).g0;have gB4:=(k4.kw _ (by have:=kAB.z;omega)).trans gB';unfold cO aM at gB40;unfold bu gh at gB4;have bqS:=bU (Gt env own d);have bqT:=bU (jL tr);rw[bM]at bqT;unfold jy aM at bqS;unfold bu gh at bqT;simp only[go_sem,simprocAttr,Jj,t2,t3,t4,gB0,gB,gE,had,hldd,e4,hwv,gB40,gB4,e5,Jk,bqS,bqT];by_cases qe:e'=0
     ·subst qe;simp only[go_sem,simprocAttr,t9,hw];refine⟨j-1,o_,_,p+1,o_,rfl,(qB.up k4).up k5,q_ t2,q_ t3,q_ t4,q_ t5,k_,fun i x hi hx=>?_⟩;by_cases qi:i=p
      ·subst qi;rw[hget]at hx;cases hx;exact he' rfl
      ·exact pre i x o_ hx
     ·have de:decide (e'=0)=false:=D_ qe;simp only[go_sem,simprocAttr,de];exact ret _ e' H5 ((qB.hk.trans k4).trans k5) k_ (fun q=>absurd q qe)
   ·simp only[go_sem,simprocAttr,Je];exact ret _ 0 H2 q.hk k_ fun _=>abc tb (jx fun i x hi hx=>pre i x o_ hx)
  have g0:=q0.g0;have g1:=q0.g1;unfold cO at hbx;unfold cO aM at g0;unfold bu gh at g1;unfold jy agb;unfold cO at hH n1;simp only[go_sem,simprocAttr,hbx,hbt,n1,<- hH,DJ];clear hH hbx n1;by_cases a0:dp≥200
  ·have d0:decide (dp≥200)=true:=T_ a0;simp only[go_sem,simprocAttr,d0];exact ret _ 7 H q0.hk k_ o_
  have d0:decide (dp≥200)=false:=D_ a0;by_cases a1:jO t=0
  ·have d1:decide (jO t=0)=true:=T_ a1;by_cases a2:gu t=0
   case neg=>
    have d2:decide (gu t=0)=false:=D_ a2;simp only[go_sem,simprocAttr,d0,mD,g1,d1,d2];exact ret _ 3 H q0.hk k_ o_
   have d2:decide (gu t=0)=true:=T_ a2;by_cases a3:((cy t).length:Int) > 0
   ·have d3:decide (((cy t).length:Int) > 0)=true:=T_ a3;simp only[go_sem,simprocAttr,d0,mD,g1,d1,d2,L_,d3];exact ret _ 3 H q0.hk k_ o_
   have d3:decide (((cy t).length:Int) > 0)=false:=D_ a3;obtain⟨v,H3,e3,⟨e,rfl,he⟩,k3⟩:=afF (h:=H) hK env own d sc n (m+2) (fX t) vs d.params o_ o_ o_ bt o_;rw[aU]at e3;unfold jy aM at e3;simp only[go_sem,simprocAttr,d0,mD,g0,g1,d1,d2,L_,d3,e3];exact ret _ e H3 (q0.hk.trans k3) k_ fun q=>abc (he q) (by
    have:cy t=[]:=List.eq_nil_of_length_eq_zero o_;rw[this];simp)
  have d1:decide (jO t=0)=false:=D_ a1;by_cases a2:jO t=1
  ·have d2:decide (jO t=1)=true:=T_ a2;obtain⟨v,H3,e3,⟨b3,rfl,hb3⟩,k3⟩:=Hp (h:=H) hK n (m+2) (fX t) o_ o_ o_ bt;rw[aU]at e3;simp only[go_sem,simprocAttr,d0,mD,g1,d1,d2,e3];cases b3 with
   |false=>
    simp only[go_sem,simprocAttr];exact ret _ 3 H3 (q0.hk.trans k3) k_ o_
   |true=>
    simp only[go_sem,simprocAttr];exact loop _ _ (q0.up k3) (by rw[hb3 rfl];exact WX) k_ k_ k_ k_
  ·have d2:decide (jO t=1)=false:=D_ a2;simp only[go_sem,simprocAttr,d0,mD,g1,d1,d2];exact ret _ 3 H q0.hk k_ o_
end
structure BD (d:DV):Prop where
 ty:BT d.type
 value:BT d.value
 rty:BT d.rtype
 ct:∀ c∈d.ctors,BT c.type
 rr:∀ r∈d.rules,BT r
 fn:∀ f∈d.funs,BT f.type/\BTr f.tree/\ts f.tree<=9000000
structure UN (d:DV):Prop where
 a:d.kind≠3->d.fixed=0/\d.ctors=[]/\d.rules=[]
 f:d.kind≠4->0<=d.kind->d.kind<=4->d.funs=[]
theorem Ig {α:Type}{l:List α}(h:(l.length:Int)=0):l=[]:=List.eq_nil_of_length_eq_zero o_
section
variable {K:aQ}{h:AH}
structure my (d:DV)(b:Nat)(h0 h:AH):Prop where
 hk:HK h0 h
 hn:b<h.z
 g:h.get b=some (.box (aM d))
theorem my.up {d:DV}{b:Nat}{h0 h h':AH}(q:my d b h0 h)(k:HK h h'):my d b h0 h':=⟨q.hk.trans k,by have:=k.z;have:=q.hn;omega,(k.kw _ q.hn).trans q.g⟩
theorem c1131 (hK:aZ K)(m:Nat)(d:DV)(fd:FD d)(bd:BD d)(hm:410<=m):
  ∃ v h',cS K m (.fn 131 [] []) [bW d] .no h=some (.ret v,.no,h')/\(∃ b,v=.bool b/\(b=true->UN d))/\HK h h':=by
 obtain⟨m,rfl⟩:∃ k,m=k+1:=⟨m-1,o_⟩
 refine bh hK ajj (ae (mr d h) (aC _)) ?_;rw[cA];have hbx:=bN (h:=h) (aM d) 23 rfl;obtain⟨H,hH⟩:∃ H:AH,H=h.new (.box (aM d)):=⟨_,rfl⟩
 have q0:my d h.z h H:=⟨by rw[hH];exact HK.new _ _,by rw[hH,ala];omega,by rw[hH,aE]⟩;have ret:∀ (tm:Tm) (b:Bool) (H:AH),HK h H->nth tm 2=.bool b->(b=true->UN d)->IQ Hc (fun v h2=>∃ v' h3,cG v h2=(v',h3)/\(∃ b,v'=.bool b/\(b=true->UN d))/\HK h h3) .ret ⟨tm,⟨[],.no,none,131⟩⟩ H:=fun tm b H hk t4 hb=>
  ⟨rfl,rfl,.inr rfl,[.bool b],by simp only[go_sem,simprocAttr,Hc,t4],.bool b,_,aS (by intro l e;cases e) (aW _ _),⟨_,rfl,hb⟩,hk⟩
 have st1:∀ (tm:Tm) (H:AH) (c4:Bool),my d h.z h H->nth tm 1=.ptr h.z 0 0->nth tm 4=.bool c4->(c4=true->d.fixed=0/\d.ctors=[]/\d.rules=[])->R (cS K m) 1000000000000 [.code nQ] (IQ Hc (fun v h2=>∃ v' h3,cG v h2=(v',h3)/\(∃ b,v'=.bool b/\(b=true->UN d))/\HK h h3)) .normal ⟨tm,⟨[],.no,none,131⟩⟩ H:=by
  intro tm H c4 q t1 t4 hc;have g0:=q.g;unfold aM at g0;obtain⟨v,H3,e3,⟨b3,rfl,_⟩,k3⟩:=Hp (h:=H) hK 400 m d.value o_ fd.value o_ bd.value;rw[aU]at e3;have q3:=q.up k3;have g3:=q3.g;unfold aM at g3;obtain⟨x0,hx0⟩:∃ x,decide (d.kind=0)=x:=⟨_,rfl⟩
  obtain⟨x1,hx1⟩:∃ x,decide (d.kind=1)=x:=⟨_,rfl⟩
  obtain⟨x2,hx2⟩:∃ x,decide (d.kind=2)=x:=⟨_,rfl⟩
  obtain⟨x3,hx3⟩:∃ x,decide (d.kind=3)=x:=⟨_,rfl⟩
  obtain⟨xf,hxf⟩:∃ x,decide ((d.funs.length:Int)=0)=x:=⟨_,rfl⟩
  have un:∀ b:Bool,(d.kind≠3->b=true->c4=true)->(d.kind≠4->0<=d.kind->d.kind<=4->b=true->xf=true)->(b=true->UN d):=fun b h1 h2 hb=>
   ⟨fun q=>hc (h1 q hb),fun q q1 q2=>Ig (of_decide_eq_true (hxf.trans (h2 q q1 q2 hb)))⟩
  cases x0
  case true=>
   have hk:=of_decide_eq_true hx0;cases b3<;>cases c4<;>cases xf<;>simp only[go_sem,simprocAttr,nQ,t1,t4,g0,hx0,e3,g3,L_,hxf]<;>
    first|(refine ret _ false _ q3.hk ?_ (fun e=>by cases e);simp only[go_sem,simprocAttr];done)|(refine ret _ true _ q3.hk ?_ (un true ?_ ?_)<;>first|(simp only[go_sem,simprocAttr];done)|(simp;done)|omega)
  have hk0:=of_decide_eq_false hx0;cases x1
  case true=>
   have hk:=of_decide_eq_true hx1;cases c4<;>cases xf<;>simp only[go_sem,simprocAttr,nQ,t1,t4,g0,hx0,hx1,L_,hxf]<;>
    first|(refine ret _ false _ q.hk ?_ (fun e=>by cases e);simp only[go_sem,simprocAttr];done)|(refine ret _ true _ q.hk ?_ (un true ?_ ?_)<;>first|(simp only[go_sem,simprocAttr];done)|(simp;done)|omega)
  have hk1:=of_decide_eq_false hx1;cases x2
  case true=>
   have hk:=of_decide_eq_true hx2;cases c4<;>cases xf<;>simp only[go_sem,simprocAttr,nQ,t1,t4,g0,hx0,hx1,hx2,L_,hxf]<;>
    first|(refine ret _ false _ q.hk ?_ (fun e=>by cases e);simp only[go_sem,simprocAttr];done)|(refine ret _ true _ q.hk ?_ (un true ?_ ?_)<;>first|(simp only[go_sem,simprocAttr];done)|(simp;done)|omega)
  have hk2:=of_decide_eq_false hx2;cases x3
  case true=>
   have hk:=of_decide_eq_true hx3;cases b3<;>cases xf<;>simp only[go_sem,simprocAttr,nQ,t1,g0,hx0,hx1,hx2,hx3,e3,g3,L_,hxf]<;>
    first|(refine ret _ false _ q3.hk ?_ (fun e=>by cases e);simp only[go_sem,simprocAttr];done)|(refine ret _ true _ q3.hk ?_ (un true ?_ ?_)<;>first|(simp only[go_sem,simprocAttr];done)|(simp;done)|omega)
  have hk3:=of_decide_eq_false hx3;obtain⟨xn,hxn⟩:∃ x,decide (d.name=bs [])=x:=⟨_,rfl⟩
  obtain⟨v,H4,e4,⟨b4,rfl,_⟩,k4⟩:=Hp (h:=H) hK 400 m d.type o_ fd.ty o_ bd.ty;rw[aU]at e4;have q4:=q.up k4;have g4:=q4.g;unfold aM at g4;obtain⟨v,H5,e5,⟨b5,rfl,_⟩,k5⟩:=Hp (h:=H4) hK 400 m d.value o_ fd.value o_ bd.value;rw[aU]at e5;have q5:=q4.up k5;cases xn<;>cases b4<;>cases b5<;>cases c4<;>simp only[go_sem,simprocAttr,nQ,t1,t4,g0,hx0,hx1,hx2,hx3,Kt,db,hxn,e4,g4,e5]<;>
   first|(refine ret _ false _ q5.hk ?_ (fun e=>by cases e);simp only[go_sem,simprocAttr];done)|(refine ret _ false _ q4.hk ?_ (fun e=>by cases e);simp only[go_sem,simprocAttr];done)|(refine ret _ false _ q.hk ?_ (fun e=>by cases e);simp only[go_sem,simprocAttr];done)|(refine ret _ true _ q5.hk ?_ (un true ?_ ?_)<;>first|(simp only[go_sem,simprocAttr];done)|(simp;done)|omega)
 have st2:∀ (tm:Tm) (H:AH) (c3:Bool),my d h.z h H->nth tm 1=.ptr h.z 0 0->nth tm 3=.bool c3->(c3=true->d.rules=[])->R (cS K m) 1000000000000 [.code Ar] (IQ Hc (fun v h2=>∃ v' h3,cG v h2=(v',h3)/\(∃ b,v'=.bool b/\(b=true->UN d))/\HK h h3)) .normal ⟨tm,⟨[],.no,none,131⟩⟩ H:=by
  intro tm H c3 q t1 t3 hc;have g0:=q.g;unfold aM at g0;obtain⟨x0,hx0⟩:∃ x,decide (d.fixed=0)=x:=⟨_,rfl⟩
  obtain⟨x1,hx1⟩:∃ x,decide ((d.ctors.length:Int)=0)=x:=⟨_,rfl⟩
  cases x0<;>cases x1<;>cases c3<;>simp only[go_sem,simprocAttr,Ar,t1,t3,g0,hx0,hx1,L_]<;>
   first|(refine st1 _ _ false q ?_ ?_ (fun e=>by cases e)<;>simp only[go_sem,simprocAttr,t1]<;>done)|exact st1 _ _ true q (by simp only[go_sem,simprocAttr,t1];done) (by simp only[go_sem,simprocAttr];done) (fun _=>⟨of_decide_eq_true hx0,Ig (of_decide_eq_true hx1),hc rfl⟩)
 have g0:=q0.g;unfold aM at g0;obtain⟨v,H3,e3,⟨b3,rfl,_⟩,k3⟩:=Hp (h:=H) hK 400 m d.rtype o_ fd.rty o_ bd.rty;rw[aU]at e3;have q3:=q0.up k3;have g3:=q3.g;unfold aM at g3;obtain⟨x0,hx0⟩:∃ x,decide (d.rparams=0)=x:=⟨_,rfl⟩
 obtain⟨x1,hx1⟩:∃ x,decide ((d.rules.length:Int)=0)=x:=⟨_,rfl⟩
 unfold agu;simp only[go_sem,simprocAttr,hbx,<- hH];clear hH;cases x0<;>cases x1<;>cases b3<;>simp only[go_sem,simprocAttr,Ks,g0,hx0,hx1,e3,g3,L_]<;>
  first|(refine st2 _ _ false q3 ?_ ?_ (fun e=>by cases e)<;>simp only[go_sem,simprocAttr]<;>done)|(refine st2 _ _ false q0 ?_ ?_ (fun e=>by cases e)<;>simp only[go_sem,simprocAttr]<;>done)|exact st2 _ _ true q3 (by simp only[go_sem,simprocAttr];done) (by simp only[go_sem,simprocAttr];done) (fun _=>Ig (of_decide_eq_true hx1))
end
