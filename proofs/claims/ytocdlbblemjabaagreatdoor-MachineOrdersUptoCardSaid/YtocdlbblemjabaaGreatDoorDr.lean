/- Lemmas for MachineOrders (no condition). -/
import Derived.Test.YtocdlbblemjabaaGreatDoorDm
import Derived.Test.YtocdlbblemjabaaGreatDoorDd
set_option linter.defProp false
namespace Go.Proofs.YtocdlbblemjabaaGreatDoor
open Go.AG Go.AG.MK
def NI {k:Int}(hk:k=9\/k=10){p:T}(a:TOK p):TOK (iL k p):=by
 rcases hk with rfl|rfl<;>
  (unfold iL
   rw[TOK,gO,gO];exact⟨⟨by decide,by decide,rfl,by decide,by decide,λ_ _=>rfl,by simp[bs],by decide,λ_=>rfl,⟨by decide,by decide,λ_ _=>rfl⟩,by simp⟩,a,trivial⟩)
def PC (k:Int)(p:T)(H:AH):cw (.agg [.I k,.I 0,.str (bs []),.nl,.clip [.agg (h_ p)]]) H=(enc (iL k p),H):=by
 refine jc (iV (ls:=[]) (ks:=[p]) rfl ?_) _;show(AV.ls (AV.norms _))=_;simp only[mF,oW,jt (dH _) (ei _),AV.eT,List.map_cons,List.map_nil]
def aaf (c:Option CT):Nat:=match c with
 |some d=>(2001-d.n).toNat
 |none=>0
structure J33 (env:List DV)(N w:Nat)(t:T)(c:Option CT)(h0 h:AH)(u:T)(c':Option CT):Prop where
 hk:HKx w h0 h
 g4:h.get h0.z=some (.box (aG u))
 g6:h.get (h0.z+1)=some zB
 nx:h0.z+2<=h.z
 cn:Cn h w c'
 up:Up c c'
 tok:TOK u
 ok:∀d d',c=some d->c'=some d'->(aO u:Int)+d.n<=aO t+d'.n/\Red (Ce env inst) t u
 ov:aO u<=aO t+2000+200000*(N+1)
def I33 (a:List DV)(N w:Nat)(t:T)(c:Option CT)(b:AH)(j:Nat)(e:AF)(h:AH):Prop:=∃tm u d,aaf d=j/\e=F_ 33 tm/\nth tm 0=.eD a/\nth tm 2=.P w/\nth tm 4=.P b.z/\nth tm 6=.P (b.z+1)/\J33 a N w t c b h u d
def Q33 (a:List DV)(N w:Nat)(t:T)(c:Option CT)(h:AH)(v:AV)(h':AH):Prop:=∃b d,v=enc b/\HKx w h h'/\Cn h' w d/\WR (Ce a inst) (N+1) t b c d
section
variable {K:aN}{h:AH}{w:Nat}
theorem agl [RunsM K]{s:List DV}(eg:Eg s){N:Nat}(hN:N+1<=20000)(hW:P33 K s N):P33 K s (N+1):=by
 intro t c h w tok x hw hm;refine aV Vc ?_;show R_ K [.code WY] (Fin JJ (Q33 s N w t c h)) .normal _ _;have⟨H,q0,k0,n0,g0,g1⟩:∃H,H=(h.new (.box (aG t))).new zB/\HK h H/\H.z=h.z+2/\H.get h.z=some (.box (aG t))/\H.get (h.z+1)=some zB:=by
  have J:=Jb.two (X:=λ_=>False) h (.box (aG t)) zB (λ_ q=>q.elim);exact⟨_,rfl,J.kw.k,by simp only[aB],J.c0⟩
 have J0:J33 s N w t c h H t c:=⟨k0.x w,g0,g1,o_,x.kw (k0.kw w hw),Up.refl c,tok,λd Y q1 q2=>by rw[q1]at q2;cases q2;exact⟨Int.le_refl _,Red.refl t⟩,o_⟩;have hj:aaf c<1000000000000:=by
  cases c with
  |none=>exact(by decide)
  |some d=>have:=x.1.n0;show(2001-d.n).toNat<_;omega
 unfold aG at q0;rw[aJ];unfold WY;simp only[go_sem,aB,<-q0];refine bo (I33 s N w t c h) (aaf c) o_ ⟨_,t,c,rfl,rfl,k_,k_,k_,k_,J0⟩ ?_;clear J0 hj q0 k0 n0 g0 g1 H;rintro j fr H ⟨tm,u,c',rfl,rfl,t0,t2,t4,t6,J⟩;have⟨_,_,_,_,gw,z⟩:=oA J.cn;have kn:=J.hk.z;have nx:=J.nx;have g4:=J.g4;have g6:=J.g6;unfold ctB at gw;unfold aG at g4;have fin:∀(tm:Tm) (H':AH) (u:T) (c':Option CT),HKx w h H'->Cn H' w c'->fH JJ tm H'=some [.agg (aG u)]->WR (Ce s inst) (N+1) t u c c'->Fin JJ (Q33 s N w t c h) .ret (F_ 33 tm) H':=λtm H' u c' kk xx hr wr=>
  nO u hr ⟨u,c',rfl,kk,xx,wr⟩
 rcases z with⟨rfl,rfl⟩|⟨rfl,Y,rfl,ce,rfl,rfl,rfl⟩
 ·have n1:¬h.z=h.z+1:=o_;simp only[go_sem,t2,gw,t4,g4,t6,g6];refine fin _ _ u none (J.hk.set _ (.inl o_)) (J.cn.kw (aA o_)) (by simp only[go_sem,t6,aG]<;>rfl) ⟨J.tok,J.up,J.ov,λd Y _ q=>by cases q⟩
 obtain⟨d,rfl,_,_⟩:=J.up Y rfl;have⟨ck,ac⟩:=J.ok d Y rfl rfl;have d7:=hm d rfl;have dy:=ce.n1;have dn:=ce.n0;have⟨th,ta,ah⟩:=oO _ u (e_ _) J.tok;have b0:=kY _ u (e_ _);obtain⟨_,H1,e1,⟨V,rfl,o1⟩,k1⟩:=acU (aO u) u H (e_ _) o_;have l1:=k1.z;have⟨D,q2,X,k2,_,g7⟩:=oN H1 (aT u).1;have bl:Bl H.z H1.z D V (aT u).2:=(Bl.of o1).kw λa _ ha=>k2.kw a ha;have ay:=k1.trans k2;have J2:J33 s N w t (some d) h D u (some Y):=⟨J.hk.trans (ay.x w),ay.up J.g4,ay.up J.g6,o_,J.cn.kw (ay.kw w o_),J.up,J.tok,J.ok,J.ov⟩;have ar:=J2.g4;have av:=J2.g6;have⟨f,O⟩:∃f,f=(aT u).1:=⟨_,rfl⟩;have⟨o,aa⟩:∃o,o=(aT u).2:=⟨_,rfl⟩;rw[<-O]at th ah b0 X g7 e1;rw[<-aa]at ta ah b0 bl;unfold aG at g7 ar;rw[aJ u]at e1;have af:=bl.beq;have⟨nd,au⟩:Nd f.D f.X f.N f.L f.K.length/\gO f.K:=by rw[<-fL f,TOK]at th;exact th
 have ag:=nd.K;unfold cN at ag;have U:=J2.hk;have d6:=J2.nx;have x2:=J2.cn;have dx:=bl.beq;have a7:=λH=>bl.len H;have nxt:∀(tm:Tm) (H':AH) (u':T) (c2:Option CT),nth tm 0=.eD s->nth tm 2=.P w->nth tm 4=.P h.z->nth tm 6=.P (h.z+1)->HKx w h H'->H'.get h.z=some (.box (aG u'))->H'.get (h.z+1)=some zB->h.z+2<=H'.z->Cn H' w c2->TOK u'->(aO u':Int)<=aO u+100000+200000*N->
   (∀C,c2=some C->Y.n<C.n/\Y.f<=C.f/\(aO u':Int)+Y.n<=aO u+C.n/\Red (Ce s inst) u u')->∃j',j'<aaf (some Y)/\I33 s N w t (some d) h j' (F_ 33 tm) H':=by
  intro tm H' u' c2 a0 a2 a4 a6 kk a8 a9 c5 dg cu dv ax;refine⟨aaf c2,?_,tm,u',c2,rfl,rfl,a0,a2,a4,a6,kk,a8,a9,c5,dg,?_,cu,?_,o_⟩
  ·cases c2 with
   |none=>show 0<(2001-Y.n).toNat;omega
   |some C=>have:=(ax C rfl).1;show(2001-C.n).toNat<(2001-Y.n).toNat;omega
  ·exact J.up.trans λC q=>⟨Y,rfl,Int.le_of_lt (ax C q).1,(ax C q).2.1⟩
  intro d0 C q1 q2;cases q1;have⟨_,_,_,b4⟩:=ax C q2;exact⟨o_,ac.trans b4⟩
 have cn:(aO u:Int)+2*(2000-Y.n)<=N+1:=o_;by_cases h5:f.D=5
 ·have d5:=T_ h5;rw[P_ o_]at ag;have⟨A,B,g⟩:∃A B,f.K=[A,B]:=by
   match hh:f.K,ag with
   |[a,b],_=>exact⟨a,b,rfl⟩
  have Z:f=.mk 5 f.X f.N f.L [A,B]:=by rw[<-g,<-h5];exact(fL f).symm
  rcases List.eq_nil_or_concat o with ch|cz
  ·subst ch;have dl:decide (((0:Nat):Int)=0)=true:=rfl;simp only[go_sem,t2,gw,t4,g4,e1,X,g7,d5,a7,dl,ar,t6,av];have hu:=ah.symm;refine fin _ _ u (some Y) (U.set (j:=h.z+1) _ (.inl o_)) (x2.kw (aA o_)) (by simp only[go_sem,t6,aG]<;>rfl) ⟨J.tok,J.up,J.ov,λd0 C q1 q2=>by
    cases q1;cases q2;refine⟨ck,?_⟩;have:=Red.stuck (C:=Ce s inst) (n:=0) (t:=u) (h':=f) (bs_:=[]) (by rw[<-O,<-aa,Z];rfl);rw[show bA f []=u from ah]at this;have⟨m,hm⟩:=this;exact ac m u hm⟩
  obtain⟨a,l,rfl⟩:∃a l,o=a::l:=by
   match o,cz with
   |[],⟨l,a,e⟩=>simp at e
   |a::l,_=>exact⟨a,l,rfl⟩
  have dl:decide (((l.length+1:Nat):Int)=0)=false:=d_;have ap:f.K[1]?=some B:=by rw[g];rfl
  have ia:bW (.eT f.K) 5 (.I 1)=some (.vp (enc B)):=aR (m:=1) bH ap .i64;have tB:TOK B:=dh.1 au B (by rw[g];simp);have cc:TOK a:=ta a (by simp);have cb:aO f=1+(aO A+(aO B+0)):=by rw[Z];simp only[aO,ba]
  have dp:aO f+(aO a+ba l)+(l.length+1)=aO u:=by have:=b0;simp only[ba,M_]at this;omega
  have db:mO 5 V (.I 1)=some (Gc V 0 1):=bl.hi (j:=1) (by rw[M_];omega);have dk:∀(tm:Tm),fb 5 V tm (some (.c (.I 1))) none=some (Gc V 1 (l.length+1)):=λtm=>bl.lo (i:=1) (by rw[M_];omega) rfl;have df:=λi j=>RB bl i j;have⟨P,q3,k3,n3,g9⟩:∃P:AH,P=D.new zB/\HK D P/\P.z=D.z+1/\P.get D.z=some zB:=⟨_,rfl,HK.new _ _,aB _ _,aD _ _⟩;have⟨Hc,ec,nc,ak,co⟩:=(bl.kw (h':=P) λb _ z=>k3.kw b o_).can 0 1 o_ (by rw[M_];omega);rw[show(List.drop 0 (a::l)).take (1-0)=[a] by simp]at ec;obtain⟨_,H5,e5,E,eS,rfl,k5,sz,al,am,b8⟩:=agP (h:=Hc) [a] (λy hy=>by rw[W_]at hy;subst hy;exact⟨o_,jC _ cc⟩) (by simp) B o_ (jC B tB);have c9:=(dJ (c:=[]) (f:=69) (ae (cJ B _) (ae ec (aH _))) (ae (cJ B _) (ae (mL [a] _) (aH _)))).trans e5;have l5:=k5.z;have br:H5.get D.z=some zB:=k5.up ((ak _ o_).trans g9);have aq:=bz br E;have⟨R,q6,k6,n6,ao⟩:∃R:AH,R=H5.set D.z (.box (aG E))/\(∀b,b<D.z->(b<H.z\/H1.z<=b)->R.get b=D.get b)/\R.z=H5.z/\R.get D.z=some (.box (aG E)):=⟨_,rfl,λb z r=>by rw[aA o_,k5.kw b o_,ak b r,k3.kw b z],aE _ _ _,aF _ _ _⟩;have dc:Bl H.z H1.z R V (a::l):=co.kw λb _ z=>by rw[q6,aA o_,k5.kw b o_]
  rw[<-q6]at aq;have bv:TOK E:=by
   by_cases hS:eS=0
   ·have:=am hS;rw[this]at al ⊢;exact sd _ (λy hy=>by rw[W_]at hy;subst hy;exact cc) B 0 tB al
   rw[b8 hS];exact rI
  have x6:Cn R w (some Y):=x2.kw (k6 w o_ o_);obtain⟨_,H7,e7,rfl,k7,c2,x7,fm⟩:=FL (h:=R) E o_ eS x6 o_;have l7:=k7.z;have⟨Hd,ed,bm,L,bd⟩:=(dc.kw (h':=H7) λb z bf=>k7.kw b o_ o_).can 1 (l.length+1) o_ (e_ _);rw[show(List.drop 1 (a::l)).take (l.length+1-1)=l by simp]at ed;obtain⟨_,H8,e8,rfl,k8⟩:=c74 E l Hd o_;have bw:=(dJ (c:=[]) (f:=70) (ae (cJ E _) (ae ed (aH _))) (ae (cJ E _) (ae (mL l _) (aH _)))).trans e8;have l8:=k8.z;have I:∀b,b<H.z->b≠w->H8.get b=D.get b:=λb z F=>by rw[k8.kw b o_,L b o_,k7.kw b o_ F,k6 b o_ o_]
  have b2:=(I h.z o_ o_).trans J2.g4;have bk:=(I (h.z+1) o_ o_).trans J2.g6;have ab:=bz b2 (bA E l);have be:=k3.up g7;unfold aG at ao;simp only[go_sem,t2,gw,t4,g4,e1,X,g7,be,d5,a7,dl,<-q3,ia,db,c9,aq,ao,<-aJ E,e7,dk,bw,ab];refine nxt _ _ (bA E l) c2 (q_ t0) (q_ t2) (q_ t4) (q_ t6) ⟨by rw[aE];omega,λb z r=>?_⟩ (by first|exact aF _ _ _|rfl) (by rw[aA o_];exact bk) (by rw[aE];omega) (x7.kw (by rw[aA o_,k8.kw w o_,L w o_])) (ij bv λy hy=>ta y (by simp[hy])) (by rw[cd];omega) λC q=>?_
  ·rw[aA o_,I b o_ r];exact U.kw b z r
  have⟨d3,q3,e0,cl,ca,_⟩:=fm.up q;cases q3;have hp:=bI E;refine⟨o_,o_,by rw[cd];omega,?_⟩;rw[am e0];exact Red.z (n:=0) (t:=u) (by rw[<-O,<-aa,Z];rfl)
 by_cases ad:f.D=11
 ·have di:=T_ ad;rw[N_ o_,P_ o_]at ag;have⟨A,v,B,g⟩:∃A v B,f.K=[A,v,B]:=by
   match hh:f.K,ag with
   |[a,b,c],_=>exact⟨a,b,c,rfl⟩
  have Z:f=.mk 11 f.X f.N f.L [A,v,B]:=by rw[<-g,<-ad];exact(fL f).symm
  have ap:f.K[2]?=some B:=by rw[g];rfl
  have ia:bW (.eT f.K) 5 (.I 2)=some (.vp (enc B)):=aR (m:=2) bH ap .i64;have tB:TOK B:=dh.1 au B (by rw[g];simp);have tv:TOK v:=dh.1 au v (by rw[g];simp);have cb:aO f=1+(aO A+(aO v+(aO B+0))):=by rw[Z];simp only[aO,ba]
  have cv:∀(tm:Tm),fb 5 (.eT f.K) tm (some (.c (.I 1))) (some (.c (.I 2)))=some (.ls [enc v]):=λtm=>by rw[g];exact Oa A v B tm
  have⟨P,q3,k3,_,g9⟩:∃P:AH,P=D.new zB/\HK D P/\P.z=D.z+1/\P.get D.z=some zB:=⟨_,rfl,HK.new _ _,aB _ _,aD _ _⟩;obtain⟨_,H5,e5,E,eS,rfl,k5,_,al,am,b8⟩:=agP (h:=P) [v] (λy hy=>by rw[W_]at hy;subst hy;exact⟨o_,jC _ tv⟩) (by simp) B o_ (jC B tB);have e5:cS K (.fn (69) [] []) [enc B,.ls [enc v]] .no P=_:=e5;have l5:=k5.z;have br:=k5.up g9;have aq:=bz br E;have⟨R,q6,k6,_,ao⟩:∃R:AH,R=H5.set D.z (.box (aG E))/\HK D R/\R.z=H5.z/\R.get D.z=some (.box (aG E)):=⟨_,rfl,(k3.trans k5).set _ (e_ _),aE _ _ _,aF _ _ _⟩;rw[<-q6]at aq;have bv:TOK E:=by
   by_cases hS:eS=0
   ·have:=am hS;rw[this]at al ⊢;exact sd _ (λy hy=>by rw[W_]at hy;subst hy;exact tv) B 0 tB al
   rw[b8 hS];exact rI
  obtain⟨_,H7,e7,rfl,k7,c2,x7,fm⟩:=FL (h:=R) E o_ eS (x2.kw (k6.kw w o_)) o_;have l7:=k7.z;have⟨Hd,ed,bm,L,bd⟩:=(bl.kw (h':=H7) λb z bf=>k7.up (k6.kw b o_)).can0;obtain⟨_,H8,e8,rfl,k8⟩:=c74 E o Hd o_;have bw:=(dJ (c:=[]) (f:=70) (ae (cJ E _) (ae ed (aH _))) (ae (cJ E _) (ae (mL o _) (aH _)))).trans e8;have l8:=k8.z;have I:∀b,b<H.z->b≠w->H8.get b=D.get b:=λb z F=>by rw[k8.kw b o_,L b o_,k7.kw b o_ F,k6.kw b o_]
  have b2:=(I h.z o_ o_).trans J2.g4;have bk:=(I (h.z+1) o_ o_).trans J2.g6;have ab:=bz b2 (bA E o);have be:=k3.up g7;unfold aG at ao;simp only[go_sem,t2,gw,t4,g4,e1,X,g7,be,h5,di,<-q3,ia,cv,e5,aq,ao,<-aJ E,e7,bw,ab];refine nxt _ _ (bA E o) c2 (q_ t0) (q_ t2) (q_ t4) (q_ t6) ⟨by rw[aE];omega,λb z r=>?_⟩ (by first|exact aF _ _ _|rfl) (by rw[aA o_];exact bk) (by rw[aE];omega) (x7.kw (by rw[aA o_,k8.kw w o_,L w o_])) (ij bv ta) (by rw[cd];omega) λC q=>?_
  ·rw[aA o_,I b o_ r];exact U.kw b z r
  have⟨d3,q3,e0,cl,ca,_⟩:=fm.up q;cases q3;have hp:=bI E;refine⟨o_,o_,by rw[cd];omega,?_⟩;rw[am e0];exact Red.z (n:=0) (t:=u) (by rw[<-O,<-aa,Z];rfl)
 by_cases h3:f.D=3
 ·have d3:=T_ h3;have d9:decide (f.D=9)=false:=d_;have M:decide (f.D=10)=false:=d_;have⟨Hc,ec,_,ak,_⟩:=bl.can0;have aj:aO (bA f o)=aO u:=by rw[ah]
  have⟨_,P,e3,k3,c2,x3,st⟩:=c1072 (h:=Hc) eg o_ hW th h3 ta (x2.kw (ak w o_)) o_ (by rw[aj];exact cn);have b5:=(dJ (c:=[]) (f:=72) (ae (uT s _) (ae (cJ f _) (ae ec (ae (bS _ _ _ _) (aH _))))) (ae (uT s _) (ae (cJ f _) (ae (mL o _) (ae (bS _ _ _ _) (aH _)))))).trans e3;have l3:=k3.z;have S:∀b,b<H.z->b≠w->P.get b=D.get b:=λb z F=>(k3.kw b o_ F).trans (ak b o_);rw[aJ f]at b5;rcases st with⟨rfl,hs⟩|⟨t',rfl,tt,ts,hs⟩
  ·have⟨H4,q4,ai,k4,n4,bg⟩:=oN P zero;have aw:=k4.up ((S h.z o_ o_).trans ar);have az:=k4.up ((S (h.z+1) o_ o_).trans av);simp only[go_sem,t2,gw,t4,g4,e1,X,g7,h5,ad,d9,M,d3,t0,b5,ai,aw,t6,az];refine fin _ _ u c2 ⟨by rw[aE];omega,λb z r=>?_⟩ (x3.kw ((aA o_).trans (k4.kw w o_))) (by simp only[go_sem,t6,aG]<;>rfl) ⟨J.tok,J.up.trans λC q=>?_,J.ov,λd0 C q1 q2=>?_⟩
   ·rw[aA o_,k4.kw b o_,S b o_ r];exact U.kw b z r
   ·have⟨d3,q3,a1,a2,_⟩:=hs C q;exact⟨d3,q3,a1,a2⟩
   cases q1;have⟨d3,q3,a1,a2,n,hn⟩:=hs C q2;cases q3;refine⟨o_,?_⟩;have:=Red.stuck (C:=Ce s inst) (n:=n) (t:=u) (h':=f) (bs_:=o) (by rw[<-O,<-aa];exact hn);rw[ah]at this;have⟨m,hm⟩:=this;exact ac m u hm
  have⟨H4,q4,ai,k4,n4,bg⟩:=oN P t';have aw:=k4.up ((S h.z o_ o_).trans J2.g4);have az:=k4.up ((S (h.z+1) o_ o_).trans av);have ab:=bz aw t';unfold aG at bg;simp only[go_sem,t2,gw,t4,g4,e1,X,g7,h5,ad,d9,M,d3,t0,b5,ai,bg,<-aJ t',ab];refine nxt _ _ t' c2 (q_ t0) (q_ t2) (q_ t4) (q_ t6) ⟨by rw[aE];omega,λb z r=>?_⟩ (by first|exact aF _ _ _|rfl) (by rw[aA o_];exact az) (by rw[aE];omega) (x3.kw (by rw[aA o_,k4.kw w o_])) tt (by rw[aj]at ts;omega) λC q=>?_
  ·rw[aA o_,k4.kw b o_,S b o_ r];exact U.kw b z r
  obtain⟨d3,q3,a1,a2,a3,n,_,_,hn,rfl⟩:=hs C q;cases q3;rw[aj]at a3;exact⟨a1,a2,a3,Red.z (n:=n) (t:=u) (by rw[<-O,<-aa];exact hn)⟩
 have d3:=D_ h3;by_cases hP:f.D=9\/f.D=10
 ·have cg:(decide (f.D=9)=true/\decide (f.D=10)=false)\/(decide (f.D=9)=false/\decide (f.D=10)=true):=by
   rcases hP with q|q
   ·exact .inl ⟨T_ q,d_⟩
   exact .inr ⟨d_,T_ q⟩
  rw[N_ o_,N_ o_,P_ hP]at ag;have⟨k,g⟩:∃k,f.K=[k]:=by
   match hh:f.K,ag with
   |[a],_=>exact⟨a,rfl⟩
  have Z:f=.mk f.D f.X f.N f.L [k]:=by rw[<-g];exact(fL f).symm
  have a5:∀W,MK.step (Ce s inst) W f o=match W k with
    |none=>none
    |some p=>match tI f.D p with
     |some q=>some (.next q o)
     |none=>some (.stuck (iL f.D p) o):=λW=>by
   have:=aar hP (Ce s inst) W f.X f.N f.L k o;rw[<-Z]at this;exact this
  have ap:f.K[0]?=some k:=by rw[g];rfl
  have ia:bW (.eT f.K) 5 (.I 0)=some (.vp (enc k)):=aR (m:=0) bH ap .i64;have tk:TOK k:=dh.1 au k (by rw[g];simp);have cb:aO f=1+(aO k+0):=by rw[Z];simp only[aO,ba]
  obtain⟨_,P,e3,p,c1,rfl,k3,x3,wr⟩:=hW k (some Y) D w tk x2 o_ (λC q=>by cases q;omega);have l3:=k3.z;have⟨H4,_,ai,k4,_,dm⟩:=oN P p;have G:∀b,b<D.z->b≠w->H4.get b=D.get b:=λb z F=>k4.up (k3.kw b z F);have x4:Cn H4 w c1:=x3.kw (k4.kw w o_);have aw:=(G h.z o_ o_).trans J2.g4;have az:=(G (h.z+1) o_ o_).trans J2.g6;have cf:=(G H1.z o_ o_).trans g7;have ci:Bl H.z H1.z H4 V o:=bl.kw λb z bf=>G b o_ o_;have d4:=wr.ov;have ea:HKx w h H4:=⟨o_,λb z r=>(G b o_ r).trans (U.kw b z r)⟩;have bb:∀d1,c1=some d1->∃n,Wn (Ce s inst) n k=some p:=λd1 q=>(wr.ok Y d1 rfl q).2;have an:=dm;unfold aG at an;by_cases h8:p.D=8
  ·have d8:decide (p.D=8)=true:=T_ h8;have⟨cq,c8⟩:Nd p.D p.X p.N p.L p.K.length/\gO p.K:=by have:=wr.tok;rw[<-fL p,TOK]at this;exact this
   have cr:=cq.K;rw[h8,show cN 8=3 by decide]at cr;have⟨n,_⟩:∃n:Nat,(n:Int)=f.D-8:=⟨(f.D-8).toNat,o_⟩;have⟨q,hq⟩:∃q,p.K[n]?=some q:=⟨_,a_ o_⟩;have b9:=m_ hq;have tq:TOK q:=dh.1 c8 q b9;have dz:=cH b9;have dt:=fk p;have cx:IntKind.wrap .i64 (1+f.D)=1+f.D:=aW _ o_ o_;have dj:IntKind.wrap .i64 (1+f.D-9)=(n:Int):=by rw[aW _ o_ o_];omega
   have de:tI f.D p=some q:=by
    unfold tI;rw[P_ h8,show(f.D-8).toNat=n by omega,hq];rfl
   obtain⟨_,H5,e5,rfl,k5,c2,x5,fm⟩:=FL (h:=H4) q o_ 0 x4 o_;have l5:=k5.z;have⟨Hd,ed,bm,L,bd⟩:=(ci.kw (h':=H5) λb z bf=>k5.kw b o_ o_).can0;obtain⟨_,R,e6,rfl,k6⟩:=c74 q o Hd o_;have bq:=(dJ (c:=[]) (f:=70) (ae (cJ q _) (ae ed (aH _))) (ae (cJ q _) (ae (mL o _) (aH _)))).trans e6;have l6:=k6.z;have Q:∀b,b<H.z->b≠w->R.get b=D.get b:=λb z F=>by rw[k6.kw b o_,L b o_,k5.kw b o_ F,G b o_ F]
   have cs:=(Q h.z o_ o_).trans J2.g4;have bi:=(Q (h.z+1) o_ o_).trans J2.g6;have ab:=bz cs (bA q o);rcases cg with⟨d9,M⟩|⟨d9,M⟩<;>
    (simp only[go_sem,t2,gw,t4,g4,e1,X,g7,h5,ad,d9,M,t0,ia,e3,ai,an,cf,d8,cx,dj,hq,e5,bq,ab]
     refine nxt _ _ (bA q o) c2 (q_ t0) (q_ t2) (q_ t4) (q_ t6) ⟨by rw[aE];omega,λb z r=>?_⟩ (by first|exact aF _ _ _|rfl) (by rw[aA o_];exact bi) (by rw[aE];omega) (x5.kw (by rw[aA o_,k6.kw w o_,L w o_])) (ij tq ta) (by rw[cd];omega) λC qq=>?_
     ·rw[aA o_,Q b o_ r];exact U.kw b z r
     have⟨d3,q3,_,_,_,_⟩:=fm.up qq;have⟨_,q5,a1,_⟩:=wr.up d3 q3;cases q5;have⟨nn,bx⟩:=bb d3 q3;have hp:=bI q;exact⟨o_,o_,by rw[cd];omega,Red.z (n:=nn) (t:=u) (by rw[<-O,<-aa,a5,bx];simp only[de])⟩)
  have d8:=D_ h8;have⟨Hd,ed,_,L,_⟩:=ci.can0;obtain⟨_,R,e6,rfl,k6⟩:=c74 (iL f.D p) o Hd o_;have bq:=(dJ (c:=[]) (f:=70) (ae (PC f.D p _) (ae ed (aH _))) (ae (cJ (iL f.D p) _) (ae (mL o _) (aH _)))).trans e6;have l6:=k6.z;have Q:∀b,b<H.z->b≠w->R.get b=D.get b:=λb z F=>by rw[k6.kw b o_,L b o_,G b o_ F]
  have bi:=(Q (h.z+1) o_ o_).trans J2.g6;have ab:=bz bi (bA (iL f.D p) o);have c4:tI f.D p=none:=sy.2 h8;have dr:aO (iL f.D p)=1+(aO p+0):=by unfold iL;simp only[aO,ba]
  rcases cg with⟨d9,M⟩|⟨d9,M⟩<;>
   (simp only[go_sem,t2,gw,t4,g4,e1,X,g7,h5,ad,d9,M,t0,ia,e3,ai,an,cf,d8,bq,t6,ab]
    refine fin _ _ (bA (iL f.D p) o) c1 ⟨by rw[aE];omega,λb z r=>?_⟩ (x4.kw (by rw[aA o_,k6.kw w o_,L w o_])) (by simp only[go_sem,t6,aG]<;>rfl) ⟨ij (NI hP wr.tok) ta,J.up.trans wr.up,by rw[cd];omega,λd0 C q1 q2=>?_⟩
    ·rw[aA o_,Q b o_ r];exact U.kw b z r
    cases q1;have⟨_,_⟩:=wr.ok Y C rfl q2;have⟨nn,bx⟩:=bb C q2;refine⟨by rw[cd];omega,?_⟩;have⟨m,hm⟩:=Red.stuck (C:=Ce s inst) (n:=nn) (t:=u) (h':=iL f.D p) (bs_:=o) (by rw[<-O,<-aa,a5,bx];simp only[c4]);exact ac m _ hm)
 have d9:decide (f.D=9)=false:=D_ λq=>hP (.inl q);have M:decide (f.D=10)=false:=D_ λq=>hP (.inr q);simp only[go_sem,t2,gw,t4,g4,e1,X,g7,h5,ad,d9,M,d3,ar,t6,av];refine fin _ _ u (some Y) (U.set (j:=h.z+1) _ (.inl o_)) (x2.kw (aA o_)) (by simp only[go_sem,t6,aG]<;>rfl) ⟨J.tok,J.up,J.ov,λd0 C q1 q2=>?_⟩;cases q1;cases q2;refine⟨ck,?_⟩;have hd:=uW u;rw[<-O]at hd;have h4:f.D≠4:=λq=>hd q (by
  have dd:=nd.K;rw[q]at dd;have:cN 4=2:=by decide
  omega)
 have:=Red.stuck (C:=Ce s inst) (n:=0) (t:=u) (h':=f) (bs_:=o) (by rw[<-O,<-aa];exact aas _ _ _ _ h3 h4 h5 (λq=>hP (.inl q)) (λq=>hP (.inr q)) ad);rw[ah]at this;have⟨m,hm⟩:=this;exact ac m u hm
end
def Ew {c d:Nat}{h:AH}{V:AV}{l:List T}(b:Bl c d h V l)(k i:Int)(nm:ByteArray)(ls:List LL):
  ∃h',cw (.agg [.I k,.I i,.str nm,.eL ls,V]) h=(enc (.mk k i nm ls l),h')/\h'.z=h.z/\∀a,a<c\/d<=a->h'.get a=h.get a:=by
 rcases b with⟨rfl,rfl⟩|⟨f,g,fz,rfl,j,o,m⟩
 ·exact⟨h,jc (iV (dH ls) rfl) _,rfl,g_⟩
 refine⟨h.set f (.row g 5 true (bJ (l.map enc)) (max fz ((0+l.length)*5))),?_,aE _ _ _,λa p=>aA o_⟩;have e:=uY (off:=0) (n:=l.length) (es:=l.map enc) j (by grind [wL,K_]);have n:cL [.I k,.I i,.str nm,.eL ls,.row f g 5 0 l.length] h=([.I k,.I i,.str nm,.eL ls,.eT l],h.set f (.row g 5 true (bJ (l.map enc)) (max fz ((0+l.length)*5)))):=by
  grind [cL,dQ,cB,AV.free,bY,jK]
 show((AV.agg (cL _ h).1).norm,(cL _ h).2)=_;grind [iV,dH,ei]
def Cr {f:T->Option T}: ∀{l out:List T} {x y:T},ju f l=some out->f x=some y->ju f (l++[x])=some (out++[y])
 |[],out,x,y,h,hx=>by grind [ju]
 |t::l,out,x,y,h,hx=>by
  rw[ju]at h;rw[Q_,ju];cases c:f t with
  |none=>grind
  |some a=>
   rw[c]at h;cases b:ju f l with
   |none=>grind
   |some r=>
    rw[b]at h;cases h;rw[Cr b hx];rfl
structure NR (φ:Option CT->Int)(f:Nat->T->Option T)(t t':T)(c c':Option CT):Prop where
 tok:TOK t'
 up:Up c c'
 sz:(aO t':Int)+φ c<=aO t+φ c'
 ok:∀d',c'=some d'->∃n,f n t=some t'
def phN:Option CT->Int
 |some d=>d.n
 |none=>4000010000
def ED {h:AH}{w:Nat}{c:Option CT}(x:Cn h w c):phN c<=4000010000:=by
 cases c with
 |none=>exact Int.le_refl _
 |some d=>have:=x.1.n1;show d.n<=_;omega
section
variable {K:aN}{h:AH}{w:Nat}
def Vu [RunsM K]{env:List DV}(t:T)(x:Cn h w none)(l:w<h.z):
  Rt K (33) [.eD env,enc t,.P w] h λv h'=>v=enc t/\HKx w h h'/\Cn h' w none:=by
 refine aV Vc ?_;have⟨H,d,b,_,e,k⟩:∃H,H=(h.new (.box (aG t))).new zB/\HK h H/\H.z=h.z+2/\H.get h.z=some (.box (aG t))/\H.get (h.z+1)=some zB:=by
  have J:=Jb.two (X:=λ_=>False) h (.box (aG t)) zB g_;exact⟨_,rfl,J.kw.k,by grind [aB],J.c0⟩
 have⟨s,n,f,y⟩:=x;have a:=(b.kw w l).trans y;unfold aG at d e;unfold ctB at a;rw[aJ];simp only[go_sem,aB,<-d];refine bo (λj g c=>∃tm,g=F_ 33 tm/\c=H/\nth tm 2=.P w/\nth tm 4=.P h.z/\nth tm 6=.P (h.z+1)) 0 o_ ⟨_,rfl,rfl,k_,k_,k_⟩ ?_;rintro j g c ⟨tm,rfl,rfl,m,o,i⟩;simp only[go_sem,m,a,o,e,i,k];exact nO t (by simp only[go_sem,i,aG]<;>rfl) ⟨aJ t,(b.x w).set _ o_,⟨s,n,f,(aA o_).trans a⟩⟩
theorem ab2 [RunsM K]{a:List DV}(b:Eg a):∀N,N<=20000->P33 K a N
 |0,_=>by
  intro t c h w tok x f hm;cases c with
  |some d=>have:=hm d rfl;have:=bI t;have:=x.1.n1;omega
  |none=>
   obtain⟨_,h',e,rfl,k,y⟩:=Vu (env:=a) t x f;exact⟨_,h',e,t,none,rfl,k,y,tok,Up.refl _,o_,g_⟩
 |N+1,g=>agl b g (ab2 b N o_)
def agm [RunsM K]{a:List DV}(l:Eg a){N:Nat}(m:N<=20000){t:T}{c:Option CT}(tok:TOK t)(x:Cn h w c)(j:w<h.z)(hm:∀d,c=some d->(aO t:Int)+2*(2000-d.n)<=N):
  Rt K (33) [.eD a,enc t,.P w] h λv h'=>∃b g,v=enc b/\HKx w h h'/\Cn h' w g/\NR phN (λn t=>wf (Ce a inst) n t []) t b c g:=by
 cases c with
 |none=>
  obtain⟨v,h',e,rfl,k,y⟩:=Vu (env:=a) t x j;exact⟨_,h',e,t,none,rfl,k,y,tok,Up.refl _,o_,g_⟩
 |some d=>
  obtain⟨_,h',e,b,g,rfl,k,y,f⟩:=ab2 l N m t (some d) h w tok x j hm;refine⟨_,h',e,b,g,rfl,k,y,f.tok,f.up,?_,λi q=>(f.ok d i rfl q).2⟩;cases g with
  |none=>have:=f.ov;have:=x.1.n1;show(aO b:Int)+d.n<=aO t+4000010000;omega
  |some i=>exact(f.ok d i rfl rfl).1
end
def GQ {f:T->Option T}{u:T}{ks as_:List T}(b:ju f (aT u).1.K=some ks)(a:ju f (aT u).2=some as_):parts f u=some (bA (.mk (aT u).1.D (aT u).1.X (aT u).1.N (aT u).1.L ks) as_):=by
 unfold parts;rw[b];simp only;rw[a]
def sJ {f:Nat->T->Option T}(c:∀{n m},n<=m->Ext (f n) (f m)){l out:List T}{p:Nat}{x y:T}(hx:l[p]?=some x)(a:∃n,ju (f n) (l.take p)=some out)(b:∃n,f n x=some y):∃n,ju (f n) (l.take (p+1))=some (out++[y]):=by
 have⟨n,a⟩:=a;have⟨m,b⟩:=b;refine⟨max n m,?_⟩;rw[iN hx];exact Cr (iQ (c (Nat.le_max_left n m)) _ _ a) (c (Nat.le_max_right n m) _ _ b)
def Gn {u:T}(a:TOK u){c:List T}(b:c.length=u.K.length)(tk:∀x∈c,TOK x):TOK (.mk u.D u.X u.N u.L c):=by
 rw[<-fL u,TOK]at a;rw[TOK,b];exact⟨a.1,dh.2 tk⟩
def P36 (K:aN)(a:List DV)(N:Nat):Prop:=∀(t:T) (c:Option CT) (h:AH) (w:Nat),TOK t->Cn h w c->w<h.z->(∀d,c=some d->(aO t:Int)+2*(2000-d.n)<=N)->
 Rt K (36) [.eD a,enc t,.P w] h λv h'=>∃b e,v=enc b/\HKx w h h'/\Cn h' w e/\NR phN (nf (Ce a inst)) t b c e/\∀f,e=some f->aO b<=2000
section
variable {K:aN}{h:AH}{w:Nat}
theorem agk [RunsM K]{o:List DV}(eg:Eg o){N:Nat}(hN:N<=20000)(hI:∀N',N'<N->P36 K o N'):P36 K o N:=by
 intro t c h w tok x hw hm;refine aV afQ ?_;have⟨H,q0,k0,_,g0,g1⟩:∃H,H=(h.new (.box (aG t))).new zB/\HK h H/\H.z=h.z+2/\H.get h.z=some (.box (aG t))/\H.get (h.z+1)=some zB:=by
  have J:=Jb.two (X:=λ_=>False) h (.box (aG t)) zB (λ_ q=>q.elim);exact⟨_,rfl,J.kw.k,by simp only[aB],J.c0⟩
 obtain⟨_,H1,e1,u,c1,rfl,k1,x1,nr⟩:=agm eg hN (h:=H) tok (x.kw (k0.kw w hw)) o_ hm;have l1:=k1.z;have bv:=k1.up g0;have ag:=bz bv u;have⟨z,Y,k2,n2,b0⟩:∃z:AH,z=H1.set h.z (.box (aG u))/\HKx w h z/\z.z=H1.z/\z.get h.z=some (.box (aG u)):=⟨_,rfl,((k0.x w).trans k1).set _ (.inl (e_ _)),aE _ _ _,aF _ _ _⟩;have ap:z.get (h.z+1)=some zB:=by rw[Y,aA o_];exact k1.up g1
 have x2:Cn z w c1:=x1.kw (by rw[Y,aA o_]);rw[<-Y]at ag;have⟨_,_,_,_,gw,B⟩:=oA x2;have G:=b0;unfold ctB at gw;unfold aG at q0 g0 G;rw[aJ t]at e1 ⊢;rcases B with⟨rfl,rfl⟩|⟨rfl,d1,rfl,a9,rfl,rfl,rfl⟩
 ·simp only[go_sem,aB,<-q0,g0,e1,ag,gw,G,ap];refine nO u (by simp only[go_sem,aG]<;>rfl) ⟨u,none,rfl,k2.set _ (.inl o_),x2.kw (aA o_),⟨nr.tok,nr.up,nr.sz,λd' q=>by cases q⟩,λd' q=>by cases q⟩
 obtain⟨d,rfl,_,_⟩:=nr.up d1 rfl;have b4:(aO u:Int)+d.n<=aO t+d1.n:=nr.sz;have cc:=hm d rfl;have b9:=a9.n1;have b2:=a9.n0;have⟨th,ta,a3⟩:=oO _ u (e_ _) nr.tok;have a4:=kY _ u (e_ _);obtain⟨_,H3,e3,⟨V,rfl,o3⟩,k3⟩:=acU (aO u) u z (e_ _) o_;have l3:=k3.z;have⟨H4,q4,aj,k4,_,Q⟩:=oN H3 (aT u).1;have A:Bl z.z H3.z H4 V (aT u).2:=(Bl.of o3).kw λa _ ha=>k4.kw a ha;have U:=k3.trans k4;have⟨f,ah⟩:∃f,f=(aT u).1:=⟨_,rfl⟩;have⟨i,bb⟩:∃i,i=(aT u).2:=⟨_,rfl⟩;rw[<-ah]at th a3 a4 aj Q e3;rw[<-bb]at ta a3 a4 A;have x4:Cn H4 w (some d1):=x2.kw (U.kw w o_);have⟨_,ai⟩:Nd f.D f.X f.N f.L f.K.length/\gO f.K:=by rw[<-fL f,TOK]at th;exact th
 have ai:=dh.1 ai;have ch:aO f=1+ba f.K:=by rw[<-fL f];simp only[aO,T.K]
 have ce:=bO f.K;have b5:=bO i;let X:Nat->Prop:=(·=w)
 let L1:List (Nat×dF):=[(h.z+1,zB),(H3.z,.box (aG f))]
 have J0:Jb X L1 H4.z h H4 .nl []:=by
  refine⟨λk hk=>by show k<h.z;have:=hk;omega,by simp[L1];omega,?_,cV _ _ _ _,(k2.trans (U.x w)).p,by have:=k2.z;omega⟩;simp only[L1,X_,List.not_mem_nil,or_false,forall_eq_or_imp,forall_eq];exact⟨U.up ap,Q⟩
 rw[aJ u]at e3;simp only[go_sem,aB,<-q0,g0,e1,ag,gw,G,e3,aj];refine bo (λj fr H=>∃tm p E out L,p+j=f.K.length/\fr=F_ 36 tm/\nth tm 0=.eD o/\nth tm 2=.P w/\nth tm 6=.P (h.z+1)/\nth tm 7=.P H3.z/\nth tm 8=V/\nth tm 9=E/\nth tm 10=.I (p:Int)/\
  Jb X L1 H4.z h H E out/\Bl z.z H3.z H V i/\Cn H w L/\Up (some d1) L/\(∀y∈out,TOK y)/\out.length=p/\(ba out:Int)+d1.n<=ba (f.K.take p)+phN L/\∀R,L=some R->∃n,ju (nf (Ce o inst) n) (f.K.take p)=some out) f.K.length o_
  ⟨_,0,.nl,[],some d1,z_ _,rfl,k_,k_,k_,k_,k_,k_,y_,J0,A,x4,Up.refl _,by simp,rfl,by simp[ba,phN],λR q=>⟨0,rfl⟩⟩ ?_
 clear J0 A x4 aj Q k4 U q4 e3 o3 k3;rintro j fr H ⟨tm,p,E,out,L,hp,rfl,t0,t2,t6,t7,t8,t9,af,J,A,x4,Z,av,az,bq,am⟩;have Q:=J.cells (H3.z,.box (aG f)) (by simp[L1]);simp only at Q;have cf:=Q;unfold aG at Q;have nx:=J.nx;have kk:=J.kw;have kn:=kk.z;have bm:=J.beq;have⟨_,bx⟩:=J.vc;simp only[go_sem,af,t7,Q];refine aU (λD=>?_) (λbw=>?_)
 ·have D:p<f.K.length:=o_;have l:=a_ D;have ha:=aR bH l .i64;have⟨s1,s2⟩:=jz l;have ad:=aP p o_;obtain⟨_,H5,e5,x',c3,rfl,W,x5,m,_⟩:=hI (N-1) (by have:=bI t;omega) f.K[p] L H w (ai _ (m_ l)) x4 o_ (λR q=>by have⟨dq,q1,a1,a2⟩:=Z R q;cases q1;omega);have br:=m.sz;have⟨V',H6,e6,J6,al,P⟩:=(J.up W.p).add x' o_;simp only[go_sem,t9,t0,t7,af,t2,Q,ha,e5,e6,ad];refine⟨j-1,o_,_,p+1,V',out++[x'],c3,o_,rfl,q_ t0,q_ t2,q_ t6,q_ t7,q_ t8,k_,k_,J6,A.kw (λb B ao=>(P b o_).trans (W.kw b o_ (by have:=k2.z;omega))),x5.kw (P w o_),Z.trans m.up,λy hy=>?_,by simp[az],?_,λd3 q=>?_⟩
  ·rcases List.mem_append.1 hy with q|q
   ·exact av y q
   rw[W_]at q;subst q;exact m.tok
  ·rw[dR,s1];simp only[ba];omega
  have⟨R,Y,_⟩:=m.up d3 q;exact sJ (f:=nf (Ce o inst)) (λle _ _ e=>ui le e) l (am R Y) (m.ok d3 q)
 obtain rfl:p=f.K.length:=o_;rw[K_]at bq am;have bd:lT zT [(0,1,.I f.D),(1,1,.I f.X),(2,1,.str f.N),(3,1,.eL f.L),(4,1,E)]=some (.agg [.I f.D,.I f.X,.str f.N,.eL f.L,E]):=by
  rcases J.own with⟨_,⟨rfl,_⟩|⟨k,g,rfl,_⟩⟩<;>rfl
 let v:dF:=.box [.I f.D,.I f.X,.str f.N,.eL f.L,E]
 have bg:=bx;have ac:cY (.P H.z) (H.new zB) 5 (.agg [.I f.D,.I f.X,.str f.N,.eL f.L,E])=some ((H.new zB).set H.z v):=aS (aD _ _) (vs:=[.I f.D,.I f.X,.str f.N,.eL f.L,E]) (sz:=5) rfl rfl;simp only[go_sem,t7,Q,t9,bd,ac];have⟨O,qB,kB,nB,gB⟩:∃O:AH,O=(H.new zB).set H.z v/\HK H O/\O.z=H.z+1/\O.get H.z=some v:=⟨_,rfl,(HK.new _ _).set _ (e_ _),by rw[aE,aB],aF _ _ _⟩;rw[<-qB];have I:Bl H4.z H.z O E out:=(Bl.of J.own).kw λb _ B=>kB.kw b B;have a8:Bl z.z H3.z O V i:=A.kw λb _ B=>kB.kw b o_;have xB:Cn O w L:=x4.kw (kB.kw w o_);have bk:=Gn th az av;let L2:List (Nat×dF):=[(h.z+1,zB),(H.z,v)]
 have M:Jb X L2 (H.z+1) h O .nl []:=by
  refine⟨J.hX,by simp[L2];omega,?_,cV _ _ _ _,kk.trans (kB.p _),o_⟩;simp only[L2,X_,List.not_mem_nil,or_false,forall_eq_or_imp,forall_eq];exact⟨kB.up (J.cells (h.z+1,zB) (by simp[L1])),gB⟩
 clear qB;refine bo (λj fr H'=>∃tm p ak r c3,p+j=i.length/\fr=F_ 36 tm/\nth tm 0=.eD o/\nth tm 2=.P w/\nth tm 6=.P (h.z+1)/\nth tm 8=V/\nth tm 11=.P H.z/\nth tm 12=ak/\nth tm 13=.I (p:Int)/\
  Jb X L2 (H.z+1) h H' ak r/\Bl H4.z H.z H' E out/\Bl z.z H3.z H' V i/\Cn H' w c3/\Up L c3/\(∀y∈r,TOK y)/\r.length=p/\(ba r:Int)+phN L<=ba (i.take p)+phN c3/\∀d3,c3=some d3->∃n,ju (nf (Ce o inst) n) (i.take p)=some r) i.length o_
  ⟨_,0,.nl,[],L,z_ _,rfl,q_ t0,q_ t2,q_ t6,q_ t8,k_,k_,y_,M,I,a8,xB,Up.refl _,by simp,rfl,by simp[ba],λR q=>⟨0,rfl⟩⟩ ?_
 clear M I a8 xB t0 t2 t6 t7 t8 t9 af gB kB nB O ac A x4;rintro j2 fr H' ⟨tm,p,ak,r,c3,b8,rfl,t0,t2,t6,t8,ar,a6,an,M,I,A,x5,aa,aw,be,au,C⟩;have cb:=M.nx;have S:=M.kw;have a7:=M.beq;have ax:=A.beq;have a5:=λH=>A.len H;simp only[go_sem,an,t8,a5];refine aU (λD=>?_) (λbw=>?_)
 ·have D:p<i.length:=o_;have l:=a_ D;have⟨_,ia,ld⟩:=A.get l;have⟨s1,_⟩:=jz l;have ad:=aP p o_;obtain⟨_,H5,e5,x',c4,rfl,W,x6,m,_⟩:=hI (N-1) (by have:=bI t;omega) i[p] c3 H' w (ta _ (m_ l)) x5 (by have:=S.z;omega) (λd3 q=>by have⟨_,q1,_,_⟩:=(Z.trans aa) d3 q;cases q1;omega);have br:=m.sz;have⟨V',H6,e6,J6,_,P⟩:=(M.up W.p).add x' o_;simp only[go_sem,a6,t0,t8,an,t2,ia,ld,e5,e6,ad];refine⟨j2-1,o_,_,p+1,V',r++[x'],c4,o_,rfl,q_ t0,q_ t2,q_ t6,q_ t8,q_ ar,k_,k_,J6,I.kw (λb B ao=>(P b o_).trans (W.kw b o_ o_)),A.kw (λb B ao=>(P b o_).trans (W.kw b o_ (by have:=k2.z;omega))),x6.kw (P w o_),aa.trans m.up,λy hy=>?_,by simp[be],?_,λs q=>?_⟩
  ·rcases List.mem_append.1 hy with q|q
   ·exact aw y q
   rw[W_]at q;subst q;exact m.tok
  ·rw[dR,s1];simp only[ba];omega
  have⟨d3,Y,_⟩:=m.up s q;exact sJ (f:=nf (Ce o inst)) (λle _ _ e=>ui le e) l (C d3 Y) (m.ok s q)
 obtain rfl:p=i.length:=o_;rw[K_]at au C;have a0:=M.cells (H.z,v) (by simp[L2]);simp only[v]at a0;have g6:=M.cells (h.z+1,zB) (by simp[L2]);simp only at g6;have⟨Ha,ea,_,ka⟩:=Ew I f.D f.X f.N f.L;have⟨Hb,eb,_,kb,_⟩:=((Bl.of M.own).kw (h':=Ha) λb B _=>ka b o_).can0;obtain⟨_,H5,e5,rfl,W⟩:=c74 (.mk f.D f.X f.N f.L out) r Hb o_;have bi:=(dJ (c:=[]) (f:=70) (ae ea (ae eb (aH _))) (ae (cJ _ _) (ae (mL r _) (aH _)))).trans e5;have l5:=W.z;have F:∀b,b<H4.z->H5.get b=H'.get b:=λb B=>by rw[W.kw b o_,kb b o_,ka b o_]
 have x7:Cn H5 w c3:=x5.kw (F w o_);have ab:aO (bA (.mk f.D f.X f.N f.L out) r)=1+ba out+ba r+r.length:=by rw[cd];simp only[aO]
 have ay:=ED x7;obtain⟨_,H6,e6,rfl,P,c4,x8,sr⟩:=agQ (bA (.mk f.D f.X f.N f.L out) r) (by rw[ab];omega) x7 (by have:=S.z;omega);have l6:=P.z;have bf:H6.get (h.z+1)=some zB:=P.up ((F _ o_).trans g6);have b1:=bz bf (bA (.mk f.D f.X f.N f.L out) r);have b3:=ED x8;have ca:phN c3<=phN c4:=by
  cases c4 with
  |none=>exact ay
  |some s=>rw[(sr s rfl).1];exact Int.le_refl _
 simp only[go_sem,ar,a0,a6,bi,t2,e6,t6,b1];refine nO _ (by simp only[go_sem,t6,aG]<;>rfl) ⟨_,c4,rfl,⟨by rw[aE];have:=S.z;omega,λb B aq=>?_⟩,x8.kw (aA o_),⟨ij bk aw,(nr.up.trans (Z.trans aa)).trans λs q=>⟨s,(sr s q).1,Int.le_refl _,Int.le_refl _⟩,?_,λs q=>?_⟩,λs q=>(sr s q).2⟩
 ·rw[aA o_,P.kw b o_ aq,F b (by have:=k2.z;omega)];exact S.kw b B aq
 ·rw[ab];show(_:Int)+d.n<=_;omega
 have q3:=(sr s q).1;have⟨n1,h1⟩:=C s q3;have⟨R,Y,_⟩:=aa s q3;have⟨n2,h2⟩:=am R Y;have⟨n3,h3⟩:=nr.ok d1 rfl;have hp:=GQ (f:=nf (Ce o inst) (max n1 n2)) (u:=u) (ks:=out) (as_:=r) (by rw[<-ah];exact iQ (λ_ _ e=>ui (Nat.le_max_right n1 n2) e) _ _ h2) (by rw[<-bb];exact iQ (λ_ _ e=>ui (Nat.le_max_left n1 n2) e) _ _ h1);rw[<-ah]at hp;exact aaC ⟨n3,h3⟩ hp
theorem ab0 [RunsM K]{env:List DV}(eg:Eg env):∀N,N<=20000->P36 K env N:=by
 intro N;induction N using Nat.strongRecOn with
 |_ N ih=>exactλhN=>agk eg hN λN' h=>ih N' h o_
end
def phE:Option CT->Int
 |some d=>d.n+4*d.f
 |none=>4000300000
def EE {h:AH}{w:Nat}{c:Option CT}(x:Cn h w c):phE c<=4000300000:=by
 cases c with
 |none=>exact Int.le_refl _
 |some d=>have:=x.1.n1;have:=x.1.f1;show d.n+4*d.f<=_;omega
def abt {h:AH}{w:Nat}{c:Option CT}(x:Cn h w c):0<=phN c:=by
 cases c with
 |none=>decide
 |some d=>exact x.1.n0
def abu {h:AH}{w:Nat}{c:Option CT}(x:Cn h w c):0<=phE c:=by
 cases c with
 |none=>decide
 |some d=>have:=x.1.n0;have:=x.1.f0;show 0<=d.n+4*d.f;omega
def Gm:TOK fQ:=by
 unfold fQ;rw[TOK,gO];exact⟨⟨by decide,by decide,rfl,by decide,by decide,λ_ _=>rfl,by simp[bs],by decide,λ_=>rfl,⟨by decide,by decide,λ_ _=>rfl⟩,by simp⟩,trivial⟩
def Xr {v:T}(a:TOK v):TOK (.mk 5 0 (bs []) [] [fQ,v]):=by
 rw[TOK,gO,gO,gO];exact⟨⟨by decide,by decide,rfl,by decide,by decide,λ_ _=>rfl,by simp[bs],by decide,λ_=>rfl,⟨by decide,by decide,λ_ _=>rfl⟩,by simp⟩,Gm,a,trivial⟩
theorem abr (a:List DV)(t:T):ptT (Ce a inst) t=paB a (aT t).1 (aT t).2.length:=rfl
def Zr (H:AH):cw (.clip [.agg zT]) H=(.ls ([rD].map enc),H):=by
 rw[bQ (by simp[AV.free,AV.frees])];refine Prod.ext ?_ rfl;show(AV.ls (AV.norms _))=_;have a:(AV.agg zT).norm=enc rD:=iV (ls:=[]) (ks:=[]) rfl rfl;simp only[mF,oW,a,List.map_cons,List.map_nil]
def Zt (v:T)(H:AH):cw (.agg [.I 5,.I 0,.str (bs []),.nl,.clip [.agg [.I 1,.I 0,.str (bs []),.nl,.nl],.agg (h_ v)]]) H=(enc (.mk 5 0 (bs []) [] [fQ,v]),H):=by
 refine jc (iV (ls:=[]) (ks:=[fQ,v]) rfl ?_) _;show(AV.ls (AV.norms _))=_;have a:(AV.agg [.I 1,.I 0,.str (bs []),.nl,.nl]).norm=enc fQ:=iV (ls:=[]) (ks:=[]) rfl rfl;simp only[mF,oW,a,jt (dH _) (ei _),AV.eT,List.map_cons,List.map_nil]
def P19 (K:aN)(a:List DV)(M:Nat):Prop:=∀(t:T) (c:Option CT) (h:AH) (w:Nat),TOK t->Cn h w c->w<h.z->(∀d,c=some d->aO t<=2000/\3000*(40000-d.f)+(aO t:Int)<=M)->
 Rt K (119) [.eD a,enc t,.P w] h λv h'=>∃b e,v=enc b/\HKx w h h'/\Cn h' w e/\NR phE (ex (Ce a inst)) t b c e/\∀f,e=some f->aO b<=2000
section
variable {K:aN}{h:AH}{w:Nat}
theorem agb [RunsM K]{m:List DV}(eg:Eg m){M:Nat}(hI:∀M',M'<M->P19 K m M'):P19 K m M:=by
 intro u c h w tok x hw hm;refine aV aeU ?_;have⟨H2,q0,k0,_,ci,ar⟩:∃H,H=(h.new (.box (aG u))).new zB/\HK h H/\H.z=h.z+2/\H.get h.z=some (.box (aG u))/\H.get (h.z+1)=some zB:=by
  have J:=Jb.two (X:=λ_=>False) h (.box (aG u)) zB (λ_ q=>q.elim);exact⟨_,rfl,J.kw.k,by simp only[aB],J.c0⟩
 have x2:=x.kw (k0.kw w hw);have⟨_,_,_,_,gw,hb⟩:=oA x2;have L:=ci;unfold ctB at gw;unfold aG at q0 L;have k2:=k0.x w;rw[aJ u];rcases hb with⟨rfl,rfl⟩|⟨rfl,B,rfl,ah,rfl,rfl,rfl⟩
 ·simp only[go_sem,aB,<-q0,gw,L,ar];exact nO u (by simp only[go_sem,aG]<;>rfl) ⟨u,none,rfl,k2.set _ (.inl o_),x2.kw (aA o_),⟨tok,Up.refl _,Int.le_refl _,λd' q=>by cases q⟩,λd' q=>by cases q⟩
 have⟨_,_⟩:=hm B rfl;have d7:=ah.n1;have dl:=ah.n0;have dz:=ah.f0;have dv:=ah.f1;have⟨th,ta,b8⟩:=oO _ u (e_ _) tok;have b9:=kY _ u (e_ _);obtain⟨_,H3,e3,⟨V,rfl,o3⟩,k3⟩:=acU (aO u) u H2 (e_ _) o_;have l3:=k3.z;have⟨dj,q4,ac,bq,cx,ag⟩:=oN H3 (aT u).1;obtain⟨_,H4,eP,rfl,kP⟩:=c1160 (h:=dj) m eg (aT u).1 (aT u).2.length;have n4:H3.z<H4.z:=by have:=kP.z;omega
 have k4:=bq.trans kP;have g7:=kP.up ag;have G:=λH=>(Bl.of o3).len H;have aq:=(Bl.of o3).beq;have Q:Bl H2.z H3.z H4 V (aT u).2:=(Bl.of o3).kw λa _ ha=>k4.kw a ha;have A:=k3.trans k4;have⟨f,U⟩:∃f,f=(aT u).1:=⟨_,rfl⟩;have⟨i,aj⟩:∃i,i=(aT u).2:=⟨_,rfl⟩;rw[<-U]at th b8 b9 ac g7 ag e3 eP;rw[<-aj]at ta b8 b9 Q G eP;have dt:0<=phE (some B):=by show 0<=B.n+4*B.f;omega
 have x4:Cn H4 w (some B):=x2.kw (A.kw w o_);have⟨_,av⟩:Nd f.D f.X f.N f.L f.K.length/\gO f.K:=by rw[<-fL f,TOK]at th;exact th
 have av:=dh.1 av;have et:aO f=1+ba f.K:=by rw[<-fL f];simp only[aO,T.K]
 have eh:=bO f.K;have d5:=bO i;let X:Nat->Prop:=(·=w)
 let L1:List (Nat×dF):=[(h.z+1,zB),(H3.z,.box (aG f))]
 have J0:Jb X L1 H4.z h H4 .nl []:=by
  refine⟨λk hk=>by show k<h.z;have:=hk;omega,by simp[L1];omega,?_,cV _ _ _ _,(k2.trans (A.x w)).p,by have:=k2.z;omega⟩;simp only[L1,X_,List.not_mem_nil,or_false,forall_eq_or_imp,forall_eq];exact⟨A.up ar,g7⟩
 rw[aJ u]at e3;rw[aJ f]at eP;have E:=ag;unfold aG at E;cases ab:paB m f i.length with
 |true=>
  rw[ab]at eP;have co:=A.up ci;have am:=co;unfold aG at am;have d8:=A.z;obtain⟨_,H5,e5,up,e,rfl,R,a6⟩:=c73 (h:=H4) 1 o_ o_ u o_ (jC u tok);have l5:=R.z;have⟨H6,_,dk,P,_,g9⟩:=oN H5 up;have en:aO up<=aO u:=by
   rcases a6 with⟨_,rfl,_⟩|⟨_,rfl,_⟩
   ·have:=pT 1 u 0;omega
   have:aO zero=1:=by unfold zero;simp[aO,ba]
   have:=bI u;omega
  have cr:TOK up:=by
   rcases a6 with⟨o,rfl,_⟩|⟨_,rfl,_⟩
   ·exact sf 1 u 0 tok (vB 1 u 0 (Int.le_refl _) (jC u tok) o)
   exact rI
  obtain⟨_,H7,e7,rfl,k7⟩:=c74 up [rD] H6 (by simp);have b5:=(dJ (c:=[]) (f:=70) (ae (cJ up _) (ae (Zr _) (aH _))) (ae (cJ up _) (ae (mL [rD] _) (aH _)))).trans e7;have l7:=k7.z;have cu:bA up [rD]=MK.app up rD:=rfl;have c5:=zf cr rI;have eo:aO (MK.app up rD)=aO up+2:=by
   have:aO rD=1:=by unfold rD;simp[aO,ba]
   unfold MK.app;simp only[aO,ba,this];omega
  rw[cu]at b5;have⟨H8,_,cs,k8,_,ad⟩:=oN H7 (MK.app up rD);have a3:=((R.trans P).trans k7).trans k8;have x8:Cn H8 w (some B):=x4.kw (a3.kw w o_);obtain⟨_,H9,e9,rfl,k9,c1,x9,fm⟩:=c102n (MK.app up rD) o_ e x8 o_;have l9:=k9.z;have ap:=k9.up ad;obtain⟨_,c8,di,nT,D,rfl,bx,ax,t,ak⟩:=ab0 eg 20000 (e_ _) (MK.app up rD) c1 H9 w c5 x9 o_ (λd q=>by
   have⟨dq,I,_,_,a2,_,_⟩:=fm d q;cases I;subst q;have:=x9.1.n0;omega)
  have dy:=bx.z;have dg:Up (some B) D:=λd q=>by
   have⟨dq,I,a1,a2⟩:=t.up d q;have⟨dr,F,_,_,b2,b3,_⟩:=fm dq I;cases F;exact⟨B,rfl,o_,o_⟩
  have cb:∀d,D=some d->B.f+1<=d.f:=λd q=>by
   have⟨dq,I,a1,a2⟩:=t.up d q;have⟨dr,F,_,_,b2,b3,_⟩:=fm dq I;cases F;omega
  obtain⟨_,_,cf,vT,c3,rfl,b4,bm,v,_⟩:=hI (M-1) (by have:=bI u;omega) nT D c8 w t.tok ax o_ (λd q=>⟨ak d q,by have:=cb d q;have:=ak d q;have:=bI u;omega⟩);have ek:=b4.z;have bb:aO (.mk 5 0 (bs []) [] [fQ,vT])=aO vT+2:=by
   have:aO fQ=1:=by unfold fQ;simp[aO,ba]
   simp only[aO,ba,this];omega
  have al:=t.sz;have ao:=v.sz;have c9:=EE bm;have ef:=ED ax;have dx:=abt x9;have ej:=abu ax;obtain⟨_,_,cq,rfl,b1,c4,cn,sr⟩:=agQ (.mk 5 0 (bs []) [] [fQ,vT]) (by rw[bb];omega) bm o_;have be:=(dJ (c:=[]) (f:=74) (ae (Zt vT _) (ae (bS _ _ _ _) (aH _))) (ae (cJ _ _) (ae (bS _ _ _ _) (aH _)))).trans cq;have er:=b1.z;have kx:=((k9.trans bx).trans b4).trans b1;have b0:=kx.up (a3.up (A.up ar));have a7:=bz b0 (.mk 5 0 (bs []) [] [fQ,vT]);have bv:ptT (Ce m inst) u=true:=by rw[abr,<-U,<-aj];exact ab
  have dm:=ad;unfold aG at g9 ad ap;rw[aJ u]at e5;rw[aJ vT]at cf;simp only[go_sem,aB,<-q0,gw,L,e3,ac,E,G,eP,am,e5,dk,g9,<-aJ up,b5,cs,ad,<-aJ (MK.app up rD),e9,ap,di,cf,be,a7];refine nO (.mk 5 0 (bs []) [] [fQ,vT]) (by simp only[go_sem,aG]<;>rfl) ⟨_,c4,rfl,((((k2.trans (A.x w)).trans (a3.x w)).trans kx).set _ (.inl o_)),cn.kw (aA o_),⟨Xr v.tok,(dg.trans v.up).trans λr q=>⟨r,(sr r q).1,Int.le_refl _,Int.le_refl _⟩,?_,λr q=>?_⟩,λr q=>(sr r q).2⟩
  ·have d0:phE c3<=phE c4:=by
    cases c4 with
    |none=>exact c9
    |some r=>rw[(sr r rfl).1];exact Int.le_refl _
   rw[bb];cases D with
   |none=>
    have a1:(aO vT:Int)+4000300000<=aO nT+phE c3:=ao;have a2:(aO nT:Int)+phN c1<=aO (MK.app up rD)+4000010000:=al;show _+(B.n+4*B.f)<=_;have:phE c3=4000300000:=by
     cases c3 with
     |none=>rfl
     |some d3=>have⟨_,q,_⟩:=v.up d3 rfl;cases q
    omega
   |some z=>
    have⟨dc,I,_⟩:=t.up z rfl;have⟨_,F,_,_,_,_,_⟩:=fm dc I;cases F;have a1:(aO vT:Int)+(z.n+4*z.f)<=aO nT+phE c3:=ao;have a2:(aO nT:Int)+phN c1<=aO (MK.app up rD)+z.n:=al;rw[I]at a2;have a2:(aO nT:Int)+dc.n<=aO (MK.app up rD)+z.n:=a2;have:=cb z rfl;show _+(B.n+4*B.f)<=_;omega
  have q3:=(sr r q).1;have⟨n1,h1⟩:=v.ok r q3;have⟨z,F,_⟩:=v.up r q3;have⟨n2,h2⟩:=t.ok z F;have⟨dc,I,_⟩:=t.up z F;have⟨_,_,_,_⟩:=fm dc I;have ch:up=cZ 1 u 0:=by
   rcases a6 with⟨_,q,_⟩|⟨_,_,q⟩
   ·exact q
   omega
  refine⟨max n1 n2+1,?_⟩;unfold ex;rw[bv,P_ rfl,<-ch,ui (Nat.le_max_right n1 n2) h2];simp only;rw[AP (Nat.le_max_left n1 n2) h1]
 |false=>
 rw[ab]at eP;simp only[go_sem,aB,<-q0,gw,L,e3,ac,E,G,eP];refine bo (λj fr H=>∃tm p V9 out D,p+j=f.K.length/\fr=F_ 119 tm/\nth tm 0=.eD m/\nth tm 2=.P w/\nth tm 6=.P (h.z+1)/\nth tm 7=.P H3.z/\nth tm 8=V/\nth tm 12=V9/\nth tm 13=.nl/\nth tm 14=.I (p:Int)/\
  Jb X L1 H4.z h H V9 out/\Bl H2.z H3.z H V i/\Cn H w D/\Up (some B) D/\(∀y∈out,TOK y)/\out.length=p/\(ba out:Int)+phE (some B)<=ba (f.K.take p)+phE D/\∀z,D=some z->∃n,ju (ex (Ce m inst) n) (f.K.take p)=some out) f.K.length o_
  ⟨_,0,.nl,[],some B,z_ _,rfl,k_,k_,k_,k_,k_,k_,k_,y_,J0,Q,x4,Up.refl _,by simp,rfl,by simp[ba],λz q=>⟨0,rfl⟩⟩ ?_
 clear J0 Q x4 ac g7 k4 A q4 e3 o3 k3 eP kP bq ag E cx G aq;rintro j fr H ⟨tm,p,V9,out,D,hp,rfl,t0,t2,t6,t7,t8,O,N,a0,J,Q,x4,af,bi,bw,dd,a5⟩;have g7:=J.cells (H3.z,.box (aG f)) (by simp[L1]);simp only at g7;have el:=g7;unfold aG at g7;have nx:=J.nx;have kk:=J.kw;have kn:=kk.z;have db:=J.beq;have⟨_,_⟩:=J.vc;simp only[go_sem,a0,t7,g7];refine aU (λY=>?_) (λdf=>?_)
 ·have Y:p<f.K.length:=o_;have l:=a_ Y;have ha:=aR bH l .i64;have⟨s1,s2⟩:=jz l;have au:=aP p o_;obtain⟨_,H5,e5,x',c3,rfl,R,x5,s,_⟩:=hI (M-1) (by have:=bI u;omega) f.K[p] D H w (av _ (m_ l)) x4 o_ (λz q=>by have⟨dq,I,a1,a2⟩:=af z q;cases I;omega);have de:=s.sz;have⟨V',H6,e6,J6,az,P⟩:=(J.up R.p).add x' o_;simp only[go_sem,O,t0,t7,a0,t2,g7,ha,e5,e6,au];refine⟨j-1,o_,_,p+1,V',out++[x'],c3,o_,rfl,q_ t0,q_ t2,q_ t6,q_ t7,q_ t8,k_,q_ N,k_,J6,Q.kw (λb hb a9=>(P b o_).trans (R.kw b o_ (by have:=k2.z;omega))),x5.kw (P w o_),af.trans s.up,λy hy=>?_,by simp[bw],?_,λd3 q=>?_⟩
  ·rcases List.mem_append.1 hy with q|q
   ·exact bi y q
   rw[W_]at q;subst q;exact s.tok
  ·rw[dR,s1];simp only[ba];omega
  have⟨z,F,_⟩:=s.up d3 q;exact sJ (f:=ex (Ce m inst)) (λle _ _ e=>AP le e) l (a5 z F) (s.ok d3 q)
 obtain rfl:p=f.K.length:=o_;rw[K_]at dd a5;have bd:lT zT [(0,1,.I f.D),(1,1,.I f.X),(2,1,.str f.N),(3,1,.eL f.L),(4,1,V9)]=some (.agg [.I f.D,.I f.X,.str f.N,.eL f.L,V9]):=by
  rcases J.own with⟨_,⟨rfl,_⟩|⟨k,g,rfl,_⟩⟩<;>rfl
 simp only[go_sem];have Z:=Bl.of J.own;have cz:=Gn th bw bi;have J2:Jb X L1 H.z h H .nl []:=⟨J.hX,by simp[L1];omega,J.cells,cV _ _ _ _,kk,o_⟩;refine bo (λj fr H'=>∃tm p ay C c3,p+j=i.length/\fr=F_ 119 tm/\nth tm 0=.eD m/\nth tm 2=.P w/\nth tm 6=.P (h.z+1)/\nth tm 7=.P H3.z/\nth tm 8=V/\nth tm 12=V9/\nth tm 13=ay/\nth tm 15=.I (p:Int)/\
  Jb X L1 H.z h H' ay C/\Bl H4.z H.z H' V9 out/\Bl H2.z H3.z H' V i/\Cn H' w c3/\Up D c3/\(∀y∈C,TOK y)/\C.length=p/\(ba C:Int)+phE D<=ba (i.take p)+phE c3/\∀d3,c3=some d3->∃n,ju (ex (Ce m inst) n) (i.take p)=some C) i.length o_
  ⟨_,0,.nl,[],D,z_ _,rfl,q_ t0,q_ t2,q_ t6,q_ t7,q_ t8,q_ O,q_ N,y_,J2,Z,Q,x4,Up.refl _,by simp,rfl,by simp[ba],λz q=>⟨0,rfl⟩⟩ ?_
 clear J2 Z t0 t2 t6 t7 t8 O N a0 Q x4;rintro j2 fr H' ⟨tm,p,ay,C,c3,d6,rfl,t0,t2,t6,t7,t8,O,N,cg,J2,Z,Q,x5,ai,bk,ck,bg,W⟩;have ec:=J2.nx;have aa:=J2.kw;have cc:=J2.beq;have br:=Q.beq;have ca:=λH=>Q.len H;simp only[go_sem,cg,t8,ca];refine aU (λY=>?_) (λdf=>?_)
 ·have Y:p<i.length:=o_;have l:=a_ Y;have⟨_,ia,ld⟩:=Q.get l;have⟨s1,_⟩:=jz l;have au:=aP p o_;obtain⟨_,H5,e5,x',c4,rfl,R,x6,s,_⟩:=hI (M-1) (by have:=bI u;omega) i[p] c3 H' w (ta _ (m_ l)) x5 (by have:=aa.z;omega) (λd3 q=>by have⟨_,I,_,_⟩:=(af.trans ai) d3 q;cases I;omega);have de:=s.sz;have⟨V',H6,e6,J6,_,P⟩:=(J2.up R.p).add x' o_;simp only[go_sem,N,t0,t8,cg,t2,ia,ld,e5,e6,au];refine⟨j2-1,o_,_,p+1,V',C++[x'],c4,o_,rfl,q_ t0,q_ t2,q_ t6,q_ t7,q_ t8,q_ O,k_,k_,J6,Z.kw (λb hb a9=>(P b o_).trans (R.kw b o_ o_)),Q.kw (λb hb a9=>(P b o_).trans (R.kw b o_ (by have:=k2.z;omega))),x6.kw (P w o_),ai.trans s.up,λy hy=>?_,by simp[ck],?_,λr q=>?_⟩
  ·rcases List.mem_append.1 hy with q|q
   ·exact bk y q
   rw[W_]at q;subst q;exact s.tok
  ·rw[dR,s1];simp only[ba];omega
  have⟨d3,F,_⟩:=s.up r q;exact sJ (f:=ex (Ce m inst)) (λle _ _ e=>AP le e) l (W d3 F) (s.ok r q)
 obtain rfl:p=i.length:=o_;rw[K_]at bg W;have aw:=J2.cells (H3.z,.box (aG f)) (by simp[L1]);simp only at aw;unfold aG at aw;have g6:=J2.cells (h.z+1,zB) (by simp[L1]);simp only at g6;have⟨Ha,ea,_,ka⟩:=Ew Z f.D f.X f.N f.L;have⟨Hb,eb,_,kb,_⟩:=((Bl.of J2.own).kw (h':=Ha) λb hb _=>ka b o_).can0;obtain⟨_,H5,e5,rfl,R⟩:=c74 (.mk f.D f.X f.N f.L out) C Hb o_;have cv:=(dJ (c:=[]) (f:=70) (ae ea (ae eb (aH _))) (ae (cJ _ _) (ae (mL C _) (aH _)))).trans e5;have l5:=R.z;have S:∀b,b<H4.z->H5.get b=H'.get b:=λb hb=>by rw[R.kw b o_,kb b o_,ka b o_]
 have x7:Cn H5 w c3:=x5.kw (S w o_);have an:aO (bA (.mk f.D f.X f.N f.L out) C)=1+ba out+ba C+C.length:=by rw[cd];simp only[aO]
 have a8:=EE x7;obtain⟨_,H6,e6,rfl,P,c4,x8,sr⟩:=agQ (bA (.mk f.D f.X f.N f.L out) C) (by rw[an];omega) x7 (by have:=aa.z;omega);have l6:=P.z;have cl:H6.get (h.z+1)=some zB:=P.up ((S _ o_).trans g6);have a7:=bz cl (bA (.mk f.D f.X f.N f.L out) C);have dn:=EE x8;have d9:phE c3<=phE c4:=by
  cases c4 with
  |none=>exact a8
  |some r=>rw[(sr r rfl).1];exact Int.le_refl _
 simp only[go_sem,t7,aw,O,bd,N,cv,t2,e6,t6,a7];refine nO _ (by simp only[go_sem,t6,aG]<;>rfl) ⟨_,c4,rfl,⟨by rw[aE];have:=aa.z;omega,λb hb bf=>?_⟩,x8.kw (aA o_),⟨ij cz bk,(af.trans ai).trans λr q=>⟨r,(sr r q).1,Int.le_refl _,Int.le_refl _⟩,?_,λr q=>?_⟩,λr q=>(sr r q).2⟩
 ·rw[aA o_,P.kw b o_ bf,S b (by have:=k2.z;omega)];exact aa.kw b hb bf
 ·rw[an];omega
 have q3:=(sr r q).1;have⟨n1,h1⟩:=W r q3;have⟨z,F,_⟩:=ai r q3;have⟨n2,h2⟩:=a5 z F;have hp:=GQ (f:=ex (Ce m inst) (max n1 n2)) (u:=u) (ks:=out) (as_:=C) (by rw[<-U];exact iQ (λ_ _ e=>AP (Nat.le_max_right n1 n2) e) _ _ h2) (by rw[<-aj];exact iQ (λ_ _ e=>AP (Nat.le_max_left n1 n2) e) _ _ h1);rw[<-U]at hp;refine⟨max n1 n2+1,?_⟩;unfold ex;rw[abr,<-U,<-aj,ab,N_ (by decide)];exact hp
theorem c1119 [RunsM K]{a:List DV}(d:Eg a):∀M,P19 K a M:=by
 intro M;induction M using Nat.strongRecOn with
 |_ M b=>exact agb d λc h=>b c h
end
mutual
def Eh:∀(t:T) (d:Int),occ t d=false->IB t->0<=d->okS (-1) t d
 |.mk k i nm ls f,d,ho,c,e=>by
  unfold occ at ho;unfold okS;by_cases hk:k=0
  ·rw[P_ hk]at ho ⊢;have:=U_ ho;have⟨_,_,_⟩:=c.1 hk;omega
  rw[N_ hk]at ho ⊢;exact GW k f 0 d ho c.2 e
def GW (k:Int):∀(c:List T) (j:Nat) (d:Int),ue k j c d=false->IBs c->0<=d->Qi (-1) k j c d
 |[],_,_,_,_,_=>by trivial
 |t::l,j,d,ho,a,b=>by
  rw[ue,Bool.or_eq_false_iff]at ho;have:=mI k j;exact⟨Eh t _ g_ a.1 o_,GW k l (j+1) d g_ a.2 b⟩
end
def RU:∀u:T,TOK u->aO (qQ u)<=aO u/\TOK (qQ u):=by
 intro u d;have⟨k,i,nm,ls,J⟩:=u;rw[TOK]at d;have⟨nd,tk⟩:=d;have c:=nd.K;unfold cN at c;have d:TOK (.mk k i nm ls J):=by rw[TOK];exact⟨nd,tk⟩
 by_cases A:k=5
 ·subst A;rw[P_ o_]at c
  match J,c with
  |[a,b],_=>
   rw[gO,gO,gO]at tk;by_cases j:∃f v,b.D=4/\b.K=[f,v]/\v.D=0/\v.X=0/\occ f 0=false
   ·have⟨f,v,H,n,x,E,ho⟩:=j;have l:b=.mk 4 b.X b.N b.L [f,v]:=by rw[<-H,<-n];exact(fL b).symm
    have g:=tk.2.1;rw[l,TOK,gO,gO,gO]at g;have G:=g.2.2.1;have C:v.K=[]:=by
     have:=jC v G;rw[<-fL v]at this;exact(this.1 x).2.2
    rw[Kz l x E C ho];have hs:=pT (-1) f 0;have I:aO b=1+(aO f+(aO v+0)):=by rw[l];simp only[aO,ba]
    exact⟨by simp only[aO,ba];omega,sf (-1) f 0 g.2.1 (vB (-1) f 0 (Int.le_refl _) (jC f g.2.1) (Eh f 0 ho (jC f g.2.1) (Int.le_refl _)))⟩
   rw[KB λf v r t s o=>by
    cases h:occ f 0 with
    |true=>rfl
    |false=>exact absurd ⟨f,v,r,t,s,o,h⟩ j]
   exact⟨e_ _,d⟩
 by_cases B:k=8
 ·subst B;rw[N_ o_,P_ o_]at c
  match J,c with
  |[z,a,b],_=>
   rw[gO,gO,gO,gO]at tk;by_cases j:∃p,a.D=9/\a.K=[p]/\b.D=10/\b.K=[p]
   ·have⟨p,D,F,m,n⟩:=j;have w:a=.mk 9 a.X a.N a.L [p]:=by rw[<-D,<-F];exact(fL a).symm
    have l:b=.mk 10 b.X b.N b.L [p]:=by rw[<-m,<-n];exact(fL b).symm
    rw[Kx w l];have hs:aO a=1+(aO p+0):=by rw[w];simp only[aO,ba]
    have y:=tk.2.1;rw[w,TOK,gO]at y;exact⟨by simp only[aO,ba];omega,y.2.1⟩
   rw[Ky λp q r t s o e=>j ⟨p,r,t,s,by rw[o,e]⟩];exact⟨e_ _,d⟩
 rw[wJ (u:=.mk k i nm ls J) A B];exact⟨e_ _,d⟩
mutual
def Bn:∀t:T,TOK t->TOK (sh t)/\aO (sh t)<=aO t
 |.mk k i nm ls g,h=>by
  rw[TOK]at h;have⟨a,_,c⟩:=KZ (decide (k=5\/k=8)) g h.2;have d:TOK (.mk k i nm ls (shs (decide (k=5\/k=8)) g)):=by rw[TOK,c];exact⟨h.1,a⟩
  rw[sh];have⟨e,f⟩:=RU _ d;exact⟨f,C_ e (by simp only[aO];omega)⟩
def KZ:∀(p:Bool) (l:List T),gO l->gO (shs p l)/\ba (shs p l)<=ba l/\(shs p l).length=l.length
 |p,[],_=>by rw[shs];exact⟨by rw[gO];trivial,e_ _,rfl⟩
 |p,t::l,h=>by
  rw[gO]at h;rw[shs];have⟨a,_,c⟩:=KZ false l h.2;have⟨d,_⟩:=Bn t h.1;have e:aO fQ=1:=by unfold fQ;simp[aO,ba]
  have:=bI t;rw[gO];refine⟨⟨?_,a⟩,?_,by simp[c]⟩
  ·cases p with
   |true=>exact Gm
   |false=>exact d
  simp only[ba];cases p with
  |true=>show aO fQ+_<=_;omega
  |false=>show aO (sh t)+_<=_;omega
end
section
variable {K:aN}{h:AH}
def c1118 [RunsM K]:∀(n:Nat) (t:T) (h:AH),aO t<=n->aO t<=10000000000->TOK t->Rt K (118) [enc t] h λv h'=>v=enc (sh t)/\HK h h':=by
 intro n;induction n with
 |zero=>intro t h hn;have:=bI t;omega
 |succ n ih=>
 intro t h hn hb tok;refine aV aeV ?_;have⟨nd,a4⟩:Nd t.D t.X t.N t.L t.K.length/\gO t.K:=by rw[<-fL t,TOK]at tok;exact tok
 have al:=nd.K;unfold cN at al;have c2:aO t=1+ba t.K:=by rw[<-fL t];simp only[aO,T.K]
 have db:=bO t.K;have a6:sh t=qQ (.mk t.D t.X t.N t.L (shs (decide (t.D=5\/t.D=8)) t.K)):=by conv=>lhs;rw[<-fL t,sh]
 let W:List (Nat×dF):=[(h.z,.box (aG t)),(h.z+1,zB)]
 have J0:Jb (λ_=>False) W (h.z+2) h ((h.new (.box (aG t))).new zB) .nl []:=Jb.two h _ _ (λ_ q=>q.elim);have hc:aG t=(h_ t):=rfl;rw[aJ t];simp only[go_sem,aB];refine bo (λj fr H=>∃tm p V out,p+j=t.K.length/\fr=F_ 118 tm/\nth tm 1=.P h.z/\nth tm 2=.P (h.z+1)/\nth tm 3=V/\nth tm 4=.I (p:Int)/\Jb (λ_=>False) W (h.z+2) h H V out/\out=(t.K.take p).map sh) t.K.length o_
  ⟨_,0,.nl,[],z_ _,rfl,k_,k_,k_,y_,J0,rfl⟩ ?_
 clear J0;rintro j fr H ⟨tm,p,V,out,hp,rfl,o,F,s,t4,J,rfl⟩;have u:=J.cells (h.z,.box (aG t)) (by simp[W]);have g2:=J.cells (h.z+1,zB) (by simp[W]);simp only at u g2;unfold aG at u;have nx:=J.nx;have C:=J.beq;have⟨_,_⟩:=J.vc;simp only[go_sem,t4,o,u];refine aU (λb0=>?_) (λck=>?_)
 ·have b0:p<t.K.length:=o_;have P:t.K[p]?=some t.K[p]:=a_ b0;have ha:=aR bH P .i64;have c4:=cH (m_ P);have b8:=aP p o_;obtain⟨_,R,e5,rfl,k5⟩:=ih t.K[p] H o_ o_ (dh.1 a4 _ (m_ P));have⟨V',H6,e6,J6,_,k6⟩:=(J.up (k5.p _)).add (sh t.K[p]) (by rw[L_,Y_];omega);simp only[go_sem,s,o,t4,u,ha,e5,e6,b8];exact⟨j-1,o_,_,p+1,V',_,o_,rfl,q_ o,q_ F,k_,k_,J6,by rw[iN P,List.map_append];rfl⟩
 obtain rfl:p=t.K.length:=o_;rw[K_]at J;clear ck;have aj:∀(tm:Tm) (H:AH) (V:AV) (out:List T),nth tm 1=.P h.z->nth tm 2=.P (h.z+1)->nth tm 3=V->Jb (λ_=>False) W (h.z+2) h H V out->sh t=.mk t.D t.X t.N t.L out->R_ K [.code zj] (Fin JG λv h'=>v=enc (sh t)/\HK h h') .normal (F_ 118 tm) H:=by
  intro tm H V out o F s J he;have u:=J.cells (h.z,.box (aG t)) (by simp[W]);have g2:=J.cells (h.z+1,zB) (by simp[W]);simp only at u g2;unfold aG at u;have nx:=J.nx;have bd:lT zT [(0,1,.I t.D),(1,1,.I t.X),(2,1,.str t.N),(3,1,.eL t.L),(4,1,V)]=some (.agg [.I t.D,.I t.X,.str t.N,.eL t.L,V]):=by
   rcases J.own with⟨_,⟨rfl,_⟩|⟨k,g,rfl,_⟩⟩<;>rfl
  have st:=aS g2 (vs:=[.I t.D,.I t.X,.str t.N,.eL t.L,V]) (sz:=5) rfl rfl;have bl:=(Bl.of J.own).kw (h':=H.set (h.z+1) (.box [.I t.D,.I t.X,.str t.N,.eL t.L,V])) λa ha _=>aA o_;have⟨_,ea,na,ka⟩:=Ew bl t.D t.X t.N t.L;have kk:=J.kw.k;simp only[go_sem,zj,o,F,s,u,bd,st];exact cG (.inr rfl) (v:=.agg [.I t.D,.I t.X,.str t.N,.eL t.L,V]) (by simp only[go_sem,F]<;>rfl) ea ⟨by rw[he],⟨by rw[na,aE];exact kk.z,λa ha=>(ka a o_).trans ((aA o_).trans (kk.kw a ha))⟩⟩
 by_cases h5:t.D=5
 ·have d5:decide (t.D=5)=true:=T_ h5;have d8:decide (t.D=8)=false:=d_;rw[P_ o_]at al;have⟨A,B,c⟩:∃A B,t.K=[A,B]:=by
   match hh:t.K,al with
   |[a,b],_=>exact⟨a,b,rfl⟩
  have ar:=dh.1 a4;have tB:=ar B (by rw[c];simp);have⟨L,bg⟩:=Bn B tB;have b3:ba t.K=aO A+(aO B+0):=by rw[c];simp only[ba]
  have⟨b,M⟩:∃b,b=sh B:=⟨_,rfl⟩;rw[<-M]at L bg;have an:t.K.map sh=[sh A,b]:=by rw[c,M];rfl
  rw[an]at J;have a0:sh t=qQ (.mk 5 t.X t.N t.L [fQ,b]):=by rw[a6,h5,c,show decide ((5:Int)=5\/(5:Int)=8)=true from rfl,shs,vD,M];rfl
  obtain⟨_,H1,e1,rfl,k1⟩:=c157 (h:=H);have G:=J.up (k1.p _);have⟨pp,w,ia,m,o2,n2,k2⟩:=tO (a:=0) (x:=enc fQ) G.own (by simp) (bH _) (jo _) (rT _) .i64;have m:cY pp H1 5 (enc (.mk 1 0 (bs []) [] []))=some w:=m;have l1:=k1.z;have J2:Jb (λ_=>False) W (h.z+2) h w V [fQ,b]:=⟨G.hX,G.hL,λp hp=>(k2 _ (G.hL p hp).2).trans (G.cells p hp),o2,⟨by rw[n2];exact G.kw.z,λa ha q=>(k2 a o_).trans (G.kw.kw a ha q)⟩,by have:=G.nx;omega⟩;have⟨p1,a5,D⟩:=(Bl.of J2.own).get (a:=1) (x:=b) rfl;have⟨S,q3,ah,k3,n3,g5⟩:=oN w b;have J3:=J2.up (k3.p _);have i:=λH=>(Bl.of J.own).len H;have⟨a3,N⟩:Nd b.D b.X b.N b.L b.K.length/\gO b.K:=by rw[<-fL b,TOK]at L;exact L
  have I:=a3.K;unfold cN at I;have E:bW V 5 (.I 0)=some pp:=ia;have l:bW V 5 (.I 1)=some p1:=a5;have c5:decide (((([sh A,b]:List T).length:Nat):Int)=2)=true:=rfl;have lz:decide (((2:Nat):Int)=2)=true:=rfl;unfold aG at g5;have O:∀(tm:Tm) (H:AH),nth tm 1=.P h.z->nth tm 2=.P (h.z+1)->nth tm 3=V->Jb (λ_=>False) W (h.z+2) h H V [fQ,b]->(∀f v,b.D=4->b.K=[f,v]->v.D=0->v.X=0->occ f 0=true)->R_ K [.code oJ] (Fin JG λv h'=>v=enc (sh t)/\HK h h') .normal (F_ 118 tm) H:=by
   intro tm H o F s J be;have u:=J.cells (h.z,.box (aG t)) (by simp[W]);simp only at u;unfold aG at u;simp only[go_sem,oJ,o,u,d8];exact aj _ H V [fQ,b] (q_ o) (q_ F) (q_ s) J (by rw[a0,KB be,h5])
  by_cases b4:b.D=4
  ·have ac:decide (b.D=4)=true:=T_ b4;rw[P_ o_]at I;have⟨f,v,d⟩:∃f v,b.K=[f,v]:=by
    match hh:b.K,I with
    |[x,y],_=>exact⟨x,y,rfl⟩
   have bi:TOK f:=dh.1 N f (by rw[d];simp);have cr:TOK v:=dh.1 N v (by rw[d];simp);have cc:aO b=1+(aO f+(aO v+0)):=by rw[<-fL b,d];simp only[aO,ba]
   have cz:b.K[0]?=some f:=by rw[d];rfl
   have co:b.K[1]?=some v:=by rw[d];rfl
   have ax:bW (.eT b.K) 5 (.I 0)=some (.vp (enc f)):=aR (m:=0) bH cz .i64;have av:bW (.eT b.K) 5 (.I 1)=some (.vp (enc v)):=aR (m:=1) bH co .i64;have au:cy (.vp (enc v)) 0 1 false=some (.vp (.I v.D)):=by rw[aJ];rfl
   have ay:cy (.vp (enc v)) 1 1 false=some (.vp (.I v.X)):=by rw[aJ];rfl
   have ap:∀(x:Int) h,cC (.vp (.I x)) h false 1=some (.I x):=λ_ _=>rfl;have X:b.K.length=2:=by rw[d];rfl
   have cf:b=.mk 4 b.X b.N b.L [f,v]:=by rw[<-b4,<-d];exact(fL b).symm
   have vk:v.D=0->v.K=[]:=λq=>by
    have:=jC v cr;rw[<-fL v]at this;exact(this.1 q).2.2
   by_cases v0:v.D=0
   ·have am:decide (v.D=0)=true:=T_ v0;by_cases vi:v.X=0
    ·have aq:decide (v.X=0)=true:=T_ vi;obtain⟨_,H4,e4,rfl,k4⟩:=c1158 (h:=S) f o_ (jC f bi);have l4:=k4.z;have J4:=J3.up (k4.p _);have b5:=k4.up g5;cases ho:occ f 0 with
     |true=>
      rw[ho]at e4;simp only[go_sem,o,u,d5,s,i,lz,e1,E,m,l,D,ah,g5,ac,X,ax,av,au,ay,ap,am,aq,e4];exact O _ H4 (q_ o) (q_ F) (q_ s) J4 λf' v' _ q _ _=>by rw[d]at q;cases q;exact ho
     |false=>
      rw[ho]at e4;have ca:=Eh f 0 ho (jC f bi) (Int.le_refl _);obtain⟨_,R,e5,f',e',rfl,k5,cl⟩:=c73 (h:=H4) (-1) o_ o_ f o_ (jC f bi);obtain⟨rfl,rfl⟩:f'=cZ (-1) f 0/\e'=0:=by
       rcases cl with⟨_,q1,q2⟩|⟨q,_⟩
       ·exact⟨q1,q2⟩
       cases q ca
      have⟨H6,_,cn,k6,_,g6⟩:=oN R (cZ (-1) f 0);have l5:=k5.z;have J6:=(J4.up (k5.p _)).up (k6.p _);have af:=J6.cells (h.z+1,zB) (by simp[W]);simp only at af;have cg:=bz af (cZ (-1) f 0);have kk:=J6.kw.k;unfold aG at g6;simp only[go_sem,o,u,d5,s,i,lz,e1,E,m,l,D,ah,g5,ac,X,ax,av,au,ay,ap,am,aq,e4,b5,e5,cn,g6,F,<-aJ (cZ (-1) f 0),cg];exact nO (cZ (-1) f 0) (by simp only[go_sem,F,aG]<;>rfl) ⟨by rw[a0,Kz cf v0 vi (vk v0) ho],kk.set _ o_⟩
    have aq:decide (v.X=0)=false:=D_ vi;simp only[go_sem,o,u,d5,s,i,lz,e1,E,m,l,D,ah,g5,ac,X,av,au,ay,ap,am,aq];exact O _ S (q_ o) (q_ F) (q_ s) J3 λf' v' _ q _ q2=>by rw[d]at q;cases q;cases vi q2
   have am:decide (v.D=0)=false:=D_ v0;simp only[go_sem,o,u,d5,s,i,lz,e1,E,m,l,D,ah,g5,ac,X,av,au,ap,am];exact O _ S (q_ o) (q_ F) (q_ s) J3 λf' v' _ q q1 _=>by rw[d]at q;cases q;cases v0 q1
  have ac:decide (b.D=4)=false:=D_ b4;simp only[go_sem,o,u,d5,s,i,lz,e1,E,m,l,D,ah,g5,ac];exact O _ S (q_ o) (q_ F) (q_ s) J3 λf v q=>absurd q b4
 have d5:decide (t.D=5)=false:=D_ h5;by_cases h8:t.D=8
 ·have d8:decide (t.D=8)=true:=T_ h8;rw[N_ o_,P_ o_]at al;have⟨Z,A,B,c⟩:∃Z A B,t.K=[Z,A,B]:=by
   match hh:t.K,al with
   |[z,a,b],_=>exact⟨z,a,b,rfl⟩
  have ar:=dh.1 a4;have⟨a7,b9⟩:=Bn A (ar A (by rw[c];simp));have⟨L,bg⟩:=Bn B (ar B (by rw[c];simp));have b3:ba t.K=aO Z+(aO A+(aO B+0)):=by rw[c];simp only[ba]
  have⟨a,a8⟩:∃a,a=sh A:=⟨_,rfl⟩;have⟨b,M⟩:∃b,b=sh B:=⟨_,rfl⟩;rw[<-a8]at a7 b9;rw[<-M]at L bg;have an:t.K.map sh=[sh Z,a,b]:=by rw[c,a8,M];rfl
  rw[an]at J;have a2:sh t=qQ (.mk 8 t.X t.N t.L [fQ,a,b]):=by rw[a6,h8,c,show decide ((8:Int)=5\/(8:Int)=8)=true from rfl,shs,vD,a8,M];rfl
  obtain⟨_,H1,e1,rfl,k1⟩:=c157 (h:=H);have G:=J.up (k1.p _);have⟨pp,w,ia,m,o2,n2,k2⟩:=tO (a:=0) (x:=enc fQ) G.own (by simp) (bH _) (jo _) (rT _) .i64;have m:cY pp H1 5 (enc (.mk 1 0 (bs []) [] []))=some w:=m;have l1:=k1.z;have J2:Jb (λ_=>False) W (h.z+2) h w V [fQ,a,b]:=⟨G.hX,G.hL,λp hp=>(k2 _ (G.hL p hp).2).trans (G.cells p hp),o2,⟨by rw[n2];exact G.kw.z,λa ha q=>(k2 a o_).trans (G.kw.kw a ha q)⟩,by have:=G.nx;omega⟩;have⟨S,q3,k3,_,z8,z9⟩:∃S,S=(w.new zB).new zB/\HK w S/\S.z=w.z+2/\S.get w.z=some zB/\S.get (w.z+1)=some zB:=by
   have Jx:=Jb.two (X:=λ_=>False) w zB zB (λ_ q=>q.elim);exact⟨_,rfl,Jx.kw.k,by simp only[aB],Jx.c0⟩
  have J3:=J2.up (k3.p _);have⟨p1,a5,D⟩:=(Bl.of J3.own).get (a:=1) (x:=a) rfl;have⟨p2,bx,aw⟩:=(Bl.of J3.own).get (a:=2) (x:=b) rfl;have E:bW V 5 (.I 0)=some pp:=ia;have l:bW V 5 (.I 1)=some p1:=a5;have Y:bW V 5 (.I 2)=some p2:=bx;have i:=λH=>(Bl.of J.own).len H;have lz:decide (((3:Nat):Int)=3)=true:=rfl;have ak:=bz z8 a;have⟨H4,q4,k4,_,y8⟩:∃H4:AH,H4=S.set w.z (.box (aG a))/\(∀x,x≠w.z->H4.get x=S.get x)/\H4.z=S.z/\H4.get w.z=some (.box (aG a)):=⟨_,rfl,λx hx=>aA hx,aE _ _ _,aF _ _ _⟩;rw[<-q4]at ak;have ao:=bz ((k4 (w.z+1) o_).trans z9) b;have⟨R,q5,k5,_,y9⟩:∃R:AH,R=H4.set (w.z+1) (.box (aG b))/\(∀x,x≠w.z+1->R.get x=H4.get x)/\R.z=H4.z/\R.get (w.z+1)=some (.box (aG b)):=⟨_,rfl,λx hx=>aA hx,aE _ _ _,aF _ _ _⟩;rw[<-q5]at ao;have ab:=(k5 w.z o_).trans y8;have c1:HK w R:=⟨o_,λx hx=>(k5 x o_).trans ((k4 x o_).trans (k3.kw x hx))⟩;have J5:=J2.up (c1.p _);have⟨cu,bq,U⟩:=(Bl.of (J2.up ((show HK w H4 from⟨o_,λx hx=>(k4 x o_).trans (k3.kw x hx)⟩).p _)).own).get (a:=2) (x:=b) rfl;obtain⟨rfl⟩:cu=p2:=by
   have:=bq.symm.trans bx;injection this
  have⟨ce,bw⟩:Nd a.D a.X a.N a.L a.K.length/\gO a.K:=by rw[<-fL a,TOK]at a7;exact a7
  have⟨a3,N⟩:Nd b.D b.X b.N b.L b.K.length/\gO b.K:=by rw[<-fL b,TOK]at L;exact L
  have bf:=ce.K;have I:=a3.K;unfold cN at bf I;unfold aG at y9 ab;have ag:∀(tm:Tm) (H:AH),nth tm 1=.P h.z->nth tm 2=.P (h.z+1)->nth tm 3=V->Jb (λ_=>False) W (h.z+2) h H V [fQ,a,b]->(∀p q,a.D=9->a.K=[p]->b.D=10->b.K=[q]->p≠q)->R_ K [.code zj] (Fin JG λv h'=>v=enc (sh t)/\HK h h') .normal (F_ 118 tm) H:=λtm H o F s J be=>
   aj _ H V [fQ,a,b] o F s J (by rw[a2,Ky be,h8])
  by_cases a9:a.D=9
  ·have ai:decide (a.D=9)=true:=T_ a9;rw[N_ o_,N_ o_,P_ (.inl a9)]at bf;have⟨p,aa⟩:∃p,a.K=[p]:=by
    match hh:a.K,bf with
    |[x],_=>exact⟨x,rfl⟩
   by_cases ad:b.D=10
   ·have Q:decide (b.D=10)=true:=T_ ad;rw[N_ o_,N_ o_,P_ (.inr ad)]at I;have⟨q,d⟩:∃q,b.K=[q]:=by
     match hh:b.K,I with
     |[x],_=>exact⟨x,rfl⟩
    have cs:TOK p:=dh.1 bw p (by rw[aa];simp);have cx:TOK q:=dh.1 N q (by rw[d];simp);have dc:aO a=1+(aO p+0):=by rw[<-fL a,aa];simp only[aO,ba]
    have cc:aO b=1+(aO q+0):=by rw[<-fL b,d];simp only[aO,ba]
    have cq:a.K[0]?=some p:=by rw[aa];rfl
    have ci:b.K[0]?=some q:=by rw[d];rfl
    have bv:bW (.eT a.K) 5 (.I 0)=some (.vp (enc p)):=aR (m:=0) bH cq .i64;have b2:bW (.eT b.K) 5 (.I 0)=some (.vp (enc q)):=aR (m:=0) bH ci .i64;have az:a.K.length=1:=by rw[aa];rfl
    have a1:b.K.length=1:=by rw[d];rfl
    have b1:decide (((1:Nat):Int)=1)=true:=rfl;have ch:a=.mk 9 a.X a.N a.L [p]:=by rw[<-a9,<-aa];exact(fL a).symm
    have bk:b=.mk 10 b.X b.N b.L [q]:=by rw[<-ad,<-d];exact(fL b).symm
    obtain⟨_,H6,e6,⟨bb,rfl,br⟩,k6⟩:=c11 (aO p) p q R (e_ _) o_ o_ (Bo p cs) (Bo q cx);have e6:=e6;have cb:=k6.up ab;have J6:=J5.up (k6.p _);cases bb with
    |true=>
     obtain rfl:=br.1 rfl;have af:=J6.cells (h.z+1,zB) (by simp[W]);simp only at af;have bm:=bz af p;simp only[go_sem,o,u,d5,oJ,d8,s,i,lz,e1,E,m,<-q3,l,D,Y,aw,U,ak,ao,ab,y9,ai,Q,az,a1,b1,bv,b2,e6,cb,F,bm];exact nO p (by simp only[go_sem,F,aG]<;>rfl) ⟨by rw[a2,Kx ch bk],J6.kw.k.set _ o_⟩
    |false=>
     simp only[go_sem,o,u,d5,oJ,d8,s,i,lz,e1,E,m,<-q3,l,D,Y,aw,U,ak,ao,ab,y9,ai,Q,az,a1,b1,bv,b2,e6];exact ag _ H6 (q_ o) (q_ F) (q_ s) J6 λp' q' _ r1 _ r2=>by rw[aa]at r1;rw[d]at r2;cases r1;cases r2;exactλe=>by have:=br.2 e;cases this
   have Q:decide (b.D=10)=false:=D_ ad;simp only[go_sem,o,u,d5,oJ,d8,s,i,lz,e1,E,m,<-q3,l,D,Y,aw,U,ak,ao,ab,y9,ai,Q];exact ag _ R (q_ o) (q_ F) (q_ s) J5 λp' q' _ _ r _=>absurd r ad
  have ai:decide (a.D=9)=false:=D_ a9;simp only[go_sem,o,u,d5,oJ,d8,s,i,lz,e1,E,m,<-q3,l,D,Y,aw,U,ak,ao,ab,ai];exact ag _ R (q_ o) (q_ F) (q_ s) J5 λp' q' r _ _ _=>absurd r a9
 have d8:decide (t.D=8)=false:=D_ h8;simp only[go_sem,o,u,d5,oJ,d8];refine aj _ H V (t.K.map sh) (q_ o) (q_ F) (q_ s) J ?_;rw[a6,show decide (t.D=5\/t.D=8)=false from d_,vD];exact wJ h5 h8
end
section
variable {K:aN}{h:AH}{w:Nat}
def abU [RunsM K]{b:List DV}(C:Eg b){t:T}{c:Option CT}(tok:TOK t)(hs:aO t<=4096)(x:Cn h w c)(R:w<h.z):
  Rt K (77) [.eD b,enc t,.P w] h λv h'=>∃f p,v=enc f/\HKx w h h'/\Cn h' w p/\Up c p/\TOK f/\aO f<=10000000000/\∀g,p=some g->FmT (Ce b inst) t f:=by
 refine aV afn ?_;have⟨H,y,r,_,z,O⟩:∃H,H=(h.new (.box (aG t))).new zB/\HK h H/\H.z=h.z+2/\H.get h.z=some (.box (aG t))/\H.get (h.z+1)=some zB:=by
  have J:=Jb.two (X:=λ_=>False) h (.box (aG t)) zB g_;exact⟨_,rfl,J.kw.k,by grind [aB],J.c0⟩
 have B:=x.kw (r.kw w R);obtain⟨_,L,s,u,D,rfl,l,e,i,ns⟩:=ab0 C 20000 o_ t c H w tok B o_ (λd q=>by subst q;have:=x.1.n0;omega);have W:=l.z;obtain⟨_,M,E,v,N,rfl,j,A,a,_⟩:=c1119 C 120002000 u D L w i.tok e o_ (λd q=>⟨g_,by subst q;have:=e.1.f0;have:=ns d rfl;omega⟩);have S:=j.z;have X:=i.sz;have a2:=a.sz;have b1:=ED e;have b2:=EE A;have Y:=abt B;have b4:=abu e;obtain⟨_,_,G,rfl,k⟩:=c1118 (h:=M) (aO v) v o_ o_ a.tok;have⟨I,_⟩:=Bn v a.tok;have o:=k.up (j.up (l.up O));have st:=bz o (sh v);unfold aG at y z;rw[aJ t]at s ⊢;simp only[go_sem,aB,<-y,z,s,E,G,st];exact nO (sh v) (by simp only[go_sem,aG]<;>rfl) ⟨_,N,rfl,((((r.x w).trans l).trans j).trans (k.x w)).set _ o_,A.kw ((aA o_).trans (k.kw w o_)),i.up.trans a.up,I,o_,λg q=>by
  have⟨F,Q,_⟩:=a.up g q;have⟨n,hn⟩:=i.ok F Q;have⟨m,hm⟩:=a.ok g q;exact⟨n,m,u,v,hn,hm,rfl⟩⟩
end
section
variable {K:aN}{h:AH}
def c1081 [RunsM K]:∀(n:Nat) (x y:T) (h:AH),aO x<=n->n<=10000000000->aO y<=10000000000->TOK x->TOK y->
  Ret K (81) [enc x,enc y] h λv _=>∃b,v=.bool b/\(b=true<->blw n x y):=by
 intro n;induction n with
 |zero=>intro x y h hs;have:=bI x;omega
 |succ n ih=>
 intro x y h hs hn hy tx Y;refine aV cf1081 ?_;have⟨H,hH,p,_,c,a⟩:=n2 h (.box (aG x)) (.box (aG y));unfold aG at hH c a;rw[aJ x,aJ y];simp only[go_sem,aB];rw[<-hH];clear hH;have ret:∀(tm:Tm) (H:AH) (r:Bool),HK h H->nth tm 4=.bool r->(r=true<->blw (n+1) x y)->Fin r138 (λv h3=>(∃b,v=.bool b/\(b=true<->blw (n+1) x y))/\HK h h3) .ret (F_ 81 tm) H:=λtm H r hk t4 e=>Fr ⟨⟨r,rfl,e⟩,hk⟩;have il:∀l:LL,bW (.ls [cB l]) 2 (.I 0)=some (.vp (cB l)):=λ_=>rfl;have fin:∀(tm:Tm),nth tm 2=.P h.z->nth tm 3=.P (h.z+1)->¬(x.D=1/\(y.D=1\/y.D=2))->¬(x.D=2/\y.D=2)->¬(x.D=6/\y.D=6)->¬(x.D=7/\y.D=7)->
   R_ K [.code s1081_0] (Fin r138 λv h3=>(∃b,v=.bool b/\(b=true<->blw (n+1) x y))/\HK h h3) .normal (F_ 81 tm) H:=λtm t2 t3 q1 X q3 q4=>by
  obtain⟨_,H1,A,⟨b,rfl,Q⟩,k1⟩:=c11 (n+1) x y H hs o_ hy (Bo x tx) (Bo y Y);simp only[go_sem,s1081_0,t2,t3,c,a,<-aJ,A];refine ret _ H1 b (p.trans k1) k_ ?_;unfold blw;rw[N_ q1,N_ X,N_ q3,N_ q4,Q]
 by_cases U:x.D=1
 ·have d:decide (x.D=1)=true:=T_ U;have g:decide (x.D=2)=false:=d_;have f:decide (x.D=6)=false:=d_;have k:decide (x.D=7)=false:=d_;cases A:decide (y.D=1) with
  |true=>
   simp only[go_sem,c,a,d,A];exact ret _ H true p k_ ⟨λ_=>by unfold blw;rw[P_ ⟨U,.inl (O_ A)⟩];trivial,λ_=>rfl⟩
  |false=>
   cases o:decide (y.D=2) with
   |true=>
    simp only[go_sem,c,a,d,A,o];exact ret _ H true p k_ ⟨λ_=>by unfold blw;rw[P_ ⟨U,.inr (O_ o)⟩];trivial,λ_=>rfl⟩
   |false=>
    simp only[go_sem,c,a,d,g,f,k,A,o,s1081_1,s1081_2,s1081_3];have:=U_ A;have:=U_ o;exact fin _ k_ k_ o_ o_ o_ o_
 have d:decide (x.D=1)=false:=D_ U;by_cases V:x.D=2
 ·have g:decide (x.D=2)=true:=T_ V;have f:decide (x.D=6)=false:=d_;have k:decide (x.D=7)=false:=d_;cases o:decide (y.D=2) with
  |true=>
   have X:=O_ o;have⟨la,va⟩:=lev_1 tx V;have⟨lb,vb⟩:=lev_1 Y X;have ab:AV.eL x.L=.ls [cB (lv0 x)]:=by rw[la];rfl
   have aa:AV.eL y.L=.ls [cB (lv0 y)]:=by rw[lb];rfl
   have n1:decide (((1:Nat):Int)=1)=true:=rfl;obtain⟨_,B,I,rfl,m⟩:=c144 (h:=H) va vb (by have:=va.len;omega) (by have:=vb.len;omega);simp only[go_sem,c,a,d,g,o,ab,aa,n1,il,I,s1081_3];exact ret _ B (leqL (lv0 x) (lv0 y)) (p.trans m) k_ (by unfold blw;rw[N_ o_,P_ ⟨V,X⟩])
  |false=>
   have:=U_ o;simp only[go_sem,c,a,d,g,f,k,o,s1081_1,s1081_2,s1081_3];exact fin _ k_ k_ o_ o_ o_ o_
 have g:decide (x.D=2)=false:=D_ V;by_cases S:x.D=6
 ·have f:decide (x.D=6)=true:=T_ S;have k:decide (x.D=7)=false:=d_;cases P:decide (y.D=6) with
  |true=>
   have q6:=O_ P;have⟨E,u,ex,F,t,z1,z2⟩:=kids_2 tx (.inl S);have⟨s,J,C,M,G,z3,z4⟩:=kids_2 Y (.inl q6);have i:bW (.eT x.K) 5 (.I 0)=some (.vp (enc E)):=by rw[ex];exact aR (m:=0) bH rfl .i64
   have D:bW (.eT x.K) 5 (.I 1)=some (.vp (enc u)):=by rw[ex];exact aR (m:=1) bH rfl .i64
   have j:bW (.eT y.K) 5 (.I 0)=some (.vp (enc s)):=by rw[C];exact aR (m:=0) bH rfl .i64
   have L:bW (.eT y.K) 5 (.I 1)=some (.vp (enc J)):=by rw[C];exact aR (m:=1) bH rfl .i64
   have N:blw (n+1) x y<->E=s/\blw n u J:=by
    conv=>lhs;unfold blw
    rw[N_ o_,N_ o_,P_ ⟨S,q6⟩];unfold kd;rw[ex,C];rfl
   obtain⟨_,B,I,⟨ba,rfl,R⟩,m⟩:=c11 (n+1) E s H o_ o_ o_ (Bo _ F) (Bo _ M);cases ba with
   |true=>
    have w:=m.up c;have z:=m.up a;obtain⟨_,H5,e5,⟨Z,rfl,Q⟩,k5⟩:=ih u J B o_ o_ o_ t G;simp only[go_sem,c,a,w,z,d,g,f,P,i,D,j,L,I,e5,s1081_2,s1081_3];exact ret _ H5 Z ((p.trans m).trans k5) k_ (by rw[N,Q];exact⟨λq=>⟨R.1 rfl,q⟩,λq=>q.2⟩)
   |false=>
    simp only[go_sem,c,a,d,g,f,P,i,j,I,s1081_2,s1081_3];exact ret _ B false (p.trans m) k_ ⟨λq=>(by cases q),λq=>absurd (R.2 (N.1 q).1) (by simp)⟩
  |false=>
   have:=U_ P;simp only[go_sem,c,a,d,g,f,k,P,s1081_1,s1081_2,s1081_3];exact fin _ k_ k_ o_ o_ o_ o_
 have f:decide (x.D=6)=false:=D_ S;by_cases W:x.D=7
 ·have k:decide (x.D=7)=true:=T_ W;cases O:decide (y.D=7) with
  |true=>
   have q7:=O_ O;have⟨E,u,ex,F,t,_,_⟩:=kids_2 tx (.inr W);have⟨s,J,C,M,G,_,_⟩:=kids_2 Y (.inr q7);have i:bW (.eT x.K) 5 (.I 0)=some (.vp (enc E)):=by rw[ex];exact aR (m:=0) bH rfl .i64
   have D:bW (.eT x.K) 5 (.I 1)=some (.vp (enc u)):=by rw[ex];exact aR (m:=1) bH rfl .i64
   have j:bW (.eT y.K) 5 (.I 0)=some (.vp (enc s)):=by rw[C];exact aR (m:=0) bH rfl .i64
   have L:bW (.eT y.K) 5 (.I 1)=some (.vp (enc J)):=by rw[C];exact aR (m:=1) bH rfl .i64
   have N:blw (n+1) x y<->blw n E s/\blw n u J:=by
    conv=>lhs;unfold blw
    rw[N_ o_,N_ o_,N_ o_,P_ ⟨W,q7⟩];unfold kd;rw[ex,C];rfl
   obtain⟨_,B,I,⟨ba,rfl,R⟩,m⟩:=ih E s H o_ o_ o_ F M;cases ba with
   |true=>
    have w:=m.up c;have z:=m.up a;obtain⟨_,H5,e5,⟨Z,rfl,Q⟩,k5⟩:=ih u J B o_ o_ o_ t G;simp only[go_sem,c,a,w,z,d,g,f,k,O,i,D,j,L,I,e5,s1081_1,s1081_2,s1081_3];exact ret _ H5 Z ((p.trans m).trans k5) k_ (by rw[N,Q];exact⟨λq=>⟨R.1 rfl,q⟩,λq=>q.2⟩)
   |false=>
    simp only[go_sem,c,a,d,g,f,k,O,i,j,I,s1081_1,s1081_2,s1081_3];exact ret _ B false (p.trans m) k_ ⟨λq=>(by cases q),λq=>absurd (R.2 (N.1 q).1) (by simp)⟩
  |false=>
   have:=U_ O;simp only[go_sem,c,a,d,g,f,k,O,s1081_1,s1081_2,s1081_3];exact fin _ k_ k_ o_ o_ o_ o_
 have k:decide (x.D=7)=false:=D_ W;simp only[go_sem,c,d,g,f,k,s1081_1,s1081_2,s1081_3];exact fin _ k_ k_ o_ o_ o_ o_
end
section
variable {K:aN}{h:AH}{w:Nat}
def c1043 [RunsM K]{d:List DV}(C:Eg d){a b:T}{c:Option CT}(ta:TOK a)(O:TOK b)(V:aO a<=4096)(I:aO b<=4096)(x:Cn h w c)(R:w<h.z):
  Rt K (43) [.eD d,enc a,enc b,.P w] h λv h'=>∃g z,v=.bool g/\HKx w h h'/\Cn h' w z/\∀m,z=some m->∃x y,TOK x/\FmT (Ce d inst) a x/\FmT (Ce d inst) b y/\(g=true<->blw (aO x) x y):=by
 refine aV afN ?_;have⟨H,o,k0,_,s,N⟩:∃H,H=(h.new (.box (aG a))).new (.box (aG b))/\HK h H/\H.z=h.z+2/\H.get h.z=some (.box (aG a))/\H.get (h.z+1)=some (.box (aG b)):=by
  have J:=Jb.two (X:=λ_=>False) h (.box (aG a)) (.box (aG b)) g_;exact⟨_,rfl,J.kw.k,by grind [aB],J.c0⟩
 obtain⟨_,M,r,X,_,rfl,B,P,_,Z,_,_⟩:=abU (h:=H) C ta V (x.kw (k0.kw w R)) o_;have l1:=B.z;have⟨E,_,j,D,_,S⟩:=oN M X;have e:=D.up (B.up N);obtain⟨_,L,n,Y,_,rfl,A,t,u3,G,_,_⟩:=abU (h:=E) C O I (P.kw (D.kw w o_)) o_;have l3:=A.z;have⟨U,_,k,l,_,i⟩:=oN L Y;have f:=l.up (A.up S);have⟨_,_,_,_,u,p⟩:=oA (t.kw (l.kw w o_));unfold ctB at u;unfold aG at o s e f i;rw[aJ a]at r ⊢;rw[aJ b]at n ⊢;rcases p with⟨rfl,rfl⟩|⟨rfl,d3,rfl,_⟩
 ·simp only[go_sem,aB,<-o,s,r,j,e,n,k,u];exact cG g_ (v:=.bool false) (by simp only[go_sem]<;>rfl) (bp _ _) ⟨false,none,rfl,g_,t.kw (l.kw w o_),λm q=>by cases q⟩
 obtain⟨_,_,Q,⟨g,rfl,_⟩,F⟩:=c1081 (aO X) X Y U o_ o_ o_ Z G;simp only[go_sem,aB,<-o,s,r,j,e,n,k,u,f,i,<-aJ X,<-aJ Y,Q];exact cG g_ (v:=.bool g) (by simp only[go_sem]<;>rfl) (bp _ _) ⟨g,_,rfl,g_,t.kw (F.up (l.kw w o_)),λm q=>by
  have⟨_,_,_⟩:=u3 m q;grind⟩
end
def In (a:List NV)(x:Int):Prop:=0<=x/\x<(a.length:Int)
def EqP (C:MK.Cx)(e:List NV)(ts:List T)(a b:Int)(g:Option CT)(v:AV):Prop:=
 (¬(In e a/\In e b)/\v=.tup [.bool false,.I 2])\/
 (∃d c f,At ts a d/\At ts b c/\v=.tup [.bool f,.I 0]/\∀h,g=some h->∃x y,TOK x/\FmT C d x/\FmT C c y/\(f=true<->blw (aO x) x y))
section
variable {K:aN}{h:AH}{w:Nat}
def At.inG {a:List NV}{ts:List T}(g:Wg (Mst a ts)){x:Int}(hx:In a x):∃t,At ts x t:=by
 have b:ts.length=a.length:=g.len;exact⟨ts[x.toNat]'(by have:=hx.1;have:=hx.2;omega),hx.1,g_⟩
def c1018 [RunsM K]{f:List DV}(eg:Eg f){d:List NV}{ts:List T}(g:Wg (Mst d ts))(A:∀nd∈d,nd.K.length<=1000)(a b:Int){c:Option CT}(x:Cn h w c)(hw:w<h.z):
  Rt K (21) [.eD f,pw d,.I a,.I b,.P w] h λv h'=>HKx w h h'/\∃j,Cn h' w j/\EqP (Ce f inst) d ts a b j v:=by
 refine aV af0 ?_;have⟨H,J,Z,_,g0⟩:∃H,H=h.new (.box [.eN d])/\HK h H/\H.z=h.z+1/\H.get h.z=some (.box [.eN d]):=⟨_,rfl,HK.new _ _,aB _ _,aD _ _⟩;have C:=cE (sz:=1) g0 rfl;have l:pw d=.agg [.eN d]:=rfl;have x0:=x.kw (Z.kw w hw);have done:∀(tm:Tm) (I:AH) (j:Option CT) (u:Bool) (e:Int),HKx w h I->Cn I w j->nth tm 10=.bool u->nth tm 11=.I e->EqP (Ce f inst) d ts a b j (.tup [.bool u,.I e])->Fin Wy (λv h'=>HKx w h h'/\∃j,Cn h' w j/\EqP (Ce f inst) d ts a b j v) .ret (F_ 21 tm) I:=λtm I j u e kk xx S Q hp=>
  cO g_ (by simp only[go_sem,S,Q]) (ae (bp _ _) (ae (aL _ _ _) (aH _))) ⟨kk,j,xx,hp⟩
 by_cases M:In d a
 ·have⟨ta,L⟩:=At.inG g M;obtain⟨_,U,n,t1,c1,rfl,G,x1,f1⟩:=ab3 (h:=H) g A L x0 o_;have l1:=G.z;have⟨t,q2,i,B,n2,y⟩:=oN U t1;have x2:Cn t w c1:=x1.kw (B.kw w o_);have Y:=B.up (G.up g0);have p:=cE (sz:=1) Y rfl;have aa:HKx w h t:=g_;rw[l]at n;have d0:decide ((0:Int)=0)=true:=rfl;by_cases O:In d b
  ·have⟨tb,E⟩:=At.inG g O;obtain⟨_,N,r,t3,c3,rfl,F,x3,f3⟩:=ab3 (h:=t) g A E x2 o_;have l3:=F.z;have⟨s,q4,k,D,n4,o⟩:=oN N t3;have W:Cn s w c3:=x3.kw (D.kw w o_);have m:=D.up (F.up y);have X:HKx w h s:=g_;rw[l]at r;have⟨_,_,_,_,P,V⟩:=oA W;unfold ctB at P;unfold aG at m o;rcases V with⟨rfl,rfl⟩|⟨rfl,d3,rfl,_⟩
   ·simp only[go_sem,<-J,C,n,i,p,r,k,P];exact done _ s none false 0 X W k_ k_ (.inr ⟨ta,tb,false,L,E,rfl,λd' q=>by grind⟩)
   obtain⟨q1,rfl,s3⟩:=f3 d3 rfl;obtain⟨_,rfl,s1⟩:=f1 d3 q1;obtain⟨_,H5,e5,u,c5,rfl,_,x5,f5⟩:=c1043 (h:=s) eg (g.tok _ (m_ L.2)) (g.tok _ (m_ E.2)) s1 s3 W (by have:=o_;omega);simp only[go_sem,<-J,C,n,i,p,r,k,P,m,o,<-aJ t1,<-aJ t3,e5];exact done _ H5 c5 u 0 g_ x5 k_ k_ (.inr ⟨_,_,u,L,E,rfl,f5⟩)
  obtain⟨_,N,r,rfl,F⟩:=Vv (h:=t) (w:=w) (gs:=d) (x:=b) (by unfold In at O;omega);have⟨s,_,k,D,_,_⟩:=oN N zero;rw[l]at r;simp only[go_sem,<-J,C,n,i,p,r,k];have R:=F.trans D;exact done _ s c1 false 2 g_ (x2.kw (R.kw w o_)) k_ k_ (.inl ⟨λq=>O q.2,rfl⟩)
 obtain⟨_,U,n,rfl,G⟩:=Vv (h:=H) (w:=w) (gs:=d) (x:=a) (by unfold In at M;omega);have⟨t,_,i,B,_,_⟩:=oN U zero;rw[l]at n;simp only[go_sem,<-J,C,n,i];have z:=(Z.trans G).trans B;exact done _ t c false 2 (z.x w) (x.kw (z.kw w hw)) k_ k_ (.inl ⟨λq=>M q.1,rfl⟩)
end
