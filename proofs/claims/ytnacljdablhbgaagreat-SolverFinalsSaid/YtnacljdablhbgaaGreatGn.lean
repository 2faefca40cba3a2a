/- SolverFinals: filling, by the program (no condition). -/
import Derived.Test.YtnacljdablhbgaaGreatGm
namespace Go.Proofs.YtnacljdablhbgaaGreat
open Go.AG
attribute [local go_sem] dR eZ fW fX fe dU dk cI iI dT cJ di iK cM nZ ju
section
variable {K:aG}{ms:List MV}{a:Ads}{B n M:Nat}{k:List It}{Q:AEx->AF->AH->Prop}
def I154c (ms:List MV)(a:Ads)(b7:Nat)(args:List T)(_above:List Int)(v0:T)(l0:List T)(c0:Option Int)(d:Int)(D:List (Int×T))(O:List (Int×Bool))(work:Nat)(h0:AH)(j:Nat)(fr:AF)(h:AH):Prop:=∃tm V v l c,l.length=j/\fr=⟨tm,⟨[],.no,none,154⟩⟩/\
 wi a (h0.z+1) b7 args true tm/\nth tm 13=V/\oU a b7 (au v) h0 h/\Ro (b7+1) h V l/\FsA ms a D O work h/\cY v l c=cY v0 l0 c0/\Ok PL ms.length v d/\¬lH v/\∀x∈l,Ok PL ms.length x d/\¬lH x
theorem NW (hK:bW K)(kb:KB K)(kf:KF K)(kp:KP K)(ha:a.Ok B)(args:List T)(above:List Int)(h0:AH)(hB:B<=h0.z)(b7:Nat)(v0:T)(l0:List T)(c0:Option Int)(d f:Int)(hd0:0<=d)(hd1:d<=1000)(hM:4110<=M)(hlen:l0.length<=60)(D:List (Int×T))(O:List (Int×Bool))(work:Nat)(hf:(cY v0 l0 c0).2.2=some f)
  (hX:∀tm H V v l c,wi a (h0.z+1) b7 args true tm->nth tm 13=V->oU a b7 (au v) h0 H->Ro (b7+1) H V l->FsA ms a D O work H->cY v0 l0 c0=(v,l,c)->R (cS K (M+2)) 60000 k Q (.exit 4) ⟨tm,⟨[],.no,none,154⟩⟩ H)
  (tm:Tm) (H:AH) (V:AV) (L:wi a (h0.z+1) b7 args true tm) (t13:nth tm 13=V) (J:oU a b7 (au v0) h0 H) (o:Ro (b7+1) H V l0) (fs:FsA ms a D O work H) (ok1:Ok PL ms.length v0 d) (ok2:¬lH v0) (ok3:∀x∈l0,Ok PL ms.length x d/\¬lH x) :
  R (cS K (M+2)) 60000 (.code (.loop AE)::k) Q .normal ⟨tm,⟨[],.no,none,154⟩⟩ H:=by
 refine bD (I154c ms a b7 args above v0 l0 c0 d D O work h0) l0.length (by omega) ⟨tm,V,v0,l0,c0,rfl,rfl,L,t13,J,o,fs,rfl,ok1,ok2,ok3⟩ ?_;clear t13 L J H tm o V fs ok1 ok2 ok3;rintro j fr H ⟨tm,V,v,l,c,hj,rfl,L,t13,J,o,fs,hb,ok1,ok2,ok3⟩;have lt:=ha.lt;have t7:=L.t7;have t9:=L.t9;have g7:=J.g7;have nx:=J.nx;have lo:=J.lo;have kp':=J.kw.z;have hlv:=o.len;unfold au at g7;unfold AE;have stop:∀tm',wi a (h0.z+1) b7 args true tm'->nth tm' 13=V->cY v l c=(v,l,c)->R (cS K (M+2)) 60000 k Q (.exit 4) ⟨tm',⟨[],.no,none,154⟩⟩ H:=fun tm' q1 q2 e=>hX tm' H V v l c q1 q2 J o fs (by rw[<-hb,e])
 cases l with
 |nil=>
  have d1:decide ((0:Int)<((0:Nat):Int))=false:=by simp
  simp only[go_sem,simprocAttr,t9,t13,hlv];exact stop _ ⟨by simp only[go_sem,simprocAttr,L.t1],by simp only[go_sem,simprocAttr,L.t3],by simp only[go_sem,simprocAttr,L.t4],by simp only[go_sem,simprocAttr,L.t6],by simp only[go_sem,simprocAttr,t7],by simp only[go_sem,simprocAttr,L.t8],by simp only[go_sem,simprocAttr,t9]⟩ (by simp only[go_sem,simprocAttr,t13]) (by simp[cY])
 |cons x l=>
  have d1:decide ((0:Int)<((l.length+1:Nat):Int))=true:=HE (by omega);by_cases hk:v.kind=5
  ·have d2:decide (v.kind=5)=true:=HE hk;have hfin:(cY v (x::l) c).2.2=some f:=by rw[hb];exact hf
   have hcn:=ik hfin;obtain⟨aa,b,ekk,oa,ob⟩:=zn ok1 hk;have eb:v.K.getD 1 tZ=b:=by rw[ekk];rfl
   have hbs:cY v (x::l) c=cY (gu b [x]).1 l (eP (gu b [x]).1 (gu b [x]).2 c):=by rw[cY,wae ⟨hk,hcn⟩,eb]
   have hform:eP (gu b [x]).1 (gu b [x]).2 c≠none:=by rw[hbs]at hfin;exact ik hfin
   obtain⟨f',hf'⟩:=waf.1 hform;obtain⟨z0,_,z1⟩:=dn hf';have hsub:=uL z0;rw[hsub]at z1;obtain⟨ox1,ox2⟩:=ok3 x (by simp);obtain⟨kk,g,off,all,fz,rfl,q2,q3,q4,q5⟩:∃(kk g off:Nat) (all:List T) (fz:Nat),V=.row kk g 5 off (l.length+1)/\H.get kk=some (.row g 5 true (flat (all.map enc)) fz)/\all.drop off=x::l/\b7+1<=kk/\kk<H.z:=by
    rcases o with⟨_,q⟩|q
    ·cases q
    ·exact q
   have hsl:=fun h=>sZ (k:=kk) (g:=g) (off:=off) (n:=l.length+1) h (by omega)
   have hsr:=fun h tm=>ud (k:=kk) (g:=g) (off:=off) (n:=l.length+1) h tm (by omega)
   have hcan:=GO (k:=kk) (g:=g) (off:=off) (m:=1) q2 (by rw[q3];simp);rw[q3]at hcan;obtain⟨H1,hH1⟩:∃H1:AH,H1=H.set kk (.row g 5 true (flat (all.map enc)) (max fz ((off+1)*5))):=⟨_,rfl⟩
   rw[<-hH1]at hcan;have k1:∀i,i<b7+1->H1.get i=H.get i:=fun i q=>by subst hH1;exact an (by omega)
   have n1:H1.z=H.z:=by subst hH1;exact co _ _ _
   have r1:H1.get kk=some (.row g 5 true (flat (all.map enc)) (max fz ((off+1)*5))):=by subst hH1;exact aC _ _ _
   clear hH1;have hia:∀h,cz (.ls (v.K.map enc)) h 5 (wt 1)=.val (.vptr (enc b)) h:=fun h=>aN (m:=1) aZ (by rw[ekk];rfl) .i64 h
   have hsb:size b<=2000/\io b<=95:=by
    have h1:=gL ok2;have h2:=ij ok2;obtain⟨k',i',nm',ls',ks'⟩:=v;simp only[T.K]at ekk;subst ekk;simp only[size,aW,io,depths]at h1 h2;omega
   have hvb:Vb 30000 b:=Fe b _ ob (by omega);have hxv:∀y∈([x]:List T),size y<=2000/\Vb 30000 y/\Lq y:=by
    intro y hy;simp at hy;subst hy;have:=ij ox2;exact⟨gL ox2,Fe _ _ ox1 (by omega),⟨_,_,ox1⟩⟩
   have J1:=J.low (by omega) k1;have hrs:=gL z1;have hrd:=ij z1;have e157:cS K (M+2) (.fn 157 [] []) [enc b,.row kk g 5 off 1] .no H=cS K (M+2) (.fn 157 [] []) [enc b,.ls (([x]:List T).map enc)] .no H1:=
    vZ (ae (aP _ _) (ae hcan (aB _))) (ae (aP _ _) (ae (iL _ _) (aB _)))
   obtain⟨_,H2,e2,rfl,k2⟩:=c157 hK kb kf kp M b [x] hxv (by simp) (by omega) hvb ⟨_,_,ob⟩ (by omega) (by omega) (by omega) H1;rw[e2]at e157;have n2:=k2.z;obtain⟨_,H3,e3,rfl,k3⟩:=c156 hK kb kf (gA [x] b 0) (M+1) (by omega) (by omega) (by omega) H2;have n3:=k3.z;have k23:=k2.trans k3;have J3:=J1.up ha hB k23.f;have hs3:=aQ J3.g7 (gA [x] b 0);have r3:(H3.set b7 (.box (au (gA [x] b 0)))).get kk=some (.row g 5 true (flat (all.map enc)) (max fz ((off+1)*5))):=by rw[an (by omega),k23.kw kk (by omega)];exact r1
   have fs3:FsA ms a D O work (H3.set b7 (.box (au (gA [x] b 0)))):=fs.up lt (fun i q=>by rw[an (by omega),k23.kw i (by omega),k1 i (by omega)]);simp only[go_sem,simprocAttr,t7,t9,t13,hlv,d1,d2,g7,hia,hsl,hsr,e157,e3,hs3];refine⟨l.length,by simp at hj;omega,_,.row kk g 5 (off+1) (l.length+1-1),gA [x] b 0,l,eP (gu b [x]).1 (gu b [x]).2 c,rfl,rfl,⟨by simp only[go_sem,simprocAttr,L.t1],by simp only[go_sem,simprocAttr,L.t3],by simp only[go_sem,simprocAttr,L.t4],by simp only[go_sem,simprocAttr,L.t6],by simp only[go_sem,simprocAttr,t7],by simp only[go_sem,simprocAttr,L.t8],by simp only[go_sem,simprocAttr,t9]⟩,by simp only[go_sem,simprocAttr],J3.put _,?_,fs3,?_,?_,z1,fun y hy=>ok3 y (by simp[hy])⟩
   ·exact .inr ⟨kk,g,off+1,all,_,rfl,r3,by rw[<-List.drop_drop,q3];rfl,q4,by rw[co];omega⟩
   ·rw[<-hb,hbs,<-hsub]
   ·have:=qQ [x] hd0 (fun y hy=>by simp at hy;subst hy;exact ox1) b 0 (Int.le_refl 0) (by
     rw[show(0:Int)+(([x]:List T).length:Int)+d=d+1 by simp;omega];exact ob)
    rw[Int.zero_add]at this;exact this
  ·have d2:decide (v.kind=5)=false:=HD hk;simp only[go_sem,simprocAttr,t7,t9,t13,hlv,d1,d2,g7];exact stop _ ⟨by simp only[go_sem,simprocAttr,L.t1],by simp only[go_sem,simprocAttr,L.t3],by simp only[go_sem,simprocAttr,L.t4],by simp only[go_sem,simprocAttr,L.t6],by simp only[go_sem,simprocAttr,t7],by simp only[go_sem,simprocAttr,L.t8],by simp only[go_sem,simprocAttr,t9]⟩ (by simp only[go_sem,simprocAttr,t13]) (by simp[cY,hk])
end
attribute [local go_sem] dR eZ fW fX fe dU dk cI iI dT cJ di iK cM nZ ju
noncomputable def pS (kn:Bool)(v:T)(p:List T×Int×Option Int):T×Int×Option Int:=
 if p.2.1≠0 then (tZ,p.2.1,p.2.2) else match kn with
 |true=>(gB (cY v p.1 p.2.2).1 (cY v p.1 p.2.2).2.1,0,eP (gB (cY v p.1 p.2.2).1 (cY v p.1 p.2.2).2.1) 0 (cY v p.1 p.2.2).2.2)
 |false=>(gB v p.1,0,jf (gB v p.1) p.2.2)
theorem xY {ms:List MV}{n:Nat}{t:T}{above:List Int}{c:Option Int}(hc:c≠none)(hk:cd ms (aD t).1=none):
  ge ms (n+1) t above c=if (cj (fun x c=>ge ms n x above c) (aD t).1.K c).2.1≠0 then (tZ,(cj (fun x c=>ge ms n x above c) (aD t).1.K c).2.1,(cj (fun x c=>ge ms n x above c) (aD t).1.K c).2.2) else
   pS false (.mk (aD t).1.kind (aD t).1.i (aD t).1.name (aD t).1.L (cj (fun x c=>ge ms n x above c) (aD t).1.K c).1) (cj (fun x c=>ge ms n x above c) (aD t).2 (cj (fun x c=>ge ms n x above c) (aD t).1.K c).2.2):=by
 rw[ge,wad hc];simp only[hk];rfl
theorem CM {ms:List MV}{n:Nat}{t v:T}{above:List Int}{c:Option Int}(hc:c≠none)(hk:cd ms (aD t).1=some v):
  ge ms (n+1) t above c=if (aD t).1.i∈above then (tZ,22,c) else if (ge ms n v (above++[(aD t).1.i]) c).2.1≠0 then (tZ,(ge ms n v (above++[(aD t).1.i]) c).2.1,(ge ms n v (above++[(aD t).1.i]) c).2.2) else
   pS true (ge ms n v (above++[(aD t).1.i]) c).1 (cj (fun x c=>ge ms n x above c) (aD t).2 (eP (ge ms n v (above++[(aD t).1.i]) c).1 0 (ge ms n v (above++[(aD t).1.i]) c).2.2)):=by
 rw[ge,wad hc];simp only[hk];rfl
def Zx (b7 Bz:Nat)(cells:List AV)(v:T)(h:AH):Prop:=∃x5,cells=[wt v.kind,wt v.i,.str v.name,.ls (v.L.map aK),x5]/\(x5=.ls (v.K.map enc)∨((∀k g n,x5=.row k g 5 0 n->k<Bz)/\Own (b7+1) 5 true h x5 (v.K.map enc)))
theorem Zx.bx {b7 Bz:Nat}{cells:List AV}{v:T}{h:AH}(z:Zx b7 Bz cells v h):Bx (b7+1) h cells v:=by
 obtain⟨x5,e,q|q⟩:=z
 ·exact⟨x5,e,.inl q⟩
 ·exact⟨x5,e,.inr q.2⟩
theorem Bx.zx {b7 Bz:Nat}{cells:List AV}{v:T}{h:AH}(z:Bx (b7+1) h cells v)(hB:h.z<=Bz):Zx b7 Bz cells v h:=by
 obtain⟨x5,e,q|q⟩:=z
 ·exact⟨x5,e,.inl q⟩
 ·refine⟨x5,e,.inr ⟨?_,q⟩⟩;obtain⟨_,⟨rfl,_⟩|⟨k,g,rfl,_,q2,_⟩⟩:=q
  ·intro k g n e;cases e
  ·intro k' g' n e;injection e with e;omega
theorem XV {base:Nat}{h:AH}{V:AV}{l:List T}(k i:Int)(nm:ByteArray)(ls:List LL)(o:Own base 5 true h V (l.map enc)):
  ∃h',eT (.agg [wt k,wt i,.str nm,.ls (ls.map aK),V]) h=(enc (.mk k i nm ls l),h')/\h'.z=h.z/\∀j,(∀g n,V≠.row j g 5 0 n)->h'.get j=h.get j:=by
 have key:∀x h',fS V h=(x,h')->x.norm=.ls (l.map enc)->eT (.agg [wt k,wt i,.str nm,.ls (ls.map aK),V]) h=(enc (.mk k i nm ls l),h'):=by
  intro x h' e hx;have e2:gH [wt k,wt i,.str nm,.ls (ls.map aK),V] h=([wt k,wt i,.str nm,.ls (ls.map aK),x],h'):=by
   simp only[gH,dM (show(AV.int .i64 k).free=true from rfl),dM (show(AV.int .i64 i).free=true from rfl),dM (show(AV.str nm).free=true from rfl),dM (show(AV.ls (ls.map aK)).free=true by simp only[AV.free];exact cL de ls),e]
  show((AV.agg (gH _ h).1).norm,(gH _ h).2)=_;rw[e2,lB (eC ls) hx]
 rcases own_shut o (fun h=>by cases h) with⟨rfl,e,e2⟩|⟨k',g,e1,e2,e3,e4⟩
 ·rw[List.map_eq_nil_iff]at e;subst e;exact⟨h,key _ _ e2 rfl,rfl,fun _ _=>rfl⟩
 ·exact⟨_,key _ _ e2 (eL l),co _ _ _,fun j hj=>an (fun q=>hj g _ (q▸e1))⟩
theorem Zx.can {b7 Bz:Nat}{cells:List AV}{v:T}{h:AH}(z:Zx b7 Bz cells v h):∃h',eT (.agg cells) h=(enc v,h')/\h'.z=h.z/\∀j,(j<b7+1∨Bz<=j)->h'.get j=h.get j:=by
 obtain⟨x5,rfl,rfl|⟨q1,q2⟩⟩:=z
 ·refine⟨h,?_,rfl,fun _ _=>rfl⟩;rw[show(AV.agg [wt v.kind,wt v.i,.str v.name,.ls (v.L.map aK),.ls (v.K.map enc)])=enc v from(aA v).symm];exact aP v h
 ·obtain⟨h',e,n,k⟩:=XV v.kind v.i v.name v.L q2;rw[Wa]at e;refine⟨h',e,n,fun j hj=>k j (fun g n' q=>?_)⟩;have h1:=q1 _ _ _ q;obtain⟨_,⟨r,_⟩|⟨kk,gg,r,_,_,r4⟩⟩:=q2
  ·rw[r]at q;cases q
  ·rw[r]at q;injection q with q;omega
theorem c154 {K:aG}(hK:bW K)(kb:KB K)(kf:KF K)(kp:KP K){ms:List MV}{a:Ads}{B:Nat}(ha:a.Ok B)(g:wb ms):∀n,MD K ms a B n:=by
 intro n;induction n with
 |zero=>intro M t d above c f h D O work hM hs hd0 hd1 hok hup sd fs hB hbd hf;simp[ge]at hf
 |succ n ih=>
  intro M t d above c f h D O work hM hs hd0 hd1 hok hup sd fs hB hbd hf;obtain⟨m,rfl⟩:∃m,M=m+3:=⟨M-3,by omega⟩
  have lt:=ha.lt;have neW:=ha.neW;have hcn:c≠none:=by intro q;rw[q,mC]at hf;cases hf
  have hsp:=mo _ t (Fv _);obtain⟨okh,oka⟩:=sw _ t d (Fv _) hok;have hr:Rn (cS K) 154:=lW hK;have hargs:∀(i:Nat) x,(aD t).2[i]?=some x->∃d:Int,size x<=60/\0<=d/\d+size x<=1000/\Ok PL ms.length x d/\Up ms above x:=by
   intro i x hx;have h1:=ck hx;have:=cG (aD t).1;exact⟨d,by omega,by omega,by omega,oka x (wS hx),hup.arg (wS hx)⟩
  have la:=bE (aD t).2;have lk:(aD t).1.K.length<=60/\aW (aD t).1.K+1=size (aD t).1:=by
   generalize (aD t).1=z at hsp;obtain⟨k',i',nm',ls',ks'⟩:=z;have:=bE ks';simp only[T.K,size]at hsp ⊢;omega
  obtain⟨bound,hbound⟩:∃b,b=work+phi O 0 ms+size t:=⟨_,rfl⟩
  rw[<-hbound];have key:=hr (m+2) [.ptr a.pW 0 0,.ptr a.pM 0 0,.ptr a.pV 0 0,.ptr a.pF 0 0] _ _ .no h _ _ _ _ (fun o rc h'=>rc=.no/\HFA a h h'/\oJ ms a above bound (ge ms (n+1) t above c) o h') cf154 (ae (aP t _) (aB _)) (by
   have J0:=kS.init t h;obtain⟨H,hH⟩:∃H:AH,H=((h.new (.box (au t))).new (.box [wt 0,wt 0,.str (bs []),.nl,.nl])):=⟨_,rfl⟩
   rw[<-hH]at J0;have b5:=J0.b6;have b6:=J0.b10;have nx:=J0.nx;have k0:=J0.kw;have fs0:FsA ms a D O work H:=fs.up lt (fun k q=>k0.kw k (by omega));have gW:=fs0.gW;obtain⟨H1,hH1⟩:∃H1:AH,H1=H.set a.pW (.box [wt ((work+1:Nat):Int)]):=⟨_,rfl⟩
   have fs1:=FsA.setW ha fs0 (work+1);rw[<-hH1]at fs1;have o1:∀k,k≠a.pW->H1.get k=H.get k:=fun k q=>by subst hH1;exact an q
   have n1:H1.z=H.z:=by subst hH1;exact co _ _ _
   have kk1:HFA a h H1:=by subst hH1;exact k0.f.set _ (.inr (.inl rfl))
   have gW1:=fs1.gW;obtain⟨_,h2,e2,rfl,k2⟩:=c155 hK m t H1 (by omega);have n2:=k2.z;have hst:=aQ (h:=h2.new (.box [wt 0,wt 0,.str (bs []),.nl,.nl])) (k:=h2.z) (aE _ _) (aD t).1;obtain⟨H3,hH3⟩:∃H3:AH,H3=(h2.new (.box [wt 0,wt 0,.str (bs []),.nl,.nl])).set h2.z (.box (au (aD t).1)):=⟨_,rfl⟩
   have k3:HK h2 H3:=by subst hH3;exact HK.new_set _ _ _
   have x3:H3.get h2.z=some (.box (au (aD t).1)):=by subst hH3;exact aC _ _ _
   have n3:H3.z=h2.z+1:=by subst hH3;simp only[co,ci]
   rw[<-hH3]at hst;clear hH3;have k13:=k2.trans k3;have fs3:FsA ms a D O (work+1) H3:=fs1.up lt (fun k q=>k13.kw k (by omega));have J3:oU a h2.z (au (aD t).1) h H3:=⟨(k13.kw _ (by omega)).trans ((o1 _ (by omega)).trans b6),x3,kk1.trans k13.f,by omega,by omega⟩;have b51:=(o1 h.z (by omega)).trans b5;have hw1:=aM work (by omega);have hgt:decide ((8192000:Int)<((work+1:Nat):Int))=false:=HD (by omega);have bad:∀tm H,HFA a h H->(ge ms (n+1) t above c).2.1≠0->XQ (cS K (m+2)) LW (FA fun o rc h'=>rc=.no/\HFA a h h'/\oJ ms a above bound (ge ms (n+1) t above c) o h') (.panic p22) ⟨tm,⟨[],.no,none,154⟩⟩ H:=
    fun tm H q1 q2=>jm ⟨rfl,q1,.inr ⟨q2,rfl⟩⟩
   have fin:∀(tm:Tm) (H6 H7:AH) (V6:AV) (v6:T) (l6:List T) (cells6:List AV) (kn:Bool) (D6:List (Int×T)) (O6:List (Int×Bool)) (work6:Nat) (cc:Option Int),wi a (h.z+1) h2.z (aD t).2 kn tm->nth tm 13=V6->oU a h2.z cells6 h H6->cells6.length=5->iP [.agg cells6,V6] H6=([enc v6,.ls (l6.map enc)],H7)->H7.z=H6.z->(∀k,k<h2.z+1->H7.get k=H6.get k)->l6.length<=60->FsA ms a D6 O6 work6 H6->Sd ms D6 O6 above->work6+phi O6 0 ms<=bound->ge ms (n+1) t above c=(gB v6 l6,0,cc)->¬lH (gB v6 l6)->
     R (cS K (m+2)) 60000 [.code Gk] (XQ (cS K (m+2)) LW (FA fun o rc h'=>rc=.no/\HFA a h h'/\oJ ms a above bound (ge ms (n+1) t above c) o h')) .normal ⟨tm,⟨[],.no,none,154⟩⟩ H6:=by
    intro tm H6 H7 V6 v6 l6 cells6 kn D6 O6 work6 cc L t13 J6 hc5 hcan n7 k7 hl6 fs6 sd6 bd6 hE hnb;have t6:=L.t6;have t7:=L.t7;have nx6:=J6.nx;have kp6:=J6.kw.z
    match cells6,hc5 with
    |[c1,c2,c3,c4,c5],_=>
     have g7:=J6.g7;have e158:cS K (m+2) (.fn 158 [] []) [.agg [c1,c2,c3,c4,c5],V6] .no H6=cS K (m+2) (.fn 158 [] []) [enc v6,.ls (l6.map enc)] .no H7:=vZ hcan (ae (aP _ _) (ae (iL _ _) (aB _)));obtain⟨_,H8,e8,rfl,k8⟩:=c158 hK (m+1) v6 l6 H7 (by omega);rw[e8]at e158;have n8:=k8.z;have hrs:=gL hnb;have hrd:=ij hnb;obtain⟨_,H9,e9,rfl,k9⟩:=c156 hK kb kf (gB v6 l6) (m+1) (by omega) (by omega) (by omega) H8;have n9:=k9.z;have k89:=k8.trans k9;have J9:=(J6.low (by omega) k7).up ha hB k89.f;have hs9:=aQ J9.g6 (gB v6 l6);simp only[go_sem,simprocAttr,Gk,t6,t7,t13,g7,e158,e9,hs9];refine iv (.inr rfl) (vs:=[.agg (au (gB v6 l6))]) (by simp only[go_sem,simprocAttr,LW,t6,au]) ⟨enc (gB v6 l6),_,cC (by intro l e;cases e) (by rw[<-cN];exact aP _ _),rfl,J9.kw.set _ (.inl (by omega)),.inl ?_⟩;rw[hE];exact⟨rfl,rfl,D6,O6,work6,fs6.up lt (fun k q=>by rw[an (by omega),k89.kw k (by omega),k7 k (by omega)]),sd6,bd6⟩
   have tail:∀(kn:Bool) (v:T) (cells:List AV) (tm:Tm) (H4:AH) (D4:List (Int×T)) (O4:List (Int×Bool)) (work4:Nat) (c1:Option Int),wi a (h.z+1) h2.z (aD t).2 kn tm->oU a h2.z cells h H4->Bx (h2.z+1) H4 cells v->(kn=true->cells=au v/\(c1≠none->Ok PL ms.length v d/\¬lH v))->FsA ms a D4 O4 work4 H4->Sd ms D4 O4 above->work4+phi O4 0 ms+aW (aD t).2<=bound->ge ms (n+1) t above c=pS kn v (cj (fun x c=>ge ms n x above c) (aD t).2 c1)->
     R (cS K (m+2)) 60000 [.code zh] (XQ (cS K (m+2)) LW (FA fun o rc h'=>rc=.no/\HFA a h h'/\oJ ms a above bound (ge ms (n+1) t above c) o h')) .normal ⟨tm,⟨[],.no,none,154⟩⟩ H4:=by
    intro kn v cells tm H4 D4 O4 work4 c1 L J bx hkn fs4 sd4 bd4 hE;have t8:=L.t8;have nx4:=J.nx;have kp4:=J.kw.z;have lo4:=J.lo;obtain⟨V,H5,e5,o5,n5,k5,_,v51,v52⟩:=vn (base:=H4.z) (h:=H4) (z:=.agg [wt 0,wt 0,.str (bs []),.nl,.nl]) (sz:=5) (bytes:=80) (aD t).2.length .i64 (Fv _) rfl rfl (by omega) (by decide);have e5:fq H4 true 5 80 [wt 0,wt 0,.str (bs []),.nl,.nl] (wt ((aD t).2.length:Int)) (wt ((aD t).2.length:Int))=some (V,H5):=e5;have J5:=J.low (h':=H5) (by omega) (fun k q=>k5 k (by omega));have fs5:FsA ms a D4 O4 work4 H5:=fs4.up lt (fun k q=>k5 k (by omega));have hsf:∃f2,(cj (fun x c=>ge ms n x above c) (aD t).2 c1).2.2=some f2:=by
     rw[hE]at hf;unfold pS at hf;by_cases he:(cj (fun x c=>ge ms n x above c) (aD t).2 c1).2.1≠0
     ·rw[wae he]at hf;exact⟨f,hf⟩
     ·rw[wad he]at hf;cases kn with
      |true=>exact waf.1 (ik (waf.1 (dn hf).2.1).choose_spec)
      |false=>exact waf.1 (iU hf).1
    obtain⟨f2,hf2⟩:=hsf;have zx5:Zx h2.z H4.z cells v H5:=by
     obtain⟨x5,e,q|⟨q1,q2⟩⟩:=bx.zx (Fv H4.z)
     ·exact⟨x5,e,.inl q⟩
     ·exact⟨x5,e,.inr ⟨q1,bp q2 (by omega) (fun i z1 z2=>k5 i z2)⟩⟩
    simp only[go_sem,simprocAttr,zh,t8,e5,RE];refine NX ha ih (by omega) above c1 f2 (aD t).2 kn h hB h2.z cells bound (by omega) (by omega) (Zx h2.z H4.z cells v) H4.z nx4 ?_ ?_ hargs hf2 ?_ ?_ _ H5 V _ D4 O4 work4 ⟨by simp only[go_sem,simprocAttr,L.t1],by simp only[go_sem,simprocAttr,L.t3],by simp only[go_sem,simprocAttr,L.t4],by simp only[go_sem,simprocAttr,L.t6],by simp only[go_sem,simprocAttr,L.t7],by simp only[go_sem,simprocAttr,t8],by simp only[go_sem,simprocAttr,L.t9]⟩ (by simp only[go_sem,simprocAttr]) (by simp only[go_sem,simprocAttr]) (by simp only[go_sem,simprocAttr]) (by simp only[go_sem,simprocAttr]) J5 o5 zx5 (by omega) (by simp) fs5 sd4 bd4
    ·rintro h1 h1' ⟨x5,e,q|⟨q1,q2⟩⟩ hn1 hk1
     ·exact⟨x5,e,.inl q⟩
     ·exact⟨x5,e,.inr ⟨q1,bp q2 hk1.z (fun i z1 z2=>hk1.kw i z2 (by omega) (by omega) (by omega))⟩⟩
    ·rintro h1 h1' ⟨x5,e,q|⟨q1,q2⟩⟩ hn1 hk1
     ·exact⟨x5,e,.inl q⟩
     ·refine⟨x5,e,.inr ⟨q1,q2.1,?_⟩⟩;rcases q2.2 with z|⟨kk,gg,z1,z2,z3,z4⟩
      ·exact .inl z
      ·exact .inr ⟨kk,gg,z1,(hk1 kk (q1 _ _ _ z1)).trans z2,by omega,z4⟩
    ·intro tm H6 V6 out c2 D6 O6 work6 L t13 J6 o6 z6 hBz fs6 sd6 bd6 hsq;rw[hsq]at hE hf2;have hl:=lZ (F:=fun x c=>ge ms n x above c) (aD t).2 c1 (by rw[hsq]);rw[hsq]at hl;simp only at hl hf2;have t9:=L.t9;cases kn with
     |false=>
      have hE2:ge ms (n+1) t above c=(gB v out,0,jf (gB v out) c2):=by rw[hE];unfold pS;simp
      simp only[go_sem,simprocAttr,Gj];refine bD (fun j fr h'=>j=0/\fr=⟨tm,⟨[],.no,none,154⟩⟩/\h'=H6) 0 (by omega) ⟨rfl,rfl,rfl⟩ ?_;rintro j fr h' ⟨rfl,rfl,rfl⟩;unfold AE;simp only[go_sem,simprocAttr,t9];obtain⟨H7,q1,q2,q3⟩:=z6.can;have o7:Own H4.z 5 true H7 V6 (out.map enc):=bp o6 (by omega) (fun kk z1 z2=>q3 kk (.inr z1));obtain⟨H8,q4,q5,q6⟩:=Is o7;refine fin _ h' H8 V6 v out cells false D6 O6 work6 _ ⟨by simp only[go_sem,simprocAttr,L.t1],by simp only[go_sem,simprocAttr,L.t3],by simp only[go_sem,simprocAttr,L.t4],by simp only[go_sem,simprocAttr,L.t6],by simp only[go_sem,simprocAttr,L.t7],by simp only[go_sem,simprocAttr,L.t8],by simp only[go_sem,simprocAttr,t9]⟩ (by simp only[go_sem,simprocAttr,t13]) J6 ?_ (ae q1 (ae q4 (aB _))) (by omega) (fun k q=>by rw[q6 k (by omega),q3 k (.inl q)]) (by omega) fs6 sd6 bd6 hE2 ?_
      ·obtain⟨x5,e,_⟩:=z6;rw[e];rfl
      ·rw[hE2]at hf;exact(iU hf).2
     |true=>
      have hE2:ge ms (n+1) t above c=(gB (cY v out c2).1 (cY v out c2).2.1,0,eP (gB (cY v out c2).1 (cY v out c2).2.1) 0 (cY v out c2).2.2):=by rw[hE];unfold pS;simp
      obtain⟨hcl,hokv⟩:=hkn rfl;subst hcl;have hc1:c1≠none:=eS (F:=fun x c=>ge ms n x above c) (da ms n above) (aD t).2 c1 f2 (by rw[hsq];exact hf2);obtain⟨okv,nbv⟩:=hokv hc1;have hbf:(cY v out c2).2.2≠none:=by rw[hE2]at hf;exact(dn hf).2.1
      obtain⟨f3,hf3⟩:=waf.1 hbf;simp only[go_sem,simprocAttr,Gj];refine NW hK kb kf kp ha (aD t).2 above h hB h2.z v out c2 d f3 hd0 (by have:=cG t;omega) (by omega) (by omega) D6 O6 work6 hf3 ?_ tm H6 V6 L t13 J6 (Ro.of ⟨o6.1,by
       rcases o6.2 with q|⟨kk,gg,z1,z2,z3,z4⟩
       ·exact .inl q
       ·exact .inr ⟨kk,gg,z1,z2,z3,by omega⟩⟩) fs6 okv nbv ?_
      ·intro tm H7 V7 v7 l7 c7 L t13 J7 o7 fs7 hb;rw[hb]at hE2;simp only[go_sem,simprocAttr];obtain⟨H8,q1,q2,q3⟩:=o7.can;have bsz:=mH out v c2;rw[hb]at bsz;refine fin _ H7 H8 V7 v7 l7 _ true D6 O6 work6 _ L t13 J7 rfl (ae (by rw[<-cN];exact aP _ _) (ae q1 (aB _))) q2 q3 (by simp only at bsz;omega) fs7 sd6 bd6 hE2 ?_;rw[hE2]at hf;exact(dn hf).2.2
      ·intro x hx;obtain⟨b,hb,rfl⟩:=wag.1 hx;obtain⟨t',c',f',y1,y2,y3,y4⟩:=nU (F:=fun x c=>ge ms n x above c) (da ms n above) (aD t).2 c1 f2 (by rw[hsq]) (by rw[hsq];exact hf2) b out[b] (by rw[hsq];exact wO hb);rw[y4];exact⟨rQ ms (fun m hm hk=>(g.val m hm hk).2) n t' above c' f' d hd0 (oka t' (wS y1)) y2 y3,sI ms n t' above c' f' y2 y3⟩
    ·intro tm H6 q1 q2;refine bad tm H6 q1 ?_;rw[hE];unfold pS;rw[wae q2];exact q2
   have unk:cd ms (aD t).1=none->∀tm,wi a (h.z+1) h2.z (aD t).2 false tm->R (cS K (m+2)) 60000 [.code mT] (XQ (cS K (m+2)) LW (FA fun o rc h'=>rc=.no/\HFA a h h'/\oJ ms a above bound (ge ms (n+1) t above c) o h')) .normal ⟨tm,⟨[],.no,none,154⟩⟩ H3:=by
    intro hkn tm L;have hE:=xY (n:=n) (above:=above) hcn hkn;have t7:=L.t7;have t9:=L.t9;have g7:=J3.g7;unfold au at g7;have hkids:∀(i:Nat) x,(aD t).1.K[i]?=some x->∃d:Int,size x<=60/\0<=d/\d+size x<=1000/\Ok PL ms.length x d/\Up ms above x:=by
     intro i x hx;have h1:=ck hx;have hu:=hup.kid hkn (wS hx);generalize (aD t).1=z at *;obtain⟨k',i',nm',ls',ks'⟩:=z;have hb:=fO k' i;unfold Ok at okh;have:=rV okh.2.2.2.2 hx;rw[wac]at this;exact⟨d+aV k' i,by omega,by omega,by omega,this,hu⟩
    simp only[go_sem,simprocAttr,mT,t7,t9,g7];refine bj (fun hpos=>?_) (fun hz=>?_)
    ·have hfk:∃f1,(cj (fun x c=>ge ms n x above c) (aD t).1.K c).2.2=some f1:=by
      by_cases he:(cj (fun x c=>ge ms n x above c) (aD t).1.K c).2.1≠0
      ·rw[hE,wae he]at hf;exact⟨f,hf⟩
      ·rw[hE,wad he]at hf;refine waf.1 ?_;unfold pS at hf;by_cases he2:(cj (fun x c=>ge ms n x above c) (aD t).2 (cj (fun x c=>ge ms n x above c) (aD t).1.K c).2.2).2.1≠0
       ·rw[wae he2]at hf;exact eS (F:=fun x c=>ge ms n x above c) (da ms n above) _ _ f hf
       ·rw[wad he2]at hf;obtain⟨f2,hf2⟩:=waf.1 (iU hf).1;exact eS (F:=fun x c=>ge ms n x above c) (da ms n above) _ _ f2 hf2
     obtain⟨f1,hf1⟩:=hfk;obtain⟨V,H5,e5,o5,n5,k5,_,v51,v52⟩:=vn (base:=h2.z+1) (h:=H3) (z:=.agg [wt 0,wt 0,.str (bs []),.nl,.nl]) (sz:=5) (bytes:=80) (aD t).1.K.length .i64 (by omega) rfl rfl (by omega) (by decide);have e5:fq H3 true 5 80 [wt 0,wt 0,.str (bs []),.nl,.nl] (wt ((aD t).1.K.length:Int)) (wt ((aD t).1.K.length:Int))=some (V,H5):=e5;have J5:=J3.low (h':=H5) (by omega) (fun k q=>k5 k (by omega));have fs5:FsA ms a D O (work+1) H5:=fs3.up lt (fun k q=>k5 k (by omega));have g75:=J5.g7;unfold au at g75;simp only[go_sem,simprocAttr,t7,g7,e5,g75];refine NY ha ih (by omega) (aD t).1.K above c f1 (aD t).2 false h hB h2.z _ (work+1+phi O 0 ms+aW (aD t).1.K) (by omega) (by omega) hkids hf1 ?_ ?_ _ H5 V _ D O (work+1) ⟨by simp only[go_sem,simprocAttr,L.t1],by simp only[go_sem,simprocAttr,L.t3],by simp only[go_sem,simprocAttr,L.t4],by simp only[go_sem,simprocAttr,L.t6],by simp only[go_sem,simprocAttr,t7],by simp only[go_sem,simprocAttr,L.t8],by simp only[go_sem,simprocAttr,t9]⟩ (by simp only[go_sem,simprocAttr]) (by simp only[go_sem,simprocAttr]) (by simp only[go_sem,simprocAttr]) (by simp only[go_sem,simprocAttr]) J5 o5 (by simp) fs5 sd (Fv _)
     ·intro tm H6 V6 out c1 D6 O6 work6 L t10 J6 o6 fs6 sd6 bd6 hsq;rw[hsq]at hE;have t7:=L.t7;have g76:=J6.g7;have nx6:=J6.nx;have lo6:=J6.lo;unfold au at g76;have hV:=wH o6;simp only[go_sem,simprocAttr,t7,t10,g76,hV.2.1,hV.2.2];refine tail false (.mk (aD t).1.kind (aD t).1.i (aD t).1.name (aD t).1.L out) _ _ _ D6 O6 work6 c1 ⟨by simp only[go_sem,simprocAttr,L.t1],by simp only[go_sem,simprocAttr,L.t3],by simp only[go_sem,simprocAttr,L.t4],by simp only[go_sem,simprocAttr,L.t6],by simp only[go_sem,simprocAttr,t7],by simp only[go_sem,simprocAttr,L.t8],by simp only[go_sem,simprocAttr,L.t9]⟩ (J6.put _) (Bx.own _ _ _ _ (bp o6 (by rw[co];exact Fv _) (fun i q _=>an (by omega)))) (fun q=>by cases q) (fs6.up lt (fun k q=>an (by omega))) sd6 (by omega) ?_;rw[hE];simp
     ·intro tm H6 q1 q2;refine bad tm H6 q1 ?_;rw[hE,wae q2];exact q2
    ·have hk0:(aD t).1.K=[]:=by
      cases hkk:(aD t).1.K with
      |nil=>rfl
      |cons a l=>rw[hkk]at hz;exact absurd (show(0:Int)<(((a::l).length:Nat):Int) by simp only[List.length_cons];omega) hz
     simp only[go_sem,simprocAttr];have ev:au (.mk (aD t).1.kind (aD t).1.i (aD t).1.name (aD t).1.L [])=au (aD t).1:=by
      unfold au;rw[hk0];rfl
     refine tail false (.mk (aD t).1.kind (aD t).1.i (aD t).1.name (aD t).1.L []) (au (aD t).1) _ _ D O (work+1) c ⟨by simp only[go_sem,simprocAttr,L.t1],by simp only[go_sem,simprocAttr,L.t3],by simp only[go_sem,simprocAttr,L.t4],by simp only[go_sem,simprocAttr,L.t6],by simp only[go_sem,simprocAttr,t7],by simp only[go_sem,simprocAttr,L.t8],by simp only[go_sem,simprocAttr,t9]⟩ J3 (by rw[<-ev];exact Bx.of _ _ _) (fun q=>by cases q) fs3 sd (by omega) ?_;rw[hE,hk0];simp[cj]
   have kno:∀(i:Nat) mv,(aD t).1.i=(i:Int)->ms[i]?=some mv->mv.known=true->cd ms (aD t).1=some mv.val->∀tm,wi a (h.z+1) h2.z (aD t).2 true tm->R (cS K (m+2)) 60000 [.code mT] (XQ (cS K (m+2)) LW (FA fun o rc h'=>rc=.no/\HFA a h h'/\oJ ms a above bound (ge ms (n+1) t above c) o h')) .normal ⟨tm,⟨[],.no,none,154⟩⟩ H3:=by
    intro i mv hi hmi hmk hkn tm L;have hE:=CM (n:=n) (above:=above) hcn hkn;rw[hi]at hE;have t3:=L.t3;have t7:=L.t7;have t9:=L.t9;have g7:=J3.g7;have gV:H3.get a.pV=some (.box [fvV a]):=fs3.gV;unfold au at g7;have hq:(i:Int) ∉ above->∃f,(ge ms n mv.val (above++[(i:Int)]) c).2.2=some f:=by
     intro hna;rw[wad hna]at hE;by_cases he:(ge ms n mv.val (above++[(i:Int)]) c).2.1≠0
     ·rw[hE,wae he]at hf;exact⟨f,hf⟩
     ·rw[hE,wad he]at hf;refine waf.1 ?_;unfold pS at hf;have hne:(cj (fun x c=>ge ms n x above c) (aD t).2 (eP (ge ms n mv.val (above++[(i:Int)]) c).1 0 (ge ms n mv.val (above++[(i:Int)]) c).2.2)).2.2≠none:=by
       by_cases he2:(cj (fun x c=>ge ms n x above c) (aD t).2 (eP (ge ms n mv.val (above++[(i:Int)]) c).1 0 (ge ms n mv.val (above++[(i:Int)]) c).2.2)).2.1≠0
       ·rw[wae he2]at hf;intro q;simp only at hf;rw[q]at hf;cases hf
       ·rw[wad he2]at hf;exact ik (waf.1 (dn hf).2.1).choose_spec
      obtain⟨f2,hf2⟩:=waf.1 hne;have hss:=eS (F:=fun x c=>ge ms n x above c) (da ms n above) (aD t).2 _ f2 hf2;exact(vD hss).1
    have spos:=cG t;obtain⟨o,H4,e4,k4,ho⟩:=c152 hK ha ih g (m+1) (by omega) t i mv hi hmi hmk hkn above c H3 D O (work+1) hup sd fs3 (by omega) (by omega) hq;have J4:=J3.up ha hB k4;rw[<-hi]at e4;rcases ho with⟨hin,rfl⟩|⟨hna,hfo⟩
    ·simp only[go_sem,simprocAttr,mT,t3,t7,t9,g7,gV,e4];refine bad _ H4 J4.kw ?_;rw[hE,wae hin];show(22:Int)≠0;decide
    ·rw[wad hna]at hE;rcases hfo with⟨hz,rfl,D4,O4,work4,fs4,sd4,bd4⟩|⟨hz,rfl⟩
     ·rw[wad (by simpa using hz)]at hE;have hs4:=aQ J4.g7 (ge ms n mv.val (above++[(i:Int)]) c).1;simp only[go_sem,simprocAttr,mT,t3,t7,t9,g7,gV,e4,hs4];have lo4:=J4.lo;refine tail true (ge ms n mv.val (above++[(i:Int)]) c).1 _ _ _ D4 O4 work4 (eP (ge ms n mv.val (above++[(i:Int)]) c).1 0 (ge ms n mv.val (above++[(i:Int)]) c).2.2) ⟨by simp only[go_sem,simprocAttr,L.t1],by simp only[go_sem,simprocAttr,t3],by simp only[go_sem,simprocAttr,L.t4],by simp only[go_sem,simprocAttr,L.t6],by simp only[go_sem,simprocAttr,t7],by simp only[go_sem,simprocAttr,L.t8],by simp only[go_sem,simprocAttr,t9]⟩ (J4.put _) (Bx.of _ _ _) (fun _=>⟨rfl,fun hc1=>?_⟩) (fs4.up lt (fun k q=>an (by omega))) sd4 (by omega) hE;obtain⟨y1,y2⟩:=vD hc1;obtain⟨f1,hf1⟩:=waf.1 y1;exact⟨rL _ _ _ hd0 (rQ ms (fun m hm hk=>(g.val m hm hk).2) n mv.val _ c f1 0 (Int.le_refl 0) (g.val mv (wS hmi) hmk).2 hz hf1),y2⟩
     ·rw[wae hz]at hE;simp only[go_sem,simprocAttr,mT,t3,t7,t9,g7,gV,e4];refine bad _ H4 J4.kw ?_;rw[hE];exact hz
   have all:∀tm,nth tm 1=.ptr a.pW 0 0->nth tm 2=.ptr a.pM 0 0->nth tm 3=.ptr a.pV 0 0->nth tm 4=.ptr a.pF 0 0->nth tm 6=.ptr (h.z+1) 0 0->nth tm 7=.ptr h2.z 0 0->nth tm 8=.ls ((aD t).2.map enc)->R (cS K (m+2)) 60000 [.code rH] (XQ (cS K (m+2)) LW (FA fun o rc h'=>rc=.no/\HFA a h h'/\oJ ms a above bound (ge ms (n+1) t above c) o h')) .normal ⟨tm,⟨[],.no,none,154⟩⟩ H3:=by
    intro tm t1 t2 t3 t4 t6 t7 t8;have g7:=J3.g7;have gM:=fs3.gM;unfold au at g7;have lms:=TA ms;by_cases hk:(aD t).1.kind=12
    ·have d1:decide ((aD t).1.kind=12)=true:=HE hk;obtain⟨i,hi,hlt⟩:∃i:Nat,(aD t).1.i=(i:Int)/\i<ms.length:=by
      generalize (aD t).1=z at *;obtain⟨k',i',nm',ls',ks'⟩:=z;unfold Ok at okh;have:=okh.2.1 hk;exact⟨i'.toNat,by simp only[T.i];omega,by omega⟩
     have hmi:ms[i]?=some ms[i]:=wO hlt;have d0:decide ((0:Int)<=(aD t).1.i)=true:=HE (by omega);have d2:decide ((aD t).1.i<(ms.length:Int))=true:=HE (by omega);have hia':=fun H=>aN ie hmi .i64 H
     rw[<-hi]at hia';revert hmi hia';generalize ms[i]=mv;intro hmi hia';have hkn0:cd ms (aD t).1=if mv.known=true then some mv.val else none:=by
      unfold cd;rw[wae hk,hi,Int.toNat_natCast,hmi]
     cases hmk:mv.known with
     |false=>
      rw[hmk]at hkn0;simp only[go_sem,simprocAttr,rH,t2,t7,g7,gM,d0,d1,d2,lms,hia',rb,hmk];exact unk (by rw[hkn0];rfl) _ ⟨by simp only[go_sem,simprocAttr,t1],by simp only[go_sem,simprocAttr,t3],by simp only[go_sem,simprocAttr,t4],by simp only[go_sem,simprocAttr,t6],by simp only[go_sem,simprocAttr,t7],by simp only[go_sem,simprocAttr,t8],by simp only[go_sem,simprocAttr]⟩
     |true=>
      rw[hmk]at hkn0;simp only[go_sem,simprocAttr,rH,t2,t7,g7,gM,d0,d1,d2,lms,hia',rb,hmk];exact kno i mv hi hmi hmk (by rw[hkn0];rfl) _ ⟨by simp only[go_sem,simprocAttr,t1],by simp only[go_sem,simprocAttr,t3],by simp only[go_sem,simprocAttr,t4],by simp only[go_sem,simprocAttr,t6],by simp only[go_sem,simprocAttr,t7],by simp only[go_sem,simprocAttr,t8],by simp only[go_sem,simprocAttr]⟩
    ·have d1:decide ((aD t).1.kind=12)=false:=HD hk;have hkn0:cd ms (aD t).1=none:=by unfold cd;rw[wad hk]
     simp only[go_sem,simprocAttr,rH,t7,g7,d1];exact unk hkn0 _ ⟨by simp only[go_sem,simprocAttr,t1],by simp only[go_sem,simprocAttr,t3],by simp only[go_sem,simprocAttr,t4],by simp only[go_sem,simprocAttr,t6],by simp only[go_sem,simprocAttr,t7],by simp only[go_sem,simprocAttr,t8],by simp only[go_sem,simprocAttr]⟩
   unfold au at hH b5 b51;rw[aA t]at e2 ⊢;have gW':=gW;unfold b154;simp only[go_sem,simprocAttr];rw[<-hH];clear hH;simp only[go_sem,simprocAttr,HO,ci,gW,hw1];rw[<-hH1];simp only[go_sem,simprocAttr,hgt,HP,b51,e2,hst];exact all _ (by simp only[go_sem,simprocAttr]) (by simp only[go_sem,simprocAttr]) (by simp only[go_sem,simprocAttr]) (by simp only[go_sem,simprocAttr]) (by simp only[go_sem,simprocAttr]) (by simp only[go_sem,simprocAttr]) (by simp only[go_sem,simprocAttr]))
  obtain⟨o,rc,h',e,rfl,q⟩:=key;exact⟨o,h',e,q⟩
attribute [local go_sem] dR eZ fW fX fe dU dk cI iI dT cJ di iK cM nZ ju
theorem c107 {K:aG}(hK:bW K)(m:Nat)(ms:List MV)(h:AH):
  ∃h' a B,cS K (m+1) (.fn 107 [] []) [.ls (ms.map cD)] .no h=some (.ret (fvF a),.no,h')/\HK h h'/\a.Ok B/\B<=h'.z/\FsA ms a [] [] 0 h'/\h.z<=a.pW/\h.z<=a.kD/\h.z<=a.kO:=by
 have key:∃v h',cS K (m+1) (.fn 107 [] []) [.ls (ms.map cD)] .no h=some (.ret v,.no,h')/\v=fvF ⟨h.z+5,h.z,h.z+7,h.z+6,h.z+3,h.z+4,h.z+1,h.z+2⟩/\HK h h'/\h'.z=h.z+8/\FsA ms ⟨h.z+5,h.z,h.z+7,h.z+6,h.z+3,h.z+4,h.z+1,h.z+2⟩ [] [] 0 h':=by
  refine cm hK cf107 (ae (mj _ _) (aB _)) ?_;simp only[wab];have bl:gU h 1 (.ls (ms.map cD))=.val (.ptr h.z 0 0) (h.new (.box [.ls (ms.map cD)])):=jE rfl;unfold b107;simp only[go_sem,simprocAttr,bl];obtain⟨H1,hH1⟩:∃H1:AH,H1=h.new (.box [.ls (ms.map cD)]):=⟨_,rfl⟩
  rw[<-hH1];have n1:H1.z=h.z+1:=by subst hH1;exact ci _ _
  have k1:HK h H1:=by subst hH1;exact HK.new _ _
  have gM:H1.get h.z=some (.box [.ls (ms.map cD)]):=by subst hH1;exact aE _ _
  clear hH1 bl;obtain⟨H2,hH2⟩:∃H2:AH,H2=((((((H1.new (.map [])).new (.map [])).new (.box [.nilm])).new (.box [.nilm])).set (h.z+3) (.box [.map (h.z+1)])).set (h.z+4) (.box [.map (h.z+2)])):=⟨_,rfl⟩
  have n2:H2.z=h.z+5:=by subst hH2;simp only[co,ci,n1]
  have k2:HK H1 H2:=by subst hH2;exact(((((HK.new _ _).add _).add _).add _).set _ (by omega)).set _ (by omega)
  have gkD:H2.get (h.z+1)=some (.map []):=by
   subst hH2;rw[an (by omega),an (by omega),aJ (by simp only[ci,n1];omega),aJ (by simp only[ci,n1];omega),aJ (by simp only[ci,n1];omega),<-n1,aE]
  have gkO:H2.get (h.z+2)=some (.map []):=by
   subst hH2;have e:h.z+2=(H1.new (.map [])).z:=by rw[ci,n1]
   rw[an (by omega),an (by omega),aJ (by simp only[ci,n1];omega),aJ (by simp only[ci,n1];omega),e,aE]
  have gD:H2.get (h.z+3)=some (.box [.map (h.z+1)]):=by subst hH2;rw[an (by omega),aC]
  have gO:H2.get (h.z+4)=some (.box [.map (h.z+2)]):=by subst hH2;exact aC _ _ _
  have st1:cR (.ptr (h.z+3) 0 0) ((((H1.new (.map [])).new (.map [])).new (.box [.nilm])).new (.box [.nilm])) 1 (.map (h.z+1))=some (((((H1.new (.map [])).new (.map [])).new (.box [.nilm])).new (.box [.nilm])).set (h.z+3) (.box [.map (h.z+1)])):=by
   have e:((((H1.new (.map [])).new (.map [])).new (.box [.nilm])).new (.box [.nilm])).get (h.z+3)=some (.box [.nilm]):=by
    have e3:h.z+3=((H1.new (.map [])).new (.map [])).z:=by simp only[ci,n1]
    rw[aJ (by simp only[ci,n1];omega),e3,aE]
   rw[eF (v:=.map (h.z+1)) _ 0 0 1 rfl rfl,e];rfl
  have st2:cR (.ptr (h.z+4) 0 0) (((((H1.new (.map [])).new (.map [])).new (.box [.nilm])).new (.box [.nilm])).set (h.z+3) (.box [.map (h.z+1)])) 1 (.map (h.z+2))=some H2:=by
   have e:(((((H1.new (.map [])).new (.map [])).new (.box [.nilm])).new (.box [.nilm])).set (h.z+3) (.box [.map (h.z+1)])).get (h.z+4)=some (.box [.nilm]):=by
    have e4:h.z+4=(((H1.new (.map [])).new (.map [])).new (.box [.nilm])).z:=by simp only[ci,n1]
    rw[an (by omega),e4,aE]
   rw[eF (v:=.map (h.z+2)) _ 0 0 1 rfl rfl,e,hH2];rfl
  have p1:(H1.new (.map [])).z=h.z+2:=by rw[ci,n1]
  have p2:((H1.new (.map [])).new (.map [])).z=h.z+3:=by simp only[ci,n1]
  have p3:(((H1.new (.map [])).new (.map [])).new (.box [.nilm])).z=h.z+4:=by simp only[ci,n1]
  simp only[go_sem,simprocAttr,SO,n1,p1,p2,p3,st1,st2];clear hH2 st1 st2 p1 p2 p3;obtain⟨H3,hH3⟩:∃H3:AH,H3=(((((H2.new (.box [wt 0])).set (h.z+5) (.box [wt 0])).new (.box [.nilf])).new (.box [.nilf])).set (h.z+7) (.box [.fn 152 [] [.ptr (h.z+3) 0 0,.ptr (h.z+4) 0 0,.ptr (h.z+6) 0 0,.ptr h.z 0 0]])).set (h.z+6) (.box [.fn 154 [] [.ptr (h.z+5) 0 0,.ptr h.z 0 0,.ptr (h.z+7) 0 0,.ptr (h.z+6) 0 0]]):=⟨_,rfl⟩
  have n3:H3.z=h.z+8:=by subst hH3;simp only[co,ci,n2]
  have k3:HK H2 H3:=by subst hH3;exact((((((HK.new _ _).set _ (by omega)).add _).add _).set _ (by omega)).set _ (by omega))
  have gW:H3.get (h.z+5)=some (.box [wt 0]):=by
   subst hH3;rw[an (by omega),an (by omega),aJ (by simp only[co,ci,n2];omega),aJ (by simp only[co,ci,n2];omega),aC]
  have gF:H3.get (h.z+6)=some (.box [.fn 154 [] [.ptr (h.z+5) 0 0,.ptr h.z 0 0,.ptr (h.z+7) 0 0,.ptr (h.z+6) 0 0]]):=by subst hH3;exact aC _ _ _
  have gV:H3.get (h.z+7)=some (.box [.fn 152 [] [.ptr (h.z+3) 0 0,.ptr (h.z+4) 0 0,.ptr (h.z+6) 0 0,.ptr h.z 0 0]]):=by subst hH3;rw[an (by omega),aC]
  have e5:(H2.new (.box [wt 0])).get (h.z+5)=some (.box [wt 0]):=by rw[<-n2];exact aE _ _
  have q1:(H2.new (.box [wt 0])).z=h.z+6:=by rw[ci,n2]
  have q2:((H2.new (.box [wt 0])).set (h.z+5) (.box [wt 0])).z=h.z+6:=by rw[co,q1]
  have q3:(((H2.new (.box [wt 0])).set (h.z+5) (.box [wt 0])).new (.box [.nilf])).z=h.z+7:=by rw[ci,q2]
  have st7:cR (.ptr (h.z+7) 0 0) ((((H2.new (.box [wt 0])).set (h.z+5) (.box [wt 0])).new (.box [.nilf])).new (.box [.nilf])) 1 (.fn 152 [] [.ptr (h.z+3) 0 0,.ptr (h.z+4) 0 0,.ptr (h.z+6) 0 0,.ptr h.z 0 0])=some (((((H2.new (.box [wt 0])).set (h.z+5) (.box [wt 0])).new (.box [.nilf])).new (.box [.nilf])).set (h.z+7) (.box [.fn 152 [] [.ptr (h.z+3) 0 0,.ptr (h.z+4) 0 0,.ptr (h.z+6) 0 0,.ptr h.z 0 0]])):=by
   rw[eF (v:=.fn 152 [] [.ptr (h.z+3) 0 0,.ptr (h.z+4) 0 0,.ptr (h.z+6) 0 0,.ptr h.z 0 0]) _ 0 0 1 rfl rfl,<-q3,aE];rfl
  have st6:cR (.ptr (h.z+6) 0 0) (((((H2.new (.box [wt 0])).set (h.z+5) (.box [wt 0])).new (.box [.nilf])).new (.box [.nilf])).set (h.z+7) (.box [.fn 152 [] [.ptr (h.z+3) 0 0,.ptr (h.z+4) 0 0,.ptr (h.z+6) 0 0,.ptr h.z 0 0]])) 1 (.fn 154 [] [.ptr (h.z+5) 0 0,.ptr h.z 0 0,.ptr (h.z+7) 0 0,.ptr (h.z+6) 0 0])=some H3:=by
   have e:(((((H2.new (.box [wt 0])).set (h.z+5) (.box [wt 0])).new (.box [.nilf])).new (.box [.nilf])).set (h.z+7) (.box [.fn 152 [] [.ptr (h.z+3) 0 0,.ptr (h.z+4) 0 0,.ptr (h.z+6) 0 0,.ptr h.z 0 0]])).get (h.z+6)=some (.box [.nilf]):=by
    rw[an (by omega),aJ (by rw[q3];omega),<-q2,aE]
   rw[eF (v:=.fn 154 [] [.ptr (h.z+5) 0 0,.ptr h.z 0 0,.ptr (h.z+7) 0 0,.ptr (h.z+6) 0 0]) _ 0 0 1 rfl rfl,e,hH3];rfl
  simp only[go_sem,simprocAttr,SP,n2,e5,SQ,q2,SR,q3,st7,SS,st6,SU,gF];refine⟨rfl,rfl,.inr rfl,[.fn 154 [] [.ptr (h.z+5) 0 0,.ptr h.z 0 0,.ptr (h.z+7) 0 0,.ptr (h.z+6) 0 0]],by simp only[go_sem,simprocAttr,r107],fvF ⟨h.z+5,h.z,h.z+7,h.z+6,h.z+3,h.z+4,h.z+1,h.z+2⟩,H3,cC (by intro l e;cases e) ?_,rfl,(k1.trans k2).trans k3,n3,?_⟩
  ·rw[gP,jD];simp[AV.ip,AV.norm,fvF]
  ·exact⟨gW,((k2.trans k3).kw h.z (by omega)).trans gM,gV,gF,(k3.kw (h.z+3) (by omega)).trans gD,(k3.kw (h.z+4) (by omega)).trans gO,(k3.kw (h.z+1) (by omega)).trans gkD,(k3.kw (h.z+2) (by omega)).trans gkO⟩
 obtain⟨_,h',e,rfl,k,n,fs⟩:=key;exact⟨h',_,h.z+8,e,k,⟨by dsimp only;omega,by dsimp only;omega,by dsimp only;omega,by dsimp only;omega⟩,by omega,fs,by dsimp only;omega,by dsimp only;omega,by dsimp only;omega⟩
theorem XL (ms:List MV)(n:Nat)(t:T)(above:List Int)(c:Option Int)(h:(ge ms n t above c).2.1≠0):(ge ms n t above c).1=tZ:=by
 cases n with
 |zero=>rfl
 |succ n=>
  by_cases hc:c=none
  ·rw[hc,mC]
  ·cases hk:cd ms (aD t).1 with
   |none=>
    rw[xY hc hk]at h ⊢;split at h
    ·rename_i q;rw[wae q]
    ·rename_i q;rw[wad q];unfold pS at h ⊢;split at h
     ·rename_i q2;rw[wae q2]
     ·exact absurd rfl h
   |some v=>
    rw[CM hc hk]at h ⊢;split at h
    ·rename_i q;rw[wae q]
    ·rename_i q;rw[wad q];split at h
     ·rename_i q1;rw[wae q1]
     ·rename_i q1;rw[wad q1];unfold pS at h ⊢;split at h
      ·rename_i q2;rw[wae q2]
      ·exact absurd rfl h
theorem XD (p:aX×DI)(l:List (aX×DI))(tm:Tm):BS (p::l) tm=BS l (fC p.1.dst tm .any):=(rfl)
theorem XC (tm:Tm):BS [] tm=tm:=(rfl)
theorem phi0 (ms:List MV)(hs:∀m∈ms,size m.val<=60):∀j,phi [] j ms<=60*ms.length:=by
 induction ms with
 |nil=>intro j;simp[phi]
 |cons m l ih=>
  intro j;have h1:=hs m (by simp);have h2:=ih (fun m hm=>hs m (by simp[hm])) (j+1);unfold phi;simp only[List.length_cons];split<;>omega
theorem c64 {K:aG}(hK:bW K)(kb:KB K)(kf:KF K)(kp:KP K)(ms:List MV)(g:wb ms)(hsz:∀m∈ms,size m.val<=60)(m:Nat)(hm:7000<=m)(t:T)(d:Int)(f:Int)(h:AH)(hs:size t<=60)(hd0:0<=d)(hd1:d+size t<=1000)(hok:Ok PL ms.length t d)(hf:(FillR ms t (some 0)).2.2=some f):
  ∃v h',cS K (m+1) (.fn 64 [] []) [.ls (ms.map cD),enc t] .no h=some (.ret v,.no,h')/\v=.tup [enc (FillR ms t (some 0)).1,wt (FillR ms t (some 0)).2.1]/\HK h h':=by
 have hup:Up ms [] t:=by intro j hj;simp at hj
 have hsd:Sd ms [] [] []:=⟨fun i v e=>(by cases e),fun i b e=>(by cases e),fun i=>by simp[lkf]⟩;have hff:∃f',(ge ms 600 t [] (some 0)).2.2=some f':=by
  unfold FillR at hf;simp only at hf;split at hf
  ·exact waf.1 (dn hf).2.1
  ·exact⟨f,hf⟩
 obtain⟨f',hf'⟩:=hff;have hp:=phi0 ms hsz 0;have hms:=g.len;have hr:Rn (cS K) 64:=lW hK;have key:=hr m [] _ _ .no h _ _ _ _ (fun o rc h'=>rc=.no/\o=.ret (.tup [enc (FillR ms t (some 0)).1,wt (FillR ms t (some 0)).2.1])/\HK h h') cf64 (ae (mj ms _) (ae (aP t _) (aB _))) (by
  simp only[wab];obtain⟨m,rfl⟩:∃m',m=m'+2:=⟨m-2,by omega⟩
  obtain⟨H,hH⟩:∃H:AH,H=((h.new (.box (au t))).new (.box [wt 0,wt 0,.str (bs []),.nl,.nl])).new (.box [wt 0]):=⟨_,rfl⟩
  have k0:HK h H:=by subst hH;exact((HK.new _ _).add _).add _
  have n0:H.z=h.z+3:=by subst hH;simp only[ci]
  have g3:H.get h.z=some (.box (au t)):=by subst hH;rw[aJ (by simp only[ci];omega),aJ (by simp only[ci];omega),aE]
  have g4:H.get (h.z+1)=some (.box [wt 0,wt 0,.str (bs []),.nl,.nl]):=by
   subst hH;rw[aJ (by simp only[ci];omega),<-ci h (.box (au t)),aE]
  have g5:H.get (h.z+1+1)=some (.box [wt 0]):=by
   subst hH;have:h.z+1+1=((h.new (.box (au t))).new (.box [wt 0,wt 0,.str (bs []),.nl,.nl])).z:=by simp only[ci]
   rw[this,aE]
  obtain⟨H1,a,B,e1,k1,ha,hB,fs,w1,w2,w3⟩:=c107 hK (m+1) ms H;have n1:=k1.z;obtain⟨o,H2,e2,k2,ho⟩:=c154 hK kb kf kp ha g 600 (m+2) t d [] (some 0) f' H1 [] [] 0 (by omega) hs hd0 hd1 hok hup hsd fs hB (by omega) hf';have n2:=k2.z;have f2:∀k,k<H.z->H2.get k=H.get k:=fun k q=>by rw[k2.kw k (by omega) (by omega) (by omega) (by omega),k1.kw k q]
  have g31:=(k1.kw _ (by omega)).trans g3;have g42:=(f2 _ (by omega)).trans g4;have g52:=(f2 _ (by omega)).trans g5;have k02:HK h H2:=⟨by omega,fun k q=>by rw[f2 k (by omega)];exact k0.kw k q⟩;have bqx:AV.beq (.agg [wt t.kind,wt t.i,.str t.name,.ls (t.L.map aK),.ls (t.K.map enc)]) (.agg [wt t.kind,wt t.i,.str t.name,.ls (t.L.map aK),.ls (t.K.map enc)])=true:=by rw[<-aA];exact mW _
  have nne:¬h.z+1+1=h.z+1:=by omega
  have nne2:¬h.z+1=h.z+1+1:=by omega
  unfold au at hH g3 g31;rw[aA t]at e2 ⊢;unfold b64;simp only[go_sem,simprocAttr];rw[<-hH];clear hH;rcases ho with⟨hz,rfl,_⟩|⟨hz,rfl⟩
  ·have hs2:=aQ g42 (ge ms 600 t [] (some 0)).1;simp only[go_sem,simprocAttr,UU,ci,UW,e1,g3,g31,e2,bqx,hs2,g52,nne];refine Hr (.inr rfl) (c105r (lW hK) (m+1) _ _ _) (vs:=[.agg (au (ge ms 600 t [] (some 0)).1),wt 0]) (by simp only[go_sem,simprocAttr,r64,nne2,au]) ⟨_,_,bG (ae (by rw[<-cN];exact aP _ _) (ae (ba _ _ _) (aB _))),rfl,?_,(k02.set _ (by omega)).set _ (by omega)⟩;unfold FillR;simp only;rw[hz]
  ·have h22:=(uA ms 600 t [] (some 0) f' hz hf' hup).1;have hZ:=XL ms 600 t [] (some 0) hz;simp only[go_sem,simprocAttr,UU,ci,UW,e1,g3,g31,e2,bqx];refine Un (c105p (lW hK) (lW hK) m (h.z+1) (h.z+1+1) 22 0 H2 ⟨_,_,_,_,_,g42⟩ g52 (by omega)) (vs:=[.agg [wt 0,wt 0,.str (bs []),.nl,.nl],wt 22]) ?_ ⟨_,_,bG (ae (pU _) (ae (ba _ _ _) (aB _))),rfl,?_,(k02.set _ (by omega)).set _ (by omega)⟩
   ·simp only[go_sem,simprocAttr,r64,XD,XC,nne2]
   ·unfold FillR;simp only;rw[h22,hZ])
 obtain⟨o,rc,h',e,rfl,rfl,k⟩:=key;exact⟨_,h',e,rfl,k⟩
