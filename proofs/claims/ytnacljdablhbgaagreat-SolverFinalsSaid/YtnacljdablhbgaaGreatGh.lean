/- SolverFinals: the scope of levels, and Assign, by the reference (no condition). -/
import Derived.Test.YtnacljdablhbgaaGreatGg
namespace Go.Proofs.YtnacljdablhbgaaGreat
open Go.AG
theorem HB (x:Int):Fx .neg (wt x)=some (wt (IntKind.wrap .i64 (0-x))):=by
 show some (nB .i64 (0-x))=_;rw[gG]
attribute [local go_sem] HB
def PL (l:LL):Prop:=VL l/\l.v.length<=20
def Lq (t:T):Prop:=∃n d,Ok PL n t d
theorem Lq.kid {t x:T}{a:Nat}(h:Lq t)(e:t.K[a]?=some x):Lq x:=by
 obtain⟨n,d,h⟩:=h;obtain⟨k,i,nm,ls,ks⟩:=t;unfold Ok at h;exact⟨n,_,rV h.2.2.2.2 e⟩
theorem Lq.ls {t:T}(h:Lq t):t.L.length<=20/\∀l∈t.L,PL l:=by
 obtain⟨n,d,h⟩:=h;obtain⟨k,i,nm,ls,ks⟩:=t;unfold Ok at h;exact h.2.2.2.1
def scL (n:Int)(l:LL):Bool:=l.v.all fun v=>!decide (v.i < -n)
mutual
def scT (n:Int):T->Bool
 |.mk _ _ _ ls ks=>ls.all (scL n)&&acj n ks
def acj (n:Int):List T->Bool
 |[]=>true
 |t::l=>scT n t&&acj n l
end
theorem Cg (n:Int):∀ks:List T,acj n ks=ks.all (scT n)
 |[]=>rfl
 |t::l=>by rw[acj,Cg n l];rfl
theorem Ac (n:Int)(t:T):scT n t=(t.L.all (scL n)&&t.K.all (scT n)):=by
 cases t;rw[scT,Cg];rfl
theorem vO {α:Type}{f:α->Bool}{l:List α}{a:Nat}{x:α}(h:l[a]?=some x)(h1:(l.take a).all f=true)(h2:f x=true):(l.take (a+1)).all f=true:=by
 rw[List.take_add_one,h,List.all_append,h1];simp[h2]
theorem zV {α:Type}{f:α->Bool}{l:List α}{x:α}(h:x∈l)(h2:f x=false):l.all f=false:=by
 cases ha:l.all f with
 |false=>rfl
 |true=>have:=List.all_eq_true.1 ha x h;rw[h2]at this;cases this
def I62a (t:T)(n:Int)(b:Nat)(H:AH)(j:Nat)(fr:AF)(h:AH):Prop:=∃tm p,p+j=t.L.length/\fr=⟨tm,⟨[],.no,none,62⟩⟩/\h=H/\nth tm 1=wt n/\nth tm 2=.ptr b 0 0/\nth tm 5=wt (p:Int)/\(t.L.take p).all (scL n)=true
def I62b (l:LL)(q:Nat)(n:Int)(b:Nat)(H:AH)(j:Nat)(fr:AF)(h:AH):Prop:=∃tm p,p+j=l.v.length/\fr=⟨tm,⟨[],.no,none,62⟩⟩/\h=H/\nth tm 1=wt n/\nth tm 2=.ptr b 0 0/\nth tm 5=wt (q:Int)/\nth tm 6=wt (p:Int)/\(l.v.take p).all (fun v=>!decide (v.i < -n))=true
def I62c (t:T)(n:Int)(b:Nat)(H:AH)(j:Nat)(fr:AF)(h:AH):Prop:=∃tm p,p+j=t.K.length/\fr=⟨tm,⟨[],.no,none,62⟩⟩/\HK H h/\nth tm 1=wt n/\nth tm 2=.ptr b 0 0/\nth tm 7=wt (p:Int)/\(t.K.take p).all (scT n)=true
theorem c62 {K:aG}(hK:bW K)(n:Int)(hn0:0<=n)(hn1:n<=1000):∀(m:Nat) (t:T) (h:AH),size t+1<=m->size t<=50000->Lq t->
  ∃v h',cS K m (.fn 62 [] []) [enc t,wt n] .no h=some (.ret v,.no,h')/\v=.bool (scT n t)/\HK h h':=by
 intro m;induction m with
 |zero=>intro t h hm;omega
 |succ m ih=>
  intro t h hm h50 hq;refine cm hK cf62 (ae (aP _ _) (ae (ba _ _ _) (aB _))) ?_;simp only[wab];obtain⟨H,hH⟩:∃H:AH,H=h.new (.box (au t)):=⟨_,rfl⟩
  have k0:HK h H:=by subst hH;exact HK.new _ _
  have x0:H.get h.z=some (.box (au t)):=by subst hH;exact aE _ _
  have n0:H.z=h.z+1:=by subst hH;exact ci _ _
  unfold au at hH x0;rw[aA t];unfold b62;simp only[go_sem,simprocAttr];rw[<-hH];clear hH;obtain⟨l1,l2⟩:=hq.ls;have hw0:IntKind.wrap .i64 (0-n)=-n:=by rw[br _ (by omega) (by omega)];omega
  have fin:∀(tm:Tm) (b:Bool) (H2:AH),nth tm 4=.bool b->b=scT n t->HK H H2->IQ r62 (fun v h2=>∃v' h3,gT v h2=(v',h3)/\v'=AV.bool (scT n t)/\HK h h3) .ret ⟨tm,⟨[],.no,none,62⟩⟩ H2:=by
   intro tm b H2 t4 e k;exact⟨rfl,rfl,.inr rfl,[.bool b],by simp only[go_sem,simprocAttr,r62,t4],.bool b,H2,rfl,by rw[e],k0.trans k⟩
  simp only[go_sem,simprocAttr,aao];refine bD (I62a t n h.z H) t.L.length (by omega) ⟨_,0,wac _,rfl,rfl,by simp only[go_sem,simprocAttr],by simp only[go_sem,simprocAttr],by simp only[go_sem,simprocAttr],rfl⟩ ?_;rintro j fr H2 ⟨tm,p,hp,rfl,rfl,t1,t2,t5,hA⟩;unfold abR;simp only[go_sem,simprocAttr,t2,t5,x0];refine bj (fun hlt=>?_) (fun hge=>?_)
  ·have hlt:p<t.L.length:=by omega
   obtain⟨l,hl⟩:∃l,t.L[p]?=some l:=⟨_,wO hlt⟩
   have ia:=fun h=>aN dj hl .i64 h
   have ell:aK l=.agg [wt l.c,.ls (l.v.map encV)]:=rfl;rw[ell]at ia;have hw2:=aM p (by omega);have hvl:=(l2 l (wS hl)).2;simp only[go_sem,simprocAttr,aar];refine bD (I62b l p n h.z H2) l.v.length (by omega) ⟨_,0,wac _,rfl,rfl,by simp only[go_sem,simprocAttr,t1],by simp only[go_sem,simprocAttr,t2],by simp only[go_sem,simprocAttr,t5],by simp only[go_sem,simprocAttr],rfl⟩ ?_;clear t1 t2 t5 tm;rintro jj fr H3 ⟨tm,q,hq',rfl,rfl,t1,t2,t5,t6,hB⟩;unfold abS;simp only[go_sem,simprocAttr,t2,t5,t6,x0,ia];refine bj (fun hlt=>?_) (fun hge=>?_)
   ·have hlt:q<l.v.length:=by omega
    obtain⟨x,hx⟩:∃x,l.v[q]?=some x:=⟨_,wO hlt⟩
    have ib:=fun h=>aN ct hx .i64 h
    have exx:encV x=.agg [wt x.i,wt x.p]:=rfl;rw[exx]at ib;have hw3:=aM q (by omega);simp only[go_sem,simprocAttr,aas,t1,t2,t5,t6,x0,ia,ib,hw0];refine bj (fun hb=>?_) (fun hb=>?_)
    ·simp only[go_sem,simprocAttr];refine fin _ false H3 (by simp only[go_sem,simprocAttr]) ?_ (HK.refl _);rw[Ac,zV (wS hl) (zV (wS hx) (by simpa using hb))];rfl
    ·simp only[go_sem,simprocAttr,t6,hw3];exact⟨jj-1,by omega,_,q+1,by omega,rfl,rfl,by simp only[go_sem,simprocAttr,t1],by simp only[go_sem,simprocAttr,t2],by simp only[go_sem,simprocAttr,t5],by simp only[go_sem,simprocAttr],vO hx hB (by simpa using hb)⟩
   ·have:q=l.v.length:=by omega
    subst this;rw[List.take_length]at hB;simp only[go_sem,simprocAttr,t5,hw2];exact⟨j-1,by omega,_,p+1,by omega,rfl,rfl,by simp only[go_sem,simprocAttr,t1],by simp only[go_sem,simprocAttr,t2],by simp only[go_sem,simprocAttr],vO hl hA hB⟩
  ·have:p=t.L.length:=by omega
   subst this;rw[List.take_length]at hA;have hkl:t.K.length<=size t:=by
    have:=bE t.K;cases t;simp only[T.K,size]at *;omega
   simp only[go_sem,simprocAttr,aap];refine bD (I62c t n h.z H2) t.K.length (by omega) ⟨_,0,wac _,rfl,HK.refl _,by simp only[go_sem,simprocAttr,t1],by simp only[go_sem,simprocAttr,t2],by simp only[go_sem,simprocAttr],rfl⟩ ?_;clear t1 t2 t5 tm;rintro jj fr H3 ⟨tm,q,hq',rfl,k3,t1,t2,t7,hB⟩;have x3:=(k3.kw h.z (by omega)).trans x0;unfold abQ;simp only[go_sem,simprocAttr,t2,t7,x3];refine bj (fun hlt=>?_) (fun hge=>?_)
   ·have hlt:q<t.K.length:=by omega
    obtain⟨x,hx⟩:∃x,t.K[q]?=some x:=⟨_,wO hlt⟩
    have ia:=fun h=>aN aZ hx .i64 h
    have hsx:size x<size t:=by
     have:=ck hx;cases t;simp only[T.K,size]at *;omega
    obtain⟨_,H4,e4,rfl,k4⟩:=ih x H3 (by omega) (by omega) (hq.kid hx);have hw3:=aM q (by omega);cases hs:scT n x with
    |true=>
     rw[hs]at e4;simp only[go_sem,simprocAttr,UX,t1,t2,t7,x3,ia,e4,hw3];exact⟨jj-1,by omega,_,q+1,by omega,rfl,k3.trans k4,by simp only[go_sem,simprocAttr,t1],by simp only[go_sem,simprocAttr,t2],by simp only[go_sem,simprocAttr],vO hx hB hs⟩
    |false=>
     rw[hs]at e4;simp only[go_sem,simprocAttr,UX,t1,t2,t7,x3,ia,e4];refine fin _ false H4 (by simp only[go_sem,simprocAttr]) ?_ (k3.trans k4);rw[Ac,zV (wS hx) hs,Bool.and_false]
   ·have:q=t.K.length:=by omega
    subst this;rw[List.take_length]at hB;simp only[go_sem,simprocAttr,aaq];refine fin _ true H3 (by simp only[go_sem,simprocAttr]) ?_ k3;rw[Ac,hA,hB];rfl
attribute [local go_sem] HB
mutual
def pP (vals:List LL):T->T
 |.mk k i nm ls ks=>.mk k i nm (ls.map fun l=>(dX l vals).1) (yx vals ks)
def yx (vals:List LL):List T->List T
 |[]=>[]
 |t::l=>pP vals t::yx vals l
end
def erL (vals:List LL)(l:LL):Bool:=decide ((dX l vals).2≠0)
mutual
def wX (vals:List LL):T->Bool
 |.mk _ _ _ ls ks=>ls.any (erL vals)||tB vals ks
def tB (vals:List LL):List T->Bool
 |[]=>false
 |t::l=>wX vals t||tB vals l
end
theorem sQ (vals:List LL):∀ks:List T,yx vals ks=ks.map (pP vals)
 |[]=>rfl
 |t::l=>by rw[yx,sQ vals l];rfl
theorem yh (vals:List LL):∀ks:List T,tB vals ks=ks.any (wX vals)
 |[]=>rfl
 |t::l=>by rw[tB,yh vals l];rfl
theorem YD (vals:List LL)(t:T):pP vals t=.mk t.kind t.i t.name (t.L.map fun l=>(dX l vals).1) (t.K.map (pP vals)):=by
 cases t;rw[pP,sQ];rfl
theorem YE (vals:List LL)(t:T):wX vals t=(t.L.any (erL vals)||t.K.any (wX vals)):=by
 cases t;rw[wX,yh];rfl
theorem iY {α:Type}{f:α->Bool}{l:List α}{a:Nat}{x:α}(h:l[a]?=some x):(l.take (a+1)).any f=((l.take a).any f||f x):=by
 rw[List.take_add_one,h,List.any_append];simp
theorem mA {α β:Type}{f:α->β}{l:List α}{a:Nat}{x:α}(h:l[a]?=some x):(l.take (a+1)).map f=(l.take a).map f++[f x]:=by
 rw[List.take_add_one,h];simp
def ce (e:Int)(b:Bool):Int:=if e=0 then (if b then 15 else 0) else e
theorem ce_f (e:Int):ce e false=e:=by unfold ce;split<;>simp_all
theorem VR (e:Int)(a b:Bool):ce (ce e a) b=ce e (a||b):=by
 unfold ce;cases a<;>cases b<;>by_cases he:e=0<;>simp[he]
structure KL (K:aG)(vals:List LL):Prop where
 r142:∀l,PL l->∀h,K (.fn 142 [] []) [aK l,.ls (vals.map aK)] .no h=some (.ret (.tup [aK (dX l vals).1,wt (dX l vals).2]),.no,h)
 r115:∀l,PL l->∀h,K (.fn 115 [] []) [aK l,.ls (vals.map aK)] .no h=some (.ret (.tup [aK (dX l vals).1,wt (dX l vals).2]),.no,h)
 r151:∀l,PL l->∃(x:LL) (e:Int),∀h,K (.fn 151 [] []) [aK l,.ls (vals.map aK)] .no h=some (.ret (.tup [aK x,wt e]),.no,h)
theorem AA (x:LL)(e:Int)(h:AH):gT (.tup [aK x,wt e]) h=(.tup [aK x,wt e],h):=bG (ae (tA _ _) (ae (ba _ _ _) (aB _)))
section
variable {K:aG}{vals:List LL}
theorem KL.c142 (kl:KL K vals)(m:Nat)(l:LL)(hl:PL l)(h:AH):cS K m (.fn 142 [] []) [aK l,.ls (vals.map aK)] .no h=some (.ret (.tup [aK (dX l vals).1,wt (dX l vals).2]),.no,h):=
 dP (ae (tA _ _) (ae (kG _ _) (aB _))) (kl.r142 l hl h) (AA _ _ _) m
theorem KL.c115 (kl:KL K vals)(m:Nat)(l:LL)(hl:PL l)(h:AH):cS K m (.fn 115 [] []) [aK l,.ls (vals.map aK)] .no h=some (.ret (.tup [aK (dX l vals).1,wt (dX l vals).2]),.no,h):=
 dP (ae (tA _ _) (ae (kG _ _) (aB _))) (kl.r115 l hl h) (AA _ _ _) m
theorem KL.c151 (kl:KL K vals)(m:Nat)(l:LL)(hl:PL l):∃(x:LL) (e:Int),∀h,cS K m (.fn 151 [] []) [aK l,.ls (vals.map aK)] .no h=some (.ret (.tup [aK x,wt e]),.no,h):=by
 obtain⟨x,e,q⟩:=kl.r151 l hl;exact⟨x,e,fun h=>dP (ae (tA _ _) (ae (kG _ _) (aB _))) (q h) (AA _ _ _) m⟩
theorem c130 (hK:bW K)(m w:Nat)(e0 e n:Int)(h:AH)(g:h.get w=some (.box [wt e0,wt n])):
  ∃v h',cS K (m+1) (.fn 130 [] []) [.ptr w 0 0,wt e] .no h=some (.ret v,.no,h')/\v=.tup []/\HKx w h h'/\h'.get w=some (.box [wt (if e0=0 then e else e0),wt n]):=by
 refine cm hK cf130 (ae (dh _ _ _ _) (ae (ba _ _ _) (aB _))) ?_;simp only[wab];unfold b130;by_cases he:e0=0
 ·have he':decide (e0=0)=true:=HE he;simp only[go_sem,simprocAttr,g,he'];refine⟨rfl,rfl,.inl rfl,[],rfl,.tup [],_,bG (aB _),rfl,⟨by rw[co];exact Fv _,fun a _ q=>an q⟩,by rw[aC,wae he]⟩
 ·have he':decide (e0=0)=false:=HD he;simp only[go_sem,simprocAttr,g,he'];exact⟨rfl,rfl,.inl rfl,[],rfl,.tup [],_,bG (aB _),rfl,(HK.refl _).x w,by rw[g,wad he]⟩
end
theorem IP {B1 B2:Nat}{h:AH}{V4 V5:AV}{ls:List LL}{l:List T}(k i:Int)(nm:ByteArray)(o4:Own B1 2 true h V4 (ls.map aK))(hr:∀a g n,V4=.row a g 2 0 n->a<B2)(o:Own B2 5 true h V5 (l.map enc))(hB:B1<=B2):
  ∃h',eT (.agg [wt k,wt i,.str nm,V4,V5]) h=(enc (.mk k i nm ls l),h')/\h'.z=h.z/\∀j,j<B1->h'.get j=h.get j:=by
 have key:∀x h1 y h2,fS V4 h=(x,h1)->fS V5 h1=(y,h2)->x.norm=.ls (ls.map aK)->y.norm=.ls (l.map enc)->eT (.agg [wt k,wt i,.str nm,V4,V5]) h=(enc (.mk k i nm ls l),h2):=by
  intro x h1 y h2 e1 e2 hx hy;have e3:gH [wt k,wt i,.str nm,V4,V5] h=([wt k,wt i,.str nm,x,y],h2):=by
   simp only[gH,dM (show(AV.int .i64 k).free=true from rfl),dM (show(AV.int .i64 i).free=true from rfl),dM (show(AV.str nm).free=true from rfl),e1,e2]
  show((AV.agg (gH _ h).1).norm,(gH _ h).2)=_;rw[e3,lB hx hy]
 have fin5:∀h1,Own B2 5 true h1 V5 (l.map enc)->∃y h2,fS V5 h1=(y,h2)/\y.norm=.ls (l.map enc)/\h2.z=h1.z/\∀j,j<B2->h2.get j=h1.get j:=by
  intro h1 o;rcases own_shut o (fun h=>by cases h) with⟨rfl,e,e2⟩|⟨k',g,e1,e2,e3,e4⟩
  ·rw[List.map_eq_nil_iff]at e;subst e;exact⟨_,_,e2,rfl,rfl,fun _ _=>rfl⟩
  ·exact⟨_,_,e2,eL l,co _ _ _,fun j hj=>an (by omega)⟩
 rcases own_shut o4 (fun h=>by cases h) with⟨rfl,e,e2⟩|⟨k',g,e1,e2,e3,e4⟩
 ·rw[List.map_eq_nil_iff]at e;subst e;obtain⟨y,h2,q1,q2,q3,q4⟩:=fin5 h o;exact⟨h2,key _ _ _ _ e2 q1 rfl q2,q3,fun j hj=>q4 j (by omega)⟩
 ·have hk:=hr _ _ _ e1;obtain⟨y,h2,q1,q2,q3,q4⟩:=fin5 _ (bp (h':=h.set k' (.row g 2 true (flat (ls.map aK)) ((ls.map aK).length*2))) o (by rw[co];exact Fv _) (fun a q _=>an (by omega)));refine⟨h2,key _ _ _ _ e2 q1 (eC ls) q2,by rw[q3,co],fun j hj=>by rw[q4 j (by omega),an (by omega)]⟩
structure afa (w:Nat)(vals:List LL)(b5 b8:Nat)(tm:Tm):Prop where
 t0:nth tm 0=.ptr w 0 0
 t2:nth tm 2=.ls (vals.map aK)
 t3:nth tm 3=.bool true
 t5:nth tm 5=.ptr b5 0 0
 t8:nth tm 8=.ptr b8 0 0
structure tY (w:Nat)(e:Int)(cells:List AV)(h0 h:AH):Prop where
 g5:h.get h0.z=some (.box cells)
 g8:h.get (h0.z+1)=some (.box [wt 0,wt 0,.str (bs []),.nl,.nl])
 gw:h.get w=some (.box [wt e,wt 0])
 kw:HKx w h0 h
 nx:h0.z+2<=h.z
 wl:w<h0.z
section
variable {w:Nat}{e e':Int}{cells:List AV}{h0 h h':AH}
theorem tY.up (J:tY w e cells h0 h)(k:HKx w h h')(g:h'.get w=some (.box [wt e',wt 0])):tY w e' cells h0 h':=by
 have:=J.nx;have:=J.wl;exact⟨(k.kw _ (by omega) (by omega)).trans J.g5,(k.kw _ (by omega) (by omega)).trans J.g8,g,J.kw.trans k,Nat.le_trans J.nx k.z,J.wl⟩
theorem tY.up' (J:tY w e cells h0 h)(k:HK h h'):tY w e cells h0 h':=by
 have:=J.nx;have:=J.wl;exact J.up (k.x w) ((k.kw w (by omega)).trans J.gw)
theorem tY.low (J:tY w e cells h0 h)(hn:h.z<=h'.z)(hk:∀k,k<h0.z+2->h'.get k=h.get k):tY w e cells h0 h':=by
 have:=J.nx;have:=J.wl;exact⟨(hk _ (by omega)).trans J.g5,(hk _ (by omega)).trans J.g8,(hk _ (by omega)).trans J.gw,⟨Nat.le_trans J.kw.z hn,fun k q1 q2=>(hk k (by omega)).trans (J.kw.kw k q1 q2)⟩,Nat.le_trans J.nx hn,J.wl⟩
theorem tY.put (J:tY w e cells h0 h)(cells':List AV):tY w e cells' h0 (h.set h0.z (.box cells')):=by
 have:=J.nx;have:=J.wl;exact⟨aC _ _ _,(an (by omega)).trans J.g8,(an (by omega)).trans J.gw,J.kw.set _ (.inl (Fv _)),by rw[co];exact J.nx,J.wl⟩
end
def ach (t:T)(w:Nat)(vals:List LL)(e0:Int)(h0:AH)(j:Nat)(fr:AF)(h:AH):Prop:=∃tm p V,p+j=t.L.length/\fr=⟨tm,⟨[],.no,none,104⟩⟩/\afa w vals h0.z (h0.z+1) tm/\nth tm 9=V/\nth tm 10=wt (p:Int)/\
 tY w (ce e0 ((t.L.take p).any (erL vals))) (au t) h0 h/\Own (h0.z+2) 2 true h V (((t.L.take p).map fun l=>(dX l vals).1).map aK)
def I104b (t:T)(w:Nat)(vals:List LL)(e1:Int)(V9:AV)(ls:List LL)(B:Nat)(h0:AH)(j:Nat)(fr:AF)(h:AH):Prop:=∃tm p V,p+j=t.K.length/\fr=⟨tm,⟨[],.no,none,104⟩⟩/\afa w vals h0.z (h0.z+1) tm/\nth tm 13=V/\nth tm 14=wt (p:Int)/\
 tY w (ce e1 ((t.K.take p).any (wX vals))) [wt t.kind,wt t.i,.str t.name,V9,.ls (t.K.map enc)] h0 h/\B<=h.z/\Own (h0.z+2) 2 true h V9 (ls.map aK)/\Own B 5 true h V (((t.K.take p).map (pP vals)).map enc)
theorem c104 {K:aG}(hK:bW K){vals:List LL}(kl:KL K vals)(w:Nat):∀(m:Nat) (t:T) (h:AH) (e0:Int),size t+2<=m->size t<=50000->Lq t->h.get w=some (.box [wt e0,wt 0])->w<h.z->
  ∃v h',cS K m (.fn 104 [] []) [.ptr w 0 0,enc t,.ls (vals.map aK),.bool true] .no h=some (.ret v,.no,h')/\v=enc (pP vals t)/\HKx w h h'/\h'.get w=some (.box [wt (ce e0 (wX vals t)),wt 0]):=by
 intro m;induction m with
 |zero=>intro t h e0 hm;omega
 |succ m ih=>
  intro t h e0 hm h50 hq gw hw;refine cm hK cf104 (ae (dh _ _ _ _) (ae (aP _ _) (ae (kG _ _) (ae (jd _ _) (aB _))))) ?_;simp only[wab];have J0:=kS.init t h;have hkl:t.K.length<=size t/\1<=size t:=by
   have:=bE t.K;cases t;simp only[T.K,size]at *;omega
  obtain⟨m,rfl⟩:∃m',m=m'+1:=⟨m-1,by omega⟩
  obtain⟨l1,l2⟩:=hq.ls;rw[aA t];unfold b104;unfold au at J0;simp only[go_sem,simprocAttr];revert J0;generalize ((h.new (.box [wt t.kind,wt t.i,.str t.name,.ls (t.L.map aK),.ls (t.K.map enc)])).new (.box [wt 0,wt 0,.str (bs []),.nl,.nl]))=H;intro J0;have J:tY w e0 (au t) h H:=⟨J0.b6,J0.b10,(J0.kw.kw w hw).trans gw,J0.kw.x w,J0.nx,hw⟩;clear J0 gw;simp only[go_sem,simprocAttr,ci,HS,HT];refine bD (ach t w vals e0 h) t.L.length (by omega) ⟨_,0,.nl,wac _,rfl,⟨by simp only[go_sem,simprocAttr],by simp only[go_sem,simprocAttr],by simp only[go_sem,simprocAttr],by simp only[go_sem,simprocAttr],by simp only[go_sem,simprocAttr]⟩,by simp only[go_sem,simprocAttr],by simp only[go_sem,simprocAttr],by simpa [ce_f] using J,fD _ _ _ _⟩ ?_;clear J H;rintro j fr H ⟨tm,p,V,hp,rfl,L,t9,t10,J,o⟩;have t0:=L.t0;have t2:=L.t2;have t3:=L.t3;have t5:=L.t5;have t8:=L.t8;have g5:=J.g5;have nx:=J.nx;unfold au at g5;unfold Uj;simp only[go_sem,simprocAttr,t5,t10,g5];refine bj (fun hlt=>?_) (fun hge=>?_)
  ·have hlt:p<t.L.length:=by omega
   obtain⟨l,hl⟩:∃l,t.L[p]?=some l:=⟨_,wO hlt⟩
   have hpl:=l2 l (wS hl);have ia:=fun h=>aN dj hl .i64 h
   obtain⟨x,ex,c151⟩:=kl.c151 (m+1) l hpl;have c142:=kl.c142 (m+1) l hpl;have hw2:=aM p (by omega);have ell:∀z:LL,aK z=.agg [wt z.c,.ls (z.v.map encV)]:=fun z=>rfl
   obtain⟨r,hr⟩:∃r,r=dX l vals:=⟨_,rfl⟩
   rw[<-hr]at c142;obtain⟨H1,hH1⟩:∃H1:AH,H1=((H.new (.box [wt 0,.nl])).set H.z (.box [wt x.c,.ls (x.v.map encV)])).set H.z (.box [wt r.1.c,.ls (r.1.v.map encV)]):=⟨_,rfl⟩
   have k1:HK H H1:=by subst hH1;exact((HK.new _ _).set _ (Fv _)).set _ (Fv _)
   have x1:H1.get H.z=some (.box [wt r.1.c,.ls (r.1.v.map encV)]):=by subst hH1;exact aC _ _ _
   have n1:H1.z=H.z+1:=by subst hH1;simp only[co,ci]
   have J1:=J.up' k1;have o1:Own (h.z+2) 2 true H1 V (((t.L.take p).map fun l=>(dX l vals).1).map aK):=bp o k1.z (fun a _ q=>k1.kw a q);have nne:¬h.z=H.z:=by omega
   have hst1:cR (.ptr H.z 0 0) (H.new (.box [wt 0,.nl])) 2 (aK x)=some ((H.new (.box [wt 0,.nl])).set H.z (.box [wt x.c,.ls (x.v.map encV)])):=by
    rw[ell];simp only[go_sem,simprocAttr]
   have hst2:cR (.ptr H.z 0 0) ((H.new (.box [wt 0,.nl])).set H.z (.box [wt x.c,.ls (x.v.map encV)])) 2 (aK r.1)=some H1:=by
    rw[ell,hH1];simp only[go_sem,simprocAttr]
   have hg1:((H.new (.box [wt 0,.nl])).set H.z (.box [wt x.c,.ls (x.v.map encV)])).get h.z=some (.box [wt t.kind,wt t.i,.str t.name,.ls (t.L.map aK),.ls (t.K.map enc)]):=by
    rw[an nne,aJ nne];exact g5
   clear hH1;have hany:(t.L.take (p+1)).any (erL vals)=((t.L.take p).any (erL vals)||erL vals l):=iY hl;have wl:=J.wl;obtain⟨H2,k2,g2,e130,eH⟩:∃H2,HKx w H1 H2/\H2.get w=some (.box [wt (ce e0 ((t.L.take (p+1)).any (erL vals))),wt 0])/\(r.2≠0->cS K (m+1) (.fn 130 [] []) [.ptr w 0 0,wt r.2] .no H1=some (.ret (.tup []),.no,H2))/\(r.2=0->H2=H1):=by
    by_cases he:r.2=0
    ·refine⟨H1,(HK.refl _).x w,?_,fun q=>absurd he q,fun _=>rfl⟩;rw[hany,show erL vals l=false by unfold erL;rw[<-hr];simp[he],Bool.or_false];exact J1.gw
    ·have h15:r.2=15:=by
      rcases repR_err l vals with q|q
      ·rw[<-hr]at q;exact absurd q he
      ·rw[<-hr]at q;exact q
     obtain⟨_,H2,e2,rfl,k2,g2⟩:=c130 hK m w _ r.2 0 H1 J1.gw;refine⟨H2,k2,?_,fun _=>e2,fun q=>absurd q he⟩;rw[g2,hany,show erL vals l=true by unfold erL;rw[<-hr];simp[he],<-VR,h15];rfl
   have n2:=k2.z;have J2:=J1.up k2 g2;have o2:Own (h.z+2) 2 true H2 V (((t.L.take p).map fun l=>(dX l vals).1).map aK):=bp o1 k2.z (fun a q1 q2=>k2.kw a q2 (by omega));obtain⟨V',H4,e4,o4,n4,k4,_⟩:=cV (bytes:=32) (x:=aK r.1) (z:=[wt 0,.nl]) o2 J2.nx rfl (dj _) rfl rfl (by simp only[waa,List.length_take];omega) (by decide);rw[ell r.1]at e4;have x2:=(k2.kw H.z (by omega) (by omega)).trans x1;have done:∀tm,afa w vals h.z (h.z+1) tm->nth tm 9=V'->nth tm 10=wt ((p+1:Nat):Int)->∃j',j'<j/\ach t w vals e0 h j' ⟨tm,⟨[],.no,none,104⟩⟩ H4:=by
    intro tm L t9 t10;refine⟨j-1,by omega,_,p+1,V',by omega,rfl,L,t9,t10,J2.low n4 k4,?_⟩;rw[mA hl,List.map_append,<-hr];exact o4
   by_cases he:r.2=0
   ·have he':decide (r.2=0)=true:=HE he;have:=eH he;subst this;simp only[go_sem,simprocAttr,GJ,t2,t5,t9,t10,g5,ia,c151,hst1,GK,t3,hg1,c142,hst2,GL,he',x2,e4,hw2];exact done _ ⟨by simp only[go_sem,simprocAttr,t0],by simp only[go_sem,simprocAttr,t2],by simp only[go_sem,simprocAttr,t3],by simp only[go_sem,simprocAttr,t5],by simp only[go_sem,simprocAttr,t8]⟩ (by simp only[go_sem,simprocAttr]) (by simp only[go_sem,simprocAttr])
   ·have he':decide (r.2=0)=false:=HD he;have e2:=e130 he;simp only[go_sem,simprocAttr,GJ,t0,t2,t5,t9,t10,g5,ia,c151,hst1,GK,t3,hg1,c142,hst2,GL,he',e2,x2,e4,hw2];exact done _ ⟨by simp only[go_sem,simprocAttr,t0],by simp only[go_sem,simprocAttr,t2],by simp only[go_sem,simprocAttr,t3],by simp only[go_sem,simprocAttr,t5],by simp only[go_sem,simprocAttr,t8]⟩ (by simp only[go_sem,simprocAttr]) (by simp only[go_sem,simprocAttr])
  ·have:p=t.L.length:=by omega
   subst this;rw[List.take_length]at J o;have hVb:V.cells=[V]/\V.lies=true/\∀a g n,V=.row a g 2 0 n->a<H.z:=by
    obtain⟨_,⟨rfl,_⟩|⟨k,g,rfl,_,q,_⟩⟩:=o
    ·exact⟨rfl,rfl,by intro a g n e;cases e⟩
    ·exact⟨rfl,rfl,by intro a g' n e;injection e with e;omega⟩
   simp only[go_sem,simprocAttr,HU,t5,t9,g5,hVb.1,hVb.2.1,SZ,Ta];have J1:=J.put [wt t.kind,wt t.i,.str t.name,V,.ls (t.K.map enc)];have o1:Own (h.z+2) 2 true (H.set h.z (.box [wt t.kind,wt t.i,.str t.name,V,.ls (t.K.map enc)])) V ((t.L.map fun l=>(dX l vals).1).map aK):=bp o (by rw[co];exact Fv _) (fun a q _=>an (by omega));refine bD (I104b t w vals (ce e0 (t.L.any (erL vals))) V (t.L.map fun l=>(dX l vals).1) H.z h) t.K.length (by omega) ⟨_,0,.nl,wac _,rfl,⟨by simp only[go_sem,simprocAttr,t0],by simp only[go_sem,simprocAttr,t2],by simp only[go_sem,simprocAttr,t3],by simp only[go_sem,simprocAttr,t5],by simp only[go_sem,simprocAttr,t8]⟩,by simp only[go_sem,simprocAttr],by simp only[go_sem,simprocAttr],by simpa [ce_f] using J1,by rw[co];exact Fv _,o1,fD _ _ _ _⟩ ?_;clear J1 o1 o J g5 t0 t2 t3 t5 t8 t9 t10 L tm;rintro j fr H2 ⟨tm,p,V5,hp,rfl,L,t13,t14,J,hBn,o9,o5⟩;have t0:=L.t0;have t2:=L.t2;have t3:=L.t3;have t5:=L.t5;have t8:=L.t8;have g5:=J.g5;have nx2:=J.nx;unfold Ui;simp only[go_sem,simprocAttr,t5,t14,g5];refine bj (fun hlt=>?_) (fun hge=>?_)
   ·have hlt:p<t.K.length:=by omega
    obtain⟨x,hx⟩:∃x,t.K[p]?=some x:=⟨_,wO hlt⟩
    have ia:=fun h=>aN aZ hx .i64 h
    have hsx:size x<size t:=by
     have:=ck hx;cases t;simp only[T.K,size]at *;omega
    have wl:=J.wl;obtain⟨_,H3,e3,rfl,k3,g3⟩:=ih x H2 _ (by omega) (by omega) (hq.kid hx) J.gw (by omega);have n3:=k3.z;have hw3:=aM p (by omega);have J3:=J.up k3 g3;have o93:Own (h.z+2) 2 true H3 V ((t.L.map fun l=>(dX l vals).1).map aK):=bp o9 k3.z (fun a q1 q2=>k3.kw a q2 (by omega));have o53:Own H.z 5 true H3 V5 (((t.K.take p).map (pP vals)).map enc):=bp o5 k3.z (fun a q1 q2=>k3.kw a q2 (by omega));obtain⟨V',H4,e4,o4,n4,k4,_⟩:=cV (bytes:=80) (x:=enc (pP vals x)) (z:=[wt 0,wt 0,.str (bs []),.nl,.nl]) o53 (by omega) rfl (aZ _) (fu _) (gh _) (by simp only[waa,List.length_take];omega) (by decide);have J4:=J3.low n4 (fun a q=>k4 a (by omega));have o94:Own (h.z+2) 2 true H4 V ((t.L.map fun l=>(dX l vals).1).map aK):=by
     obtain⟨q1,q2⟩:=o93;refine⟨q1,?_⟩;rcases q2 with q|⟨a,g,z1,z2,z3,z4⟩
     ·exact .inl q
     ·have:=hVb.2.2 _ _ _ z1;exact .inr ⟨a,g,z1,by rw[k4 a (by omega)];exact z2,by omega,z4⟩
    simp only[go_sem,simprocAttr,Td,t0,t2,t3,t5,t13,t14,g5,ia,e3,rO,e4,hw3];refine⟨j-1,by omega,_,p+1,V',by omega,rfl,⟨by simp only[go_sem,simprocAttr,t0],by simp only[go_sem,simprocAttr,t2],by simp only[go_sem,simprocAttr,t3],by simp only[go_sem,simprocAttr,t5],by simp only[go_sem,simprocAttr,t8]⟩,by simp only[go_sem,simprocAttr],by simp only[go_sem,simprocAttr],?_,by omega,o94,?_⟩
    ·rw[iY hx,<-VR];exact J4
    ·rw[mA hx,List.map_append];exact o4
   ·have:p=t.K.length:=by omega
    subst this;rw[List.take_length]at J o5;have hV5:=wH o5;have g8:=J.g8;have nne:¬h.z+1=h.z:=by omega
    simp only[go_sem,simprocAttr,Tb,Tc,t5,t8,t13,g5,g8,hV5.2.1,hV5.2.2,nne];have o9':=bp (h':=(H2.set h.z (.box [wt t.kind,wt t.i,.str t.name,V,V5])).set (h.z+1) (.box [wt t.kind,wt t.i,.str t.name,V,V5])) o9 (by simp only[co];exact Fv _) (fun a q _=>by rw[an (by omega),an (by omega)]);have o5':=bp (h':=(H2.set h.z (.box [wt t.kind,wt t.i,.str t.name,V,V5])).set (h.z+1) (.box [wt t.kind,wt t.i,.str t.name,V,V5])) o5 (by simp only[co];exact Fv _) (fun a q _=>by rw[an (by omega),an (by omega)]);obtain⟨H3,e3,n3,k3⟩:=IP t.kind t.i t.name o9' hVb.2.2 o5' nx;have wl:=J.wl;refine⟨rfl,rfl,.inr rfl,[.agg [_,_,_,_,_]],by simp only[go_sem,simprocAttr,r104,t8],_,_,cC (by intro l e;cases e) e3,by rw[YD],⟨?_,?_⟩,?_⟩
    ·rw[n3];simp only[co];exact J.kw.z
    ·intro a ha hne;rw[k3 a (by omega),an (by omega),an (by omega)];exact J.kw.kw a ha hne
    ·rw[k3 w (by omega),an (by omega),an (by omega),YE,<-VR];exact J.gw
def fj (vals:List LL)(t:T):T×Int:=if wX vals t then (tZ,15) else (pP vals t,0)
theorem c63 {K:aG}(hK:bW K){vals:List LL}(kl:KL K vals)(m:Nat)(t:T)(h:AH)(hm:size t+2<=m)(h50:size t<=50000)(hq:Lq t):
  ∃v h',cS K (m+1) (.fn 63 [] []) [enc t,.ls (vals.map aK)] .no h=some (.ret v,.no,h')/\v=.tup [enc (fj vals t).1,wt (fj vals t).2]/\HK h h':=by
 refine cm hK cf63 (ae (aP _ _) (ae (kG _ _) (aB _))) ?_;simp only[wab];have J0:=kS.init t h;obtain⟨H,hH⟩:∃H:AH,H=((h.new (.box (au t))).new (.box [wt 0,wt 0,.str (bs []),.nl,.nl])):=⟨_,rfl⟩
 rw[<-hH]at J0;have b6:=J0.b6;have b10:=J0.b10;have nx:=J0.nx;obtain⟨H1,hH1⟩:∃H1:AH,H1=H.new (.box [wt 0,wt 0]):=⟨_,rfl⟩
 have k1:HK H H1:=by subst hH1;exact HK.new _ _
 have x1:H1.get H.z=some (.box [wt 0,wt 0]):=by subst hH1;exact aE _ _
 have n1:H1.z=H.z+1:=by subst hH1;exact ci _ _
 obtain⟨_,H2,e2,rfl,k2,g2⟩:=c104 hK kl H.z m t H1 0 hm h50 hq x1 (by omega);have n2:=k2.z;have hst:=aQ (h:=H2.new (.box [wt 0,wt 0,.str (bs []),.nl,.nl])) (k:=H2.z) (aE _ _) (pP vals t);obtain⟨H3,hH3⟩:∃H3:AH,H3=(H2.new (.box [wt 0,wt 0,.str (bs []),.nl,.nl])).set H2.z (.box (au (pP vals t))):=⟨_,rfl⟩
 have k3:HK H2 H3:=by subst hH3;exact HK.new_set _ _ _
 have x3:H3.get H2.z=some (.box (au (pP vals t))):=by subst hH3;exact aC _ _ _
 rw[<-hH3]at hst;clear hH3;have g3:=(k3.kw H.z (by omega)).trans g2;have b103:=(k3.kw (h.z+1) (by omega)).trans ((k2.kw _ (by omega) (by omega)).trans ((k1.kw _ (by omega)).trans b10));have kk:HK h H3:=⟨by have:=k3.z;omega,fun a ha=>by rw[k3.kw a (by omega),k2.kw a (by omega) (by omega),k1.kw a (by omega)];exact J0.kw.kw a ha⟩;have b61:=(k1.kw h.z (by omega)).trans b6;unfold au at b6 b61 x3 hH;rw[aA t]at e2 ⊢;have z00:cP H [wt 0,wt 0] []=.val (.agg [wt 0,wt 0]) H:=rfl;have bqz:AV.beq (wt 0) (wt 0)=true:=rfl;unfold b63;simp only[go_sem,simprocAttr];rw[<-hH];clear hH;simp only[go_sem,simprocAttr,aak,z00];rw[<-hH1];simp only[go_sem,simprocAttr,aal,ci,b61,e2,hst,aam,g3];unfold fj;cases hE:wX vals t with
 |true=>
  have hce:ce 0 true=15:=rfl;rw[hE]at g3;have nne:¬H.z=h.z+1:=by omega
  have hce':ce 0 true=15:=rfl;rw[hce]at g3;have bq15:AV.beq (wt 15) (wt 15)=true:=rfl;simp only[go_sem,simprocAttr,hce,g3,b103,nne,bq15];refine⟨rfl,rfl,.inr rfl,[.agg [_,_,_,_,_],wt 15],by simp only[go_sem,simprocAttr,r63],_,_,bG (ae (pU _) (ae (ba _ _ _) (aB _))),rfl,kk.set _ (by omega)⟩
 |false=>
  have hce:ce 0 false=0:=rfl;simp only[go_sem,simprocAttr,hce,aan,x3,b103];refine⟨rfl,rfl,.inr rfl,[.agg [_,_,_,_,_],wt 0],by simp only[go_sem,simprocAttr,r63],_,_,bG (ae (iG (ir (eC _) (eL _)) _) (ae (ba _ _ _) (aB _))),rfl,kk.set _ (by omega)⟩
theorem XO (m:QV):(gC m).norm=gC m:=by simp[gC,AV.norm,AV.ip,fB,cu]
theorem XP (m:QV):(gC m).free=true:=by simp[gC,AV.free,AV.jp,cL de,eE]
theorem OK (b:LL×LL):(cQ b).norm=cQ b:=by simp[cQ,AV.norm,AV.ip,mE]
theorem OL (b:LL×LL):(cQ b).free=true:=by simp[cQ,AV.free,AV.jp,cL lT]
theorem II (s:SV):(od s).norm=od s:=by simp[od,AV.norm,AV.ip,dN IK,dN XO,dN OK]
theorem IJ (s:SV):(od s).free=true:=by simp[od,AV.free,AV.jp,cL IL,cL XP,cL OL]
theorem My (s:SV)(h:AH):eT (od s) h=(od s,h):=by rw[dG (IJ s),II]
noncomputable def finR (ms:List MV)(vals:List LL)(t:T):T×Int:=
 match (FillR ms t (some 0)).2.2 with
 |none=>(tZ,11)
 |some _=>if (FillR ms t (some 0)).2.1≠0 then (tZ,(FillR ms t (some 0)).2.1) else if wh (FillR ms t (some 0)).1=true then (tZ,23) else if scT vals.length (FillR ms t (some 0)).1=true then fj vals (FillR ms t (some 0)).1 else (tZ,24)
structure wb (ms:List MV):Prop where
 len:ms.length<=8
 val:∀m∈ms,m.known=true->size m.val<=60/\Ok PL ms.length m.val 0
theorem vQ {ms:List MV}(g:wb ms){t:T}{d:Int}(_hs:size t<=60)(hd0:0<=d)(hok:Ok PL ms.length t d){c:Option Int}{f:Int}(h0:(FillR ms t c).2.1=0)(h1:(FillR ms t c).2.2=some f):size (FillR ms t c).1<=2000/\io (FillR ms t c).1<=95/\Ok PL ms.length (FillR ms t c).1 d:=by
 unfold FillR at h0 h1 ⊢;simp only at h0 h1 ⊢;rw[wae h0]at h1;obtain⟨_,h2,h3⟩:=dn h1;obtain⟨f',hf'⟩:=waf.1 h2;exact⟨gL h3,ij h3,rQ ms (fun m hm hk=>(g.val m hm hk).2) 600 t [] c f' d hd0 hok h0 hf'⟩
theorem c22 {K:aG}(hK:bW K)(kc:KC K)(kd:KD K)(ke:KE K){vals:List LL}(kl:KL K vals)(hvl:vals.length<=1000)(s:SV)(g:wb s.ms)(w:Nat)
  (t:T) (d:Int) (h:AH) (hs:size t<=60) (hd0:0<=d) (hd1:d+size t<=1000) (hok:Ok PL s.ms.length t d) (hc:Cn h w (some 0)) (hw:w<h.z) :
  ∃v h',cS K 20602 (.fn 22 [] []) [od s,.ls (vals.map aK),enc t,.ptr w 0 0] .no h=some (.ret v,.no,h')/\v=.tup [enc (finR s.ms vals t).1,wt (finR s.ms vals t).2]/\HKx w h h'/\Cn h' w (FillR s.ms t (some 0)).2.2:=by
 refine cm hK cf22 (ae (My _ _) (ae (kG _ _) (ae (aP _ _) (ae (dh _ _ _ _) (aB _))))) ?_;simp only[wab];have fok:=fun f=>vQ g hs hd0 hok (c:=some 0) (f:=f)
 have c60':=fun H hc hw=>c60 hK kc kd ke s.ms g.len g.val w t d (some 0) H hs hd0 hd1 hok hc hw
 obtain⟨Q,hQ⟩:∃Q,Q=finR s.ms vals t:=⟨_,rfl⟩
 rw[<-hQ];unfold finR at hQ;revert fok c60' hQ;generalize FillR s.ms t (some 0)=q;intro fok c60' hQ;rw[aA t]at c60' ⊢;unfold od;unfold b22;obtain⟨H,hH⟩:∃H:AH,H=(((h.new (.box [.ls (s.ms.map cD),.ls (s.qs.map gC),.ls (s.bs.map cQ),wt s.n])).new (.box [wt t.kind,wt t.i,.str t.name,.ls (t.L.map aK),.ls (t.K.map enc)])).new (.box [wt 0,wt 0,.str (bs []),.nl,.nl])):=⟨_,rfl⟩
 have k0:HK h H:=by subst hH;exact((HK.new _ _).add _).add _
 have n0:H.z=h.z+3:=by subst hH;simp only[ci]
 have g4:H.get h.z=some (.box [.ls (s.ms.map cD),.ls (s.qs.map gC),.ls (s.bs.map cQ),wt s.n]):=by subst hH;rw[aJ (by simp only[ci];omega),aJ (by simp only[ci];omega),aE]
 have g6:H.get (h.z+1)=some (.box [wt t.kind,wt t.i,.str t.name,.ls (t.L.map aK),.ls (t.K.map enc)]):=by
  subst hH;rw[aJ (by simp only[ci];omega),<-ci h (.box [.ls (s.ms.map cD),.ls (s.qs.map gC),.ls (s.bs.map cQ),wt s.n]),aE]
 have g8:H.get (h.z+1+1)=some (.box [wt 0,wt 0,.str (bs []),.nl,.nl]):=by
  subst hH;have:h.z+1+1=((h.new (.box [.ls (s.ms.map cD),.ls (s.qs.map gC),.ls (s.bs.map cQ),wt s.n])).new (.box [wt t.kind,wt t.i,.str t.name,.ls (t.L.map aK),.ls (t.K.map enc)])).z:=by simp only[ci]
  rw[this,aE]
 simp only[go_sem,simprocAttr];rw[<-hH];clear hH;obtain⟨_,h2,e2,rfl,k2,c2⟩:=c60' H (hc.kw (k0.kw w hw)) (by omega);have n2:=k2.z;have hst:=aQ (h:=h2.new (.box [wt 0,wt 0,.str (bs []),.nl,.nl])) (k:=h2.z) (aE _ _) q.1;obtain⟨H3,hH3⟩:∃H3:AH,H3=(h2.new (.box [wt 0,wt 0,.str (bs []),.nl,.nl])).set h2.z (.box (au q.1)):=⟨_,rfl⟩
 have k3:HK h2 H3:=by subst hH3;exact HK.new_set _ _ _
 have x3:H3.get h2.z=some (.box (au q.1)):=by subst hH3;exact aC _ _ _
 have n3:H3.z=h2.z+1:=by subst hH3;simp only[co,ci]
 rw[<-hH3]at hst;clear hH3;have c3:=c2.kw (k3.kw w (by omega));have kk:=(k0.x w).trans (k2.trans (k3.x w));have g83:=(k3.kw (h.z+1+1) (by omega)).trans ((k2.kw _ (by omega) (by omega)).trans g8);unfold au at x3;have fin:∀tm H4,nth tm 8=.ptr (h.z+1+1) 0 0->nth tm 9=wt Q.2->H4.get (h.z+1+1)=some (.box (au Q.1))->HKx w h H4->Cn H4 w q.2.2->
   IQ r22 (fun v h2=>∃v' h3,gT v h2=(v',h3)/\v'=.tup [enc Q.1,wt Q.2]/\HKx w h h3/\Cn h3 w q.2.2) .ret ⟨tm,⟨[],.no,none,22⟩⟩ H4:=by
  intro tm H4 t8 t9 g k c;unfold au at g;exact⟨rfl,rfl,.inr rfl,[.agg [_,_,_,_,_],wt Q.2],by simp only[go_sem,simprocAttr,r22,t8,t9,g],_,_,bG (ae (iG (ir (eC _) (eL _)) _) (ae (ba _ _ _) (aB _))),rfl,k,c⟩
 have finZ:∀tm H4 (e:Int),nth tm 8=.ptr (h.z+1+1) 0 0->nth tm 9=wt e->H4.get (h.z+1+1)=some (.box [wt 0,wt 0,.str (bs []),.nl,.nl])->HKx w h H4->Cn H4 w q.2.2->Q=(tZ,e)->
   IQ r22 (fun v h2=>∃v' h3,gT v h2=(v',h3)/\v'=.tup [enc Q.1,wt Q.2]/\HKx w h h3/\Cn h3 w q.2.2) .ret ⟨tm,⟨[],.no,none,22⟩⟩ H4:=by
  intro tm H4 e t8 t9 g k c eq;subst eq;exact⟨rfl,rfl,.inr rfl,[.agg [_,_,_,_,_],wt e],by simp only[go_sem,simprocAttr,r22,t8,t9,g],_,_,bG (ae (pU _) (ae (ba _ _ _) (aB _))),rfl,k,c⟩
 cases hq:q.2.2 with
 |none=>
  rw[hq]at c3 hQ;obtain⟨f,gw⟩:=c3;simp only[go_sem,simprocAttr,ci,Ba,g4,g6,e2,hst,Bb,gw,g83];refine hq▸finZ _ _ 11 (by simp only[go_sem,simprocAttr]) (by simp only[go_sem,simprocAttr]) (aC _ _ _) (kk.set _ (.inl (by omega))) (by rw[hq];exact⟨f,by rw[an (by omega)];exact gw⟩) hQ
 |some f=>
  have c3':=c3;rw[hq]at c3 hQ;have gw:=c3.2.2;simp only at hQ;by_cases he:q.2.1=0
  ·have he':decide (q.2.1=0)=true:=HE he;obtain⟨sz,dp,okx⟩:=fok f he hq;rw[wad (by simpa using he)]at hQ;obtain⟨_,H4,e4,rfl,k4⟩:=c61 hK 20600 q.1 H3 (by omega) (by omega);rw[aA q.1]at e4;have n4:=k4.z;have x4:=(k4.kw _ (by omega)).trans x3;have g84:=(k4.kw (h.z+1+1) (by omega)).trans g83;have hpos:=NV q.1;have kk4:=kk.trans (k4.x w);have c4:=c3'.kw (k4.kw w (by omega));cases hm:wh q.1 with
   |true=>
    rw[hm]at hpos;rw[wae hm]at hQ;simp only[go_sem,simprocAttr,ci,Ba,g4,g6,e2,hst,Bb,gw,EU,he',Mo,x3,e4,hpos,g84];exact hq▸finZ _ _ 23 (by simp only[go_sem,simprocAttr]) (by simp only[go_sem,simprocAttr]) (aC _ _ _) (kk4.set _ (.inl (by omega))) (c4.kw (an (by omega))) hQ
   |false=>
    rw[hm]at hpos;rw[wad (by simp[hm])]at hQ;obtain⟨_,H5,e5,rfl,k5⟩:=c62 hK (vals.length:Int) (by omega) (by omega) 20601 q.1 H4 (by omega) (by omega) ⟨_,_,okx⟩;rw[aA q.1]at e5;have n5:=k5.z;have x5:=(k5.kw _ (by omega)).trans x4;have g85:=(k5.kw (h.z+1+1) (by omega)).trans g84;have kk5:=kk4.trans (k5.x w);have c5:=c4.kw (k5.kw w (by omega));cases hsc:scT vals.length q.1 with
    |false=>
     rw[hsc]at e5;rw[wad (by simp[hsc])]at hQ;simp only[go_sem,simprocAttr,ci,Ba,g4,g6,e2,hst,Bb,gw,EU,he',Mo,x3,e4,hpos,Vq,x4,e5,g85];exact hq▸finZ _ _ 24 (by simp only[go_sem,simprocAttr]) (by simp only[go_sem,simprocAttr]) (aC _ _ _) (kk5.set _ (.inl (by omega))) (c5.kw (an (by omega))) hQ
    |true=>
     rw[hsc]at e5;rw[wae hsc]at hQ;obtain⟨_,H6,e6,rfl,k6⟩:=c63 hK kl 20600 q.1 H5 (by omega) (by omega) ⟨_,_,okx⟩;rw[<-hQ,aA q.1]at e6;have n6:=k6.z;have g86:=(k6.kw (h.z+1+1) (by omega)).trans g85;have kk6:=kk5.trans (k6.x w);have c6:=c5.kw (k6.kw w (by omega));have hs6:=aQ g86 Q.1;simp only[go_sem,simprocAttr,ci,Ba,g4,g6,e2,hst,Bb,gw,EU,he',Mo,x3,e4,hpos,Vq,x4,e5,aa5,x5,e6,hs6];exact hq▸fin _ _ (by simp only[go_sem,simprocAttr]) (by simp only[go_sem,simprocAttr]) (aC _ _ _) (kk6.set _ (.inl (by omega))) (c6.kw (an (by omega)))
  ·have he':decide (q.2.1=0)=false:=HD he;rw[wae he]at hQ;simp only[go_sem,simprocAttr,ci,Ba,g4,g6,e2,hst,Bb,gw,EU,he',g83];exact hq▸finZ _ _ q.2.1 (by simp only[go_sem,simprocAttr]) (by simp only[go_sem,simprocAttr]) (aC _ _ _) (kk.set _ (.inl (by omega))) (c3'.kw (an (by omega))) hQ
