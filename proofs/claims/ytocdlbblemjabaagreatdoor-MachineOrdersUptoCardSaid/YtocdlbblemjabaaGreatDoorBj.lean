/- Lemmas for MachineOrders (no condition). -/
import Derived.Test.YtocdlbblemjabaaGreatDoorBf
set_option linter.defProp false
namespace Go.Proofs.YtocdlbblemjabaaGreatDoor
open Go.AG Go.AG.MK
section
variable {C:MK.Cx}{W:T->Option T}{N:Nat}
mutual
def UH (i:∀x,aO x<=N->Nf C x->W x=some x):∀(t:gK) (a:List T),(∀x∈a,aO x<=N/\Nf C x)->mtT C W t a=mtT C some t a
 |.mk k f v e,a,g=>by
  unfold mtT;by_cases hk:k=1
  ·rw[P_ hk,P_ hk];by_cases b:0<=v
   ·rw[P_ b,P_ b];cases hx:a[v.toNat]? with
    |none=>rfl
    |some x=>
     have⟨l,h⟩:=g x (m_ hx);simp only;rw[i x l h];simp only;cases j:cR C x with
     |none=>rfl
     |some d=>
      refine UJ i e _ _ (λy c=>?_);rcases List.mem_append.1 c with c|c
      ·exact g y c
      have:=ON h j y c;exact⟨o_,this.1⟩
   rw[N_ b,N_ b]
  rw[N_ hk,N_ hk]
def UJ (d:∀x,aO x<=N->Nf C x->W x=some x):∀(l:List Br) (nm:ByteArray) (a:List T),(∀x∈a,aO x<=N/\Nf C x)->mtB C W l nm a=mtB C some l nm a
 |[],_,_,_=>by unfold mtB;rfl
 |.mk c f t::l,nm,a,e=>by
  unfold mtB;by_cases b:c=nm
  ·rw[P_ b,P_ b];cases f with
   |true=>rfl
   |false=>exact UH d t a e
  rw[N_ b,N_ b];exact UJ d l nm a e
end
def Xy (d:∀x,aO x<=N->Nf C x->W x=some x){h:T}{as_:List T}(hk:∀x∈h.K,aO x<=N/\Nf C x)(g:∀x∈as_,aO x<=N/\Nf C x):MK.step C W h as_=MK.step C some h as_:=by
 have⟨_,_,nm,ls,_⟩:=h;unfold MK.step;simp only[T.D,T.K,T.N,T.L]at hk ⊢;split
 ·rfl
 ·rfl
 ·rfl
 ·rename_i b;rw[d b (hk b (by simp)).1 (hk b (by simp)).2]
 ·rename_i b;rw[d b (hk b (by simp)).1 (hk b (by simp)).2]
 ·cases m:C.cst nm ls.length with
  |rigid=>rfl
  |dfn v=>rfl
  |rcr first j l f=>
   simp only;cases hx:as_[j]? with
   |none=>rfl
   |some a=>
    simp only;rw[d a (g a (m_ hx)).1 (g a (m_ hx)).2]
  |fn e c=>
   simp only;rw[UH d c _ (λx hx=>g x (List.mem_of_mem_take hx))]
 rfl
end
def wf_ex (C:MK.Cx):∀(N:Nat),∃n,∀u,aO u<=N->Nf C u->wf C n u []=some u:=by
 intro N;induction N with
 |zero=>exact⟨0,λu h=>by have:=bI u;omega⟩
 |succ N b=>
  have⟨n,b⟩:=b;refine⟨n+1+(N+1),λu g q=>?_⟩;obtain⟨h,a,rfl,hk,f,s⟩:=q.inv;have hs:=cd h a;have e:=Xy (C:=C) (W:=λt=>wf C n t []) (N:=N) (λx d c=>b x d c) (h:=h) (as_:=a) (λx hx=>⟨by have:=Cu hx;omega,hk x hx⟩) (λx hx=>⟨by have:=cH hx;have:=bI h;omega,f x hx⟩);have w:wf C (n+1) h (a++[])=some (bA h a):=by
   unfold wf;rw[A_,e,s.2]
  exact xI o_ (AM C [] a w)
def nf_ex (C:MK.Cx):∀(N:Nat),∃n,∀u,aO u<=N->Nf C u->nf C n u=some u:=by
 intro N;induction N with
 |zero=>exact⟨0,λu h=>by have:=bI u;omega⟩
 |succ N a=>
  have⟨n,a⟩:=a;have⟨w,i⟩:=wf_ex C (N+1);refine⟨max n w+1,λu d q=>?_⟩;have e:=xI (Nat.le_max_right n w) (i u d q);obtain⟨h,c,rfl,hk,g,s⟩:=q.inv;have hs:=cd h c;have id:∀l:List T,(∀x∈l,nf C (max n w) x=some x)->ju (nf C (max n w)) l=some l:=by
   intro l;induction l with
   |nil=>intro _;rfl
   |cons x l b=>
    intro q;unfold ju;rw[q x (by simp),b λy f=>q y (by simp[f])]
  unfold nf;rw[e];simp only[parts,lI s.1];rw[id _ λx hx=>ui (Nat.le_max_left n w) (a x (by have:=Cu hx;omega) (hk x hx)),id _ λx hx=>ui (Nat.le_max_left n w) (a x (by have:=cH hx;have:=bI h;omega) (g x hx))];cases h;rfl
def XT {C:MK.Cx}{t u:T}(h:Rl C t u):Rl C u u:=by
 have⟨n,h⟩:=h;have⟨m,q⟩:=nf_ex C (aO u);exact⟨m,q u (e_ _) (nf_is n t u h)⟩
def aaC {C:MK.Cx}{t p u:T}{n:Nat}(w:Wh C t p)(q:parts (nf C n) p=some u):Rl C t u:=by
 have⟨k,w⟩:=w;refine⟨max k n+1,?_⟩;unfold nf;rw[xI (Nat.le_max_left k n) w];simp only;exact tN (λt u e=>ui (Nat.le_max_right k n) e) p u q
def Vm {K:aN}[m:RunsM K]{f:Nat}{b c a d:List AV}{h:AH}(e0:jB a h=(d,h))(n:jB (b++a) h=(b++d,h))(i:f∈ud:=by decide)(g:niM.contains f=false:=by decide)(e:dpM.contains f=false:=by decide):
  cS K (.fn f b c) a .no h=cS K (.fn f [] c) (b++a) .no h:=by
 have ev:∀A,xK (.fn f b c) EG A 1000000000000 d .no h=xK (.fn f [] c) EG A 1000000000000 (b++d) .no h:=λA=>by
  show qw EG _ _ f (app b (app d c)) .no h=qw EG _ _ f (app [] (app (b++d) c)) .no h;simp only[lY,List.nil_append,V_]
 have j:=m.bnd f i b c d .no h;have l:=m.bnd f i [] c (b++d) .no h;refine congrArg limP (funext λk=>?_);cases k with
 |zero=>rfl
 |succ k=>
  refine(tK (ni:=niM) e0 (show eH niM (.fn f b c)=false from g)).trans (Eq.trans ?_ (tK (ni:=niM) n (show eH niM (.fn f [] c)=false from g)).symm);unfold Bd;rw[show eH noM (.fn f b c)=eH noM (.fn f [] c) from rfl];cases eH noM (.fn f [] c) with
  |true=>simp only[qT (dp:=dpM) (f:=.fn f b c) e,qT (dp:=dpM) (f:=.fn f [] c) e,j,l];exact ev _
  |false=>simp only[qT (dp:=dpM) (f:=.fn f b c) e,qT (dp:=dpM) (f:=.fn f [] c) e,j,l];exact congrArg Be (ev _)
section
variable {K:aN}{A:Ma}{B B1:Nat}{env:List DV}{inst:T->List LL->Option T}
def Nq (K:aN)(A:Ma)(B B1:Nat)(E:AV)(C:MK.Cx)(d:Int):Prop:=∀(M:Ms) (c b:Nat) (h:AH) (x:Int) (t:T),St A B B1 E M c b h->Wg M->Ct M->Mem C M->d<=M.vis->At M.ts x t->
 Mc K A B B1 E (35) [] [.P A.a,.I x] M h λa v=>Mx C M a/\∃r u,v=.I r/\At a.ts r u/\Rl C t u
def ab1 [hK:RunsM K][km:KM K][kg:KG K](eg:Eg env)(ci:Ci K A B B1 (.eD env) inst):
  ∀(n:Nat) (Q:Int),(4000001-Q).toNat<=n->Nq K A B B1 (.eD env) (Ce env inst) Q:=by
 intro n;induction n with
 |zero=>
  intro Q hn M gN gF h x t s g c j hv hx;have:=c.v1;omega
 |succ n ih=>
 intro Q hn M gN gF h x t s g c j hv hx;refine iW afR ?_;have b1:=s.b1;have ra:=s.ok.rng;have gA:=s.gA;have ag:=λz=>ki (kf:=AG.bh) (t:=1) AG.bh dw s.gM x z true;unfold kj at gA;have J:∀z,iq h 1 z true (.map A.kM) (.I x)=_:=ag;simp only[go_sem,gA,J];cases hw:lkg M.n x with
 |some o=>
  have⟨t',u,a1,a2,wh⟩:=j.n _ (qH hw);have:=hx.det a1;subst this;simp only[go_sem,AG.bh];exact iX (.inr rfl) k_ (HM.refl h) ⟨M,gN,gF,s,g,Le.refl M,Mx.refl c j,o,u,rfl,a2,wh⟩
 |none=>
  have⟨_,H1,e1,l,q1⟩:=Bz (h:=h) s g c;simp only[go_sem];rcases q1 with⟨v,rfl,rfl,M3,ai,ah,X,g3,r,L,T⟩|rfl
  ·have v3:M3.vis=M.vis+1:=by rw[L]
   have y:=T.mx c j r;clear L;have ak:=c.v0;have⟨_,H4,U,F,q4⟩:=c1031 eg ci 4000001 0 o_ M3 ai ah H1 x t X g3 y.ct y.mem o_ (r.at hx);simp only[go_sem,e1];rcases q4 with⟨v,rfl,M4,al,am,Y,g4,V,i,r4,u4,rfl,a4,af⟩|rfl
   ·have hf:Fn1 K A B B1 (λ_=>False) (.eD env) (Ce env inst) (M.vis+1) (.fn 35 [.P A.a] []) (nf (Ce env inst)) (λ_ _=>True):=by
     intro M' Z ac h' x' t' s' g' c' I aa ab _;have⟨o,h2,e,q⟩:=ih (M.vis+1) o_ M' Z ac h' x' t' s' g' c' I aa ab;refine⟨o,h2,?_,q.1.x,q.2.imp (λ⟨v,e,M2,a,b,st,g,le,mx,w⟩=>⟨v,e,M2,a,b,st,g,le,mx,trivial,w⟩) id⟩;rw[Vm (ae (aL _ _ _) (aH _)) (ae (bS _ _ _ _) (ae (aL _ _ _) (aH _)))];exact e
    have v4:=i.vis;have⟨_,H5,e5,H,q5⟩:=abW (λn t u q=>Ei n t u q) (λ_ q=>q.elim) (λ_ _ _ _ _ _ _ _=>trivial) hf (λh=>by rw[jd];simp[AV.norm,AV.norms]) Y g4 i.ct i.mem o_ a4 trivial;have G:HM B B1 H4 H5:=⟨H.z,λk a b=>H.kw k a b id⟩;rcases q5 with⟨v,rfl,M5,aj,S,E,g5,W,ad,_,f,u5,k5,rfl,R,p5⟩|rfl
    ·have rl:=aaC af p5;have d:=(y.trans i).trans ad;have m:=(r.trans V).trans W;have P:=(l.trans F).trans G;have N:=E.gA;have C:=lS (kf:=AG.bh) (t:=1) AG.bh dw E.gM x f;have s3:=E.putN (stg M5.n x f);have O:=s3.gA;have D:=lS (kf:=AG.bh) (t:=1) AG.bh dw s3.gM f f;have s4:=s3.putN (stg (stg M5.n x f) f f);have C:iR H5 1 (.map A.kM) (.I x) (.I f)=_:=C;have D:iR (H5.set A.kM (.map (mpg AG.bh AG.bh (stg M5.n x f)))) 1 (.map A.kM) (.I f) (.I f)=_:=D;unfold kj at N O;simp only[go_sem,U,e5,N,C,O,D];refine iX (.inr rfl) k_ ((P.set _ (.inr ra.2.2.2.2.2)).set _ (.inr ra.2.2.2.2.2)) ⟨_,aj,S,s4,g5.same rfl rfl rfl,m.trans (Le.same rfl rfl),⟨⟨d.ct.v0,d.ct.v1,d.ct.c0,d.ct.c1⟩,⟨λe p=>d.mem.w e p,λe p=>?_⟩,d.vis,d.con⟩,f,_,rfl,R,rl⟩;rcases stg_mem p with rfl|p
     ·exact⟨_,_,R,R,XT rl⟩
     rcases stg_mem p with rfl|p
     ·exact⟨t,_,m.at hx,R,rl⟩
     exact d.mem.n e p
    simp only[go_sem,U,e5];exact cP ((l.trans F).trans G)
   simp only[go_sem,U];exact cP (l.trans F)
  simp only[go_sem,e1];exact cP l
end
def kV {b:Type}{p:b->Bool}{a:List b}{i:Nat}{x:b}(e:a[i]?=some x)(h:(a.take i).any p=false)(c:p x=false):(a.take (i+1)).any p=false:=by
 rw[Z_,e,Option.toList_some,List.any_append,h];simp[c]
def qt {a:Type}{p:a->Bool}{b:List a}{i:Nat}{x:a}(e:b[i]?=some x)(c:p x=true):b.any p=true:=List.any_eq_true.2 ⟨x,m_ e,c⟩
def Vi (l:List LV)(h:AH):cw (.eV l) h=(.eV l,h):=by
 rw[bQ (show(AV.eV l).free=true by simp only[AV.free];exact bY wK l)];simp only[AV.norm,bB sL]
section
variable {K:aN}
structure Pr (K:aN){α:Type}(fv:AV)(en:α->AV)(p:α->Bool)(xs:List α)(Pf:AH->Prop):Prop where
 up:∀h h',Pf h->HK h h'->Pf h'
 run:∀x∈xs,∀h,Pf h->∃h',cS K fv [en x] .no h=some (.ret (.bool (p x)),.no,h')/\HK h h'
 can:∀h,cw fv h=(fv,h)
def I239 (a:List Int)(d:AV)(p:Int->Bool)(b:AH)(j:Nat)(c:AF)(h:AH):Prop:=∃tm i,i+j=a.length/\c=F_ 137 tm/\HK b h/\nth tm 0=.eI a/\nth tm 1=d/\nth tm 7=.I (a.length:Int)/\nth tm 8=.I (i:Int)/\(a.take i).any p=false
def c239 [RunsM K]{a:List Int}{m:AV}{p:Int->Bool}{n:AH->Prop}(k:Pr K m AG.bh p a n){h:AH}(r:n h)(w:a.length<1000000):
  Ret K (137) [.eI a,m] h λv _=>∃i:Int,v=.I i/\decide (0<=i)=a.any p:=by
 refine kK cf239 (ae (eQ a h) (ae (k.can h) (aH _))) ?_;simp only[A_];simp only[go_sem];refine bo (I239 a m p h) a.length o_ ⟨_,0,z_ _,rfl,HK.refl h,k_,k_,k_,y_,by simp⟩ ?_;rintro j x H ⟨tm,i,hi,rfl,hk,t0,q,o,l,g⟩;simp only[go_sem,o,l];refine aU (λc=>?_) (λu=>?_)
 ·have c:i<a.length:=o_;have b:=a_ c;have⟨t,e,d⟩:=k.run _ (List.getElem_mem c) H (k.up _ _ r hk);have s:=aP i o_;simp only[AG.bh]at e;simp only[go_sem,t0,q,l,b,e];cases f:p a[i] with
  |true=>
   simp only[go_sem];exact⟨rfl,rfl,.inr rfl,[.I (i:Int)],by simp only[go_sem],.I (i:Int),t,cv_ (aL _ _ _),⟨_,rfl,by rw[qt b f];exact t_⟩,hk.trans d⟩
  |false=>
   simp only[go_sem,l,s];exact⟨j-1,o_,_,i+1,o_,rfl,hk.trans d,q_ t0,q_ q,q_ o,k_,kV b g f⟩
 have f:i=a.length:=o_;subst f;simp only[go_sem];rw[K_]at g;exact⟨rfl,rfl,.inr rfl,[.I (-1)],by simp only[go_sem],.I (-1),H,cv_ (aL _ _ _),⟨_,rfl,by rw[g];rfl⟩,hk⟩
def c193 [RunsM K]{a:List Int}{d:AV}{p:Int->Bool}{b:AH->Prop}(c:Pr K d AG.bh p a b){h:AH}(g:b h)(f:a.length<1000000):
  Ret K (94) [.eI a,d] h λv _=>v=.bool (a.any p):=by
 refine kK cf193 (ae (eQ a h) (ae (c.can h) (aH _))) ?_;simp only[A_];obtain⟨_,_,e,⟨_,rfl,hi⟩,hk⟩:=c239 c g f;simp only[go_sem,e];rw[hi];exact Fr ⟨rfl,hk⟩
def I159 (a:List LV)(d:AV)(p:LV->Bool)(b:AH)(j:Nat)(c:AF)(h:AH):Prop:=∃tm i,i+j=a.length/\c=F_ 162 tm/\HK b h/\nth tm 0=.eV a/\nth tm 1=d/\nth tm 7=.I (a.length:Int)/\nth tm 8=.I (i:Int)/\(a.take i).any p=false
def c159 [RunsM K]{a:List LV}{m:AV}{p:LV->Bool}{n:AH->Prop}(k:Pr K m cQ p a n){h:AH}(r:n h)(w:a.length<1000000):
  Ret K (162) [.eV a,m] h λv _=>∃i:Int,v=.I i/\decide (0<=i)=a.any p:=by
 refine kK cf159 (ae (Vi a h) (ae (k.can h) (aH _))) ?_;simp only[A_];simp only[go_sem];refine bo (I159 a m p h) a.length o_ ⟨_,0,z_ _,rfl,HK.refl h,k_,k_,k_,y_,by simp⟩ ?_;rintro j x H ⟨tm,i,hi,rfl,hk,t0,q,o,l,g⟩;simp only[go_sem,o,l];refine aU (λc=>?_) (λu=>?_)
 ·have c:i<a.length:=o_;have b:=a_ c;have⟨t,e,d⟩:=k.run _ (List.getElem_mem c) H (k.up _ _ r hk);have s:=aP i o_;simp only[go_sem,t0,q,l,b,e];cases f:p a[i] with
  |true=>
   simp only[go_sem];exact⟨rfl,rfl,.inr rfl,[.I (i:Int)],by simp only[go_sem],.I (i:Int),t,cv_ (aL _ _ _),⟨_,rfl,by rw[qt b f];exact t_⟩,hk.trans d⟩
  |false=>
   simp only[go_sem,l,s];exact⟨j-1,o_,_,i+1,o_,rfl,hk.trans d,q_ t0,q_ q,q_ o,k_,kV b g f⟩
 have f:i=a.length:=o_;subst f;simp only[go_sem];rw[K_]at g;exact⟨rfl,rfl,.inr rfl,[.I (-1)],by simp only[go_sem],.I (-1),H,cv_ (aL _ _ _),⟨_,rfl,by rw[g];rfl⟩,hk⟩
def c109 [RunsM K]{a:List LV}{d:AV}{p:LV->Bool}{b:AH->Prop}(c:Pr K d cQ p a b){h:AH}(g:b h)(f:a.length<1000000):
  Ret K (121) [.eV a,d] h λv _=>v=.bool (a.any p):=by
 refine kK cf109 (ae (Vi a h) (ae (c.can h) (aH _))) ?_;simp only[A_];obtain⟨_,_,e,⟨_,rfl,hi⟩,hk⟩:=c159 c g f;simp only[go_sem,e];rw[hi];exact Fr ⟨rfl,hk⟩
def I68 (a:List LL)(d:AV)(p:LL->Bool)(b:AH)(j:Nat)(c:AF)(h:AH):Prop:=∃tm i,i+j=a.length/\c=F_ 124 tm/\HK b h/\nth tm 0=.eL a/\nth tm 1=d/\nth tm 7=.I (a.length:Int)/\nth tm 8=.I (i:Int)/\(a.take i).any p=false
def c68 [RunsM K]{a:List LL}{m:AV}{p:LL->Bool}{n:AH->Prop}(k:Pr K m cB p a n){h:AH}(r:n h)(w:a.length<1000000):
  Ret K (124) [.eL a,m] h λv _=>∃i:Int,v=.I i/\decide (0<=i)=a.any p:=by
 refine kK cf68 (ae (KJ a h) (ae (k.can h) (aH _))) ?_;simp only[A_];simp only[go_sem];refine bo (I68 a m p h) a.length o_ ⟨_,0,z_ _,rfl,HK.refl h,k_,k_,k_,y_,by simp⟩ ?_;rintro j x H ⟨tm,i,hi,rfl,hk,t0,q,o,l,g⟩;simp only[go_sem,o,l];refine aU (λc=>?_) (λu=>?_)
 ·have c:i<a.length:=o_;have b:=a_ c;have⟨t,e,d⟩:=k.run _ (List.getElem_mem c) H (k.up _ _ r hk);have s:=aP i o_;simp only[go_sem,t0,q,l,b,e];cases f:p a[i] with
  |true=>
   simp only[go_sem];exact⟨rfl,rfl,.inr rfl,[.I (i:Int)],by simp only[go_sem],.I (i:Int),t,cv_ (aL _ _ _),⟨_,rfl,by rw[qt b f];exact t_⟩,hk.trans d⟩
  |false=>
   simp only[go_sem,l,s];exact⟨j-1,o_,_,i+1,o_,rfl,hk.trans d,q_ t0,q_ q,q_ o,k_,kV b g f⟩
 have f:i=a.length:=o_;subst f;simp only[go_sem];rw[K_]at g;exact⟨rfl,rfl,.inr rfl,[.I (-1)],by simp only[go_sem],.I (-1),H,cv_ (aL _ _ _),⟨_,rfl,by rw[g];rfl⟩,hk⟩
def c25 [RunsM K]{a:List LL}{d:AV}{p:LL->Bool}{b:AH->Prop}(c:Pr K d cB p a b){h:AH}(g:b h)(f:a.length<1000000):
  Ret K (82) [.eL a,d] h λv _=>v=.bool (a.any p):=by
 refine kK cf25 (ae (KJ a h) (ae (c.can h) (aH _))) ?_;simp only[A_];obtain⟨_,_,e,⟨_,rfl,hi⟩,hk⟩:=c68 c g f;simp only[go_sem,e];rw[hi];exact Fr ⟨rfl,hk⟩
end
def Gf (l:LL):Bool:=l.V.any λx=>decide (l.c<=x.P)
def VL.cov0 {l:LL}(h:VL l)(a:0<l.c):Gf l=false:=by
 unfold Gf;rw[List.any_eq_false];intro x hx;have⟨i,hi⟩:=J_ hx;have:=h.cov a i x hi;simp;omega
def can_V (x:LV)(h:AH):cw (cQ x) h=(cQ x,h):=by rw[bQ (wK x),sL]
instance (x:LV):Can (cQ x) (cQ x):=⟨can_V x⟩
@[go_sem] def cells_lv:(∀l:LL,(cB l).cells=[.I l.c,.eV l.V])/\∀x:LV,(cQ x).cells=[.I x.X,.I x.P]:=⟨λ_=>rfl,λ_=>rfl⟩
section
variable {K:aN}{h:AH}
def mZ (l:LL):AV.agg [.I l.c,.eV l.V]=cB l:=rfl
def c238 [RunsM K]{k:Nat}{l:LL}(x:LV)(g:h.get k=some (.box [.I l.c,.eV l.V]))(hk:k<h.z):
  ∃v a,cS K (.fn 193 [] [.P k]) [cQ x] .no h=some (.ret v,.no,a)/\v=.bool (decide (l.c<=x.P))/\HK h a:=by
 refine zN cf238 ?_;have b:=(aM (x:=.box [.I x.X,.I x.P]) (show k≠h.z by omega)).trans g;simp only[go_sem,b];exact⟨rfl,rfl,.inr rfl,[_],k_,_,_,cv_ (bp _ _),rfl,HK.new _ _⟩
def c192 [RunsM K](l:LL)(o:l.V.length<1000000):
  Ret K (161) [cB l] h λv _=>v=.bool (Gf l):=by
 refine aV cf192 ?_;have⟨_,i,j,_,g⟩:=nw h (.box [.I l.c,.eV l.V]);have m:Pr K (.fn 193 [] [.P h.z]) cQ (λx=>decide (l.c<=x.P)) l.V (λf=>f.get h.z=some (.box [.I l.c,.eV l.V])/\h.z<f.z):=
  ⟨λa b ⟨c,d⟩ k=>⟨(k.kw _ d).trans c,by have:=k.z;omega⟩,λx _ f ⟨c,d⟩=>by obtain⟨v,p,e,rfl,hk⟩:=c238 x c d;exact⟨p,e,hk⟩,λh=>by rw[jd];simp[AV.norms];rfl⟩
 obtain⟨_,_,e,rfl,n⟩:=c109 m ⟨g,o_⟩ o;simp only[go_sem];rw[<-i];clear i;simp only[go_sem,e];exact Fr ⟨rfl,j.trans n⟩
def I135 (l:LL)(b:Nat)(a:AH)(j:Nat)(c:AF)(h:AH):Prop:=∃tm p,p+j=l.V.length/\c=F_ 120 tm/\HK a h/\b<h.z/\h.get b=some (.box [.I l.c,.eV l.V])/\
  nth tm 1=.P b/\nth tm 23=.eV l.V/\nth tm 24=.I (l.V.length:Int)/\nth tm 25=.I (p:Int)
def agR [RunsM K]{l:LL}(r:VL l)(W:l.V.length<1000000):
  Ret K (120) [cB l] h λv _=>v=.bool true:=by
 refine aV cf135 ?_;have⟨H,M,N,_,t⟩:=nw h (.box [.I l.c,.eV l.V]);have c0:=r.c0;have c1:=r.c1;have J:decide (l.c<0)=false:=d_;have P:decide (l.c > 100)=false:=d_;have c:∀(tm:Tm) (f:AH),HK h f->h.z<f.z->f.get h.z=some (.box [.I l.c,.eV l.V])->nth tm 1=.P h.z->
   R_ K [.code Ko] (Fin agH λV X=>V=.bool true/\HK h X) .normal (F_ 120 tm) f:=by
  intro tm f D y o k;simp only[go_sem,Ko,k,o];refine bo (I135 l h.z h) l.V.length o_ ⟨_,0,z_ _,rfl,D,y,o,q_ k,k_,k_,y_⟩ ?_;rintro j fr T ⟨tm,p,Z,rfl,e,u,x,k,g,i,b⟩;simp only[go_sem,i,b];refine aU (λs=>?_) (λY=>?_)
  ·have s:p<l.V.length:=o_;have a:=a_ s;have L:=aP p o_;have⟨_,_,_,_⟩:=r.rng _ _ a;have n:decide (l.V[p].X < -65536)=false:=d_;have Q:decide (l.V[p].X > 7)=false:=d_;have O:decide (l.V[p].P<0)=false:=d_;have I:decide (l.V[p].P > 100)=false:=d_;have⟨_,m,B,_,G⟩:=ns T (.box [.I 0,.I 0]) (.box [.I l.V[p].X,.I l.V[p].P]);have d:=(B.kw _ u).trans x;have S:cQ l.V[p]=.agg [.I l.V[p].X,.I l.V[p].P]:=rfl;simp only[go_sem,g,b,a,S];rw[<-m];clear m;cases p with
   |zero=>
    have z:decide (((0:Nat):Int) > 0)=false:=by simp
    simp only[go_sem,G,n,Q,O,I,z,L,b];exact⟨j-1,o_,_,1,o_,rfl,e.trans B,o_,d,q_ k,q_ g,q_ i,k_⟩
   |succ p=>
    have q:l.V[p]?=some l.V[p]:=a_ o_;have A:cQ l.V[p]=.agg [.I l.V[p].X,.I l.V[p].P]:=rfl;have F:IntKind.wrap .i64 (((p+1:Nat):Int)-1)=(p:Int):=by rw[aW _ o_ o_];omega
    have z:decide (((p+1:Nat):Int) > 0)=true:=t_;have ho:=r.ord p _ _ q a;have U:decide (l.V[p].X>=l.V[p+1].X)=false:=d_;simp only[go_sem,G,d,n,Q,O,I,U,z,L,F,q,A,k,b];exact⟨j-1,o_,_,p+1+1,o_,rfl,e.trans B,o_,d,q_ k,q_ g,q_ i,k_⟩
  simp only[go_sem];exact⟨rfl,rfl,.inr rfl,[_],k_,_,_,cv_ (bp _ _),rfl,e⟩
 simp only[go_sem];rw[<-M];clear M;by_cases w:0<l.c
 ·have E:=T_ w;obtain⟨_,f,n,rfl,C⟩:=c192 (h:=H) l W;rw[r.cov0 w]at n;have nx:=C.z;simp only[go_sem,t,J,P,E,mZ,n];exact c _ f (N.trans C) o_ (C.up t) k_
 have E:=D_ w;simp only[go_sem,t,J,P,E];exact c _ H N o_ t k_
end
abbrev Es:=List (Int×Int)
def mpE (L:Es):List (AV×AV):=mpg AG.bh AG.bh L
def jk (L:Es)(k p:Int):Es:=match lkg L k with
 |some o=>if o<p then stg L k p else L
 |none=>stg L k p
def DC (L:Es)(a:List LV)(n:Int):Es:=a.foldl (λL x=>jk L x.X (x.P+n)) L
def fA (L:Es):List Int:=(L.map (·.1)).mergeSort λx y=>decide (x<=y)
def lvs (L:Es)(l:List Int):List LV:=l.map λi=>⟨i,(lkg L i).getD 0⟩
structure GE (L:Es):Prop where
 nd:(L.map (·.1)).Nodup
 kr:∀e∈L,-65536<=e.1/\e.1<=7
 pr:∀e∈L,0<=e.2/\e.2<=200
def GE.nil:GE []:=⟨by simp,by simp,by simp⟩
theorem RH {L:Es}(k v:Int):(stg L k v).map (·.1)=if k∈L.map (·.1) then L.map (·.1) else L.map (·.1)++[k]:=by
 induction L with
 |nil=>simp[stg]
 |cons e L a=>
  grind [stg]
theorem GE.stg {L:Es}(g:GE L){k v:Int}(hk : -65536<=k/\k<=7)(b:0<=v/\v<=200):GE (stg L k v):=by
 refine⟨?_,λe a=>?_,λe a=>?_⟩
 ·rw[RH];split
  ·exact g.nd
  rename_i q;rw[List.nodup_append];exact⟨g.nd,by simp,g_⟩
 ·rcases stg_mem a with rfl|a
  ·omega
  exact g.kr e a
 rcases stg_mem a with rfl|a
 ·omega
 exact g.pr e a
def GE.raise {L:Es}(g:GE L){k v:Int}(hk : -65536<=k/\k<=7)(a:0<=v/\v<=200):GE (jk L k v):=by
 unfold jk;split
 ·split
  ·exact g.stg hk a
  omega
 exact g.stg hk a
theorem GE.add {n:Int}(c:0<=n/\n<=100):∀(a:List LV) {L:Es},GE L->(∀x∈a,Rng x)->GE (DC L a n)
 |[],_,g,_=>g
 |x::a,L,g,h=>by
  have⟨d,b,_,_⟩:=h x (by simp);exact GE.add c a (g.raise (k:=x.X) (v:=x.P+n) ⟨d,b⟩ ⟨o_,o_⟩) λy e=>h y (by simp[e])
def MS:∀(n:Nat) (lo:Int) (l:List Int),l.Nodup->(∀x∈l,lo<=x/\x<lo+n)->l.length<=n
 |0,lo,l,_,h=>by
  cases l with
  |nil=>simp
  |cons x l=>have:=h x (by simp);omega
 |n+1,lo,l,a,h=>by
  have b:=MS n lo (l.erase (lo+n)) g_ g_;grind
def GE.few {L:Es}(g:GE L):L.length<=65544:=by
 have:=MS 65544 (-65536) (L.map (·.1)) g.nd λx hx=>by
  obtain⟨e,a,rfl⟩:=List.mem_map.1 hx;have:=g.kr e a;omega
 grind
def VL.idx_le {l:LL}(h:VL l):∀(d i:Nat) x y,l.V[i]?=some x->l.V[i+d]?=some y->x.X+d<=y.X
 |0,i,x,y,e,c=>by rw[Nat.add_zero,e]at c;cases c;omega
 |d+1,i,x,y,e,c=>by
  have g:i+d<l.V.length:=by have:=(E_.1 c).1;omega
  have f:l.V[i+d]?=some l.V[i+d]:=g_;have a:=VL.idx_le h d i x _ e f;have b:=h.ord (i+d) _ y f (by rw[<-c];rfl);omega
theorem VL.len {l:LL}(h:VL l):l.V.length<=65544:=by
 by_cases e:l.V.length=0
 ·omega
 have c:l.V[0]?=some l.V[0]:=g_;have d:l.V[0+(l.V.length-1)]?=some l.V[l.V.length-1]:=by grind
 have:=h.idx_le _ _ _ _ c d;have⟨_,_⟩:=h.rng _ _ c;have⟨_,_,_⟩:=h.rng _ _ d;omega
section
variable {K:aN}{h:AH}
def PI (k:Nat)(h:AH):cw (.map k) h=(.map k,h):=rfl
instance (k:Nat):Can (.map k) (.map k):=⟨PI k⟩
def c166 [RunsM K]{b:Nat}{L:Es}(i p:Int)(hm:h.get b=some (.map (mpE L))):
  Rt K (209) [.map b,.I i,.I p] h λv d=>v=.tup []/\d.get b=some (.map (mpE (jk L i p)))/\d.z=h.z/\∀k,k≠b->d.get k=h.get k:=by
 refine aV cf166 ?_;have e:∀z,iq h 1 z true (.map b) (.I i)=_:=λz=>ki (kf:=AG.bh) (t:=1) AG.bh dw hm i z true;have a:iR h 1 (.map b) (.I i) (.I p)=_:=lS (kf:=AG.bh) (t:=1) AG.bh dw hm i p;simp only[go_sem,e];cases j:lkg L i with
 |none=>
  have c:jk L i p=stg L i p:=by grind [jk]
  simp only[go_sem,a];refine⟨rfl,rfl,g_,[],rfl,.tup [],_,bF (aH _),rfl,by rw[c,aF];rfl,aE _ _ _,λk hk=>aA hk⟩
 |some o=>
  simp only[go_sem,AG.bh];refine aU (λf=>?_) (λg=>?_)
  ·have c:jk L i p=stg L i p:=by grind [jk]
   simp only[go_sem,a];exact⟨rfl,rfl,g_,[],rfl,.tup [],_,bF (aH _),rfl,by rw[c,aF];rfl,aE _ _ _,λk hk=>aA hk⟩
  have c:jk L i p=L:=by grind [jk]
  simp only[go_sem];exact⟨rfl,rfl,g_,[],rfl,.tup [],_,bF (aH _),rfl,by grind,rfl,g_⟩
structure Sx (b km:Nat)(h0 h:AH)(c:Int)(L:Es):Prop where
 gb:h.get b=some (.box [.map km,.I c])
 gm:h.get km=some (.map (mpE L))
 nb:b<h.z
 nk:km<h.z
 ne:b≠km
 lb:h0.z<=b
 lk:h0.z<=km
 hk:HK h0 h
def Sx.up {b e:Nat}{a h d:AH}{c:Int}{L:Es}(s:Sx b e a h c L)(k:HK h d):Sx b e a d c L:=
 ⟨(k.kw _ s.nb).trans s.gb,(k.kw _ s.nk).trans s.gm,by have:=k.z;have:=s.nb;omega,by have:=k.z;have:=s.nk;omega,s.ne,s.lb,s.lk,s.hk.trans k⟩
def Sx.raise {b d:Nat}{e h a:AH}{c:Int}{L:Es}(s:Sx b d e h c L){f:Es}(i:a.get d=some (.map (mpE f)))(nx:a.z=h.z)(g:∀k,k≠d->a.get k=h.get k):Sx b d e a c f:=
 ⟨(g _ s.ne).trans s.gb,i,by rw[nx];exact s.nb,by rw[nx];exact s.nk,s.ne,s.lb,s.lk,⟨by rw[nx];exact s.hk.z,λk hk=>(g _ (by have:=s.lk;omega)).trans (s.hk.kw k hk)⟩⟩
def Sx.cst {b a:Nat}{d h:AH}{c:Int}{L:Es}(s:Sx b a d h c L)(e:Int):Sx b a d (h.set b (.box [.map a,.I e])) e L:=
 ⟨aF _ _ _,by rw[aA s.ne.symm];exact s.gm,by exact s.nb,by exact s.nk,s.ne,s.lb,s.lk,s.hk.set _ s.lb⟩
def c164 [RunsM K]:
  Rt K (208) [] h λv a=>∃b c,v=.P b/\Sx b c h a 0 []:=by
 refine aV cf164 ?_;simp only[go_sem,aB];refine⟨rfl,rfl,g_,[.P (h.z+1)],k_,.P (h.z+1),(h.new (.map [])).new (.box [.map h.z,.I 0]),cv_ (bS _ _ _ _),h.z+1,h.z,rfl,?_⟩;have n1:=aB h (.map []);exact⟨by grind [aD],by rw[aM o_,aD];rfl,by rw[aB,n1];omega,by rw[aB,n1];omega,o_,o_,o_,(HK.new _ _).add _⟩
def I165 (b e:Nat)(d:AH)(c:Int)(L:Es)(a:List LV)(n:Int)(j:Nat)(f:AF)(h:AH):Prop:=∃tm p,p+j=a.length/\f=F_ 210 tm/\Sx b e d h c (DC L (a.take p) n)/\
 nth tm 0=.P b/\nth tm 2=.I n/\nth tm 21=.eV a/\nth tm 22=.I (a.length:Int)/\nth tm 23=.I (p:Int)
def PZ {L:Es}{a:List LV}{n:Int}{p:Nat}{x:LV}(e:a[p]?=some x):DC L (a.take (p+1)) n=jk (DC L (a.take p) n) x.X (x.P+n):=by
 rw[Z_,e,Option.toList_some];unfold DC;rw[List.foldl_append];rfl
def c165 [RunsM K]{b k:Nat}{y:AH}{c:Int}{L:Es}(s:Sx b k y h c L){q:LL}(l:VL q){n:Int}(hn:0<=n/\n<=100):
  Rt K (210) [.P b,cB q,.I n] h λv U=>v=.tup []/\Sx b k y U (max c (q.c+n)) (DC L q.V n):=by
 refine aV cf165 ?_;obtain⟨H,R,S,_,I⟩:=nw h (.box [.I q.c,.eV q.V]);have G:=s.up S;have M:=G.gb;have O:=l.len;have Q:=aW (q.c+n) (by have:=l.c0;omega) (by have:=l.c1;omega);simp only[go_sem];rw[<-R];have F:=G.cst (max c (q.c+n));obtain⟨u,i⟩:∃u:AH,u=H.set b (.box [.map k,.I (max c (q.c+n))]):=⟨_,rfl⟩;have z:u.get h.z=some (.box [.I q.c,.eV q.V]):=by grind [aA]
 rw[<-i]at F;simp only[go_sem,M,I,Q];rw[<-i];simp only[go_sem,z];refine bo (I165 b k y (max c (q.c+n)) L q.V n) q.V.length o_ ⟨_,0,o_,rfl,F,k_,k_,k_,k_,y_⟩ ?_;rintro j fr E ⟨tm,p,X,rfl,w,t0,D,f,g,d⟩;simp only[go_sem,g,d];refine aU (λV=>?_) (λW=>?_)
 ·have a:q.V[p]?=some q.V[p]:=g_;have x:=aP p o_;obtain⟨r1,r2,r3,Y⟩:=l.rng _ _ o_;have C:=aW (q.V[p].P+n) o_ o_;have N:cQ q.V[p]=.agg [.I q.V[p].X,.I q.V[p].P]:=rfl;obtain⟨Z,e,T,_,J⟩:=ns E (.box [.I 0,.I 0]) (.box [.I q.V[p].X,.I q.V[p].P]);have B:=w.up T;have m:=B.gb;obtain⟨v,H4,P,rfl,A,t,r⟩:=c166 (L:=DC L (q.V.take p) n) q.V[p].X (q.V[p].P+n) B.gm;simp only[go_sem,f,d,a,N];rw[<-e];clear e;simp only[go_sem,t0,D,m,J,C,P,d,x];refine⟨j-1,o_,_,p+1,o_,rfl,?_,q_ t0,q_ D,q_ f,q_ g,k_⟩;rw[PZ a];exact B.raise A t r
 have o:p=q.V.length:=o_;subst o;rw[K_]at w;simp only[go_sem];exact⟨rfl,rfl,g_,[],rfl,.tup [],E,bF (aH _),rfl,w⟩
end
def Qo (l:LL):Bool:=l.V.any λx=>decide (100<x.P)
def Im (l:LL):Option LL:=if Qo l then none else if 100<l.c then none else some ⟨if Gf l then 0 else l.c,l.V⟩
def Qg (r:Option LL)(v:AV):Prop:=match r with
 |none=>∃e:Int,e≠0/\v=.tup [cB ⟨0,[]⟩,.I e]
 |some l=>v=.tup [cB l,.I 0]
def iY (a:List LL)(s:Int×Es)(x:LV):Int×Es:=if x.X<0 then (s.1,jk s.2 x.X x.P) else match a[x.X.toNat]? with
 |some q=>(max s.1 (q.c+x.P),DC s.2 q.V x.P)
 |none=>s
def Qj (s:Int×Es):Option LL:=Im ⟨s.1,lvs s.2 (fA s.2)⟩
def gX (l:LL):Int:=match l.V[l.V.length-1]? with
 |none=>0
 |some x=>max 0 (x.X+1)
def jM (l:LL)(a:List LL):Option LL:=if (a.length:Int)<gX l then none else Qj (l.V.foldl (iY a) (l.c,[]))
class KS (K:outParam aN):Prop where
 srt:∀(H:AH) (kb km:Nat) (L:Es),H.get kb=some (.box [.map km])->H.get km=some (.map (mpE L))->L.length<70000->(L.map (·.1)).Nodup->(∀e∈L,-65536<=e.1/\e.1<=7)->K (.fn 221 [] []) [.fn 234 [] [.P kb]] .no H=some (.ret (.eI (fA L)),.no,H)
def xQ (h:AH):cw (.agg [.I 0,.nl]) h=(cB ⟨0,[]⟩,h):=by
 rw[bQ (by simp[AV.free,AV.frees])];simp[AV.norm,AV.norms,cB]
def KQ (c:Int)(h:AH):cw (.agg [.I c,.nl]) h=(cB ⟨c,[]⟩,h):=by
 rw[bQ (by simp[AV.free,AV.frees])];simp[AV.norm,AV.norms,cB]
section
variable {K:aN}{h:AH}
def I199 (l:LL)(b:Nat)(a:AH)(j:Nat)(c:AF)(h:AH):Prop:=∃tm p,p+j=l.V.length/\c=F_ 223 tm/\HK a h/\b+1<h.z/\h.get b=some (.box [.I l.c,.eV l.V])/\h.get (b+1)=some (.box [.I 0,.nl])/\
  nth tm 1=.P b/\nth tm 2=.P (b+1)/\nth tm 7=.eV l.V/\nth tm 8=.I (l.V.length:Int)/\nth tm 9=.I (p:Int)/\(l.V.take p).any (λx=>decide (100<x.P))=false
def c199 [RunsM K](l:LL)(O:l.V.length<1000000):
  Ret K (223) [cB l] h λv _=>Qg (Im l) v:=by
 refine aV cf199 ?_;have⟨H,k⟩:∃H:AH,H=(h.new (.box [.I l.c,.eV l.V])).new (.box [.I 0,.nl]):=⟨_,rfl⟩;have n1:=aB h (.box [.I l.c,.eV l.V]);have T:HK h H:=by rw[k];exact(HK.new _ _).add _
 have E:H.get h.z=some (.box [.I l.c,.eV l.V]):=by rw[k,aM o_,aD]
 have U:H.get (h.z+1)=some (.box [.I 0,.nl]):=by rw[k,<-n1,aD]
 have Y:H.z=h.z+2:=by rw[k,aB,n1]
 unfold b199;simp only[go_sem,n1];rw[<-k];clear k;simp only[go_sem,Uw,E];refine bo (I199 l h.z h) l.V.length o_ ⟨_,0,z_ _,rfl,T,o_,E,U,k_,k_,k_,k_,y_,by simp⟩ ?_;rintro j X G ⟨tm,p,Z,rfl,e,Q,g,i,r,f,F,I,D,d⟩;unfold Vx;simp only[go_sem,I,D,Uz];refine aU (λs=>?_) (λV=>?_)
 ·have s:p<l.V.length:=o_;have c:=a_ s;have S:=aP p o_;have J:cQ l.V[p]=.agg [.I l.V[p].X,.I l.V[p].P]:=rfl;have⟨_,u,q,_,R⟩:=ns G (.box [.I 0,.I 0]) (.box [.I l.V[p].X,.I l.V[p].P]);have N:=q.z;have z:=q.up g;have n:=q.up i;simp only[go_sem,UA,F,D,c,J];rw[<-u];clear u;simp only[go_sem,UB,R];refine aU (λb=>?_) (λb=>?_)
  ·simp only[go_sem,f,n];have x:Qo l=true:=qt c (T_ b);refine⟨rfl,rfl,.inr rfl,[.agg [.I 0,.nl],.I 15],?_,.tup [cB ⟨0,[]⟩,.I 15],_,bF (ae (xQ _) (ae (aL _ _ _) (aH _))),?_,(e.trans q).set _ o_⟩
   ·simp only[go_sem,f]
   unfold Im;rw[P_ x];exact⟨15,by decide,rfl⟩
  simp only[go_sem,D,S];exact⟨j-1,o_,_,p+1,o_,rfl,e.trans q,o_,z,n,q_ r,q_ f,q_ F,q_ I,k_,kV c d (D_ b)⟩
 have B:p=l.V.length:=o_;subst B;rw[K_]at d;have x:Qo l=false:=d;simp only[go_sem,Ux,r,g];refine aU (λA=>?_) (λA=>?_)
 ·simp only[go_sem,f,i];refine⟨rfl,rfl,.inr rfl,[.agg [.I 0,.nl],.I 15],?_,.tup [cB ⟨0,[]⟩,.I 15],_,bF (ae (xQ _) (ae (aL _ _ _) (aH _))),?_,e.set _ o_⟩
  ·simp only[go_sem,f]
  unfold Im;rw[x,N_ (by decide),P_ A];exact⟨15,by decide,rfl⟩
 obtain⟨_,P,L,rfl,y⟩:=c192 (h:=G) l O;have M:=y.z;have w:=y.up g;have o:=y.up i;have m:=e.trans y;have a:Im l=some ⟨if Gf l then 0 else l.c,l.V⟩:=by unfold Im;rw[x,N_ (by decide),N_ A]
 simp only[go_sem,Uy,r,g,mZ,L];cases t:Gf l with
 |true=>
  rw[t]at a;have C:(P.set h.z (.box [.I 0,.eV l.V])).get (h.z+1)=some (.box [.I 0,.nl]):=(aA o_).trans o;simp only[go_sem,w,Kn,r,f,C];refine⟨rfl,rfl,.inr rfl,[cB ⟨0,l.V⟩,.I 0],?_,.tup [cB ⟨0,l.V⟩,.I 0],_,bF (ae (rB _ _) (ae (aL _ _ _) (aH _))),?_,(m.set _ o_).set _ o_⟩
  ·simp only[go_sem,f];rfl
  rw[a];rfl
 |false=>
  rw[t]at a;simp only[go_sem,w,o,Kn,r,f];refine⟨rfl,rfl,.inr rfl,[cB l,.I 0],?_,.tup [cB l,.I 0],_,bF (ae (rB _ _) (ae (aL _ _ _) (aH _))),?_,m.set _ o_⟩
  ·simp only[go_sem,f];rfl
  rw[a];rfl
def c210 [RunsM K](a:Nat):
  Rt K (222) [.map a] h λv c=>v=.fn 234 [] [.P h.z]/\c=h.new (.box [.map a]):=by
 refine aV cf210 ?_;have b:∀H:AH,uk H 1 (.map a)=.val (.P H.z) (H.new (.box [.map a])):=λH=>(rfl);simp only[go_sem,b];exact⟨rfl,rfl,.inr rfl,[.fn 234 [] [.P h.z]],k_,.fn 234 [] [.P h.z],_,cv_ (by show cw (.fn 234 [] [.P h.z]) _=_;rw[jd];simp[AV.norms];rfl),rfl,rfl⟩
theorem AK {b:Nat}{H:AH}{V:AV}{c:Int}{a:List LV}(o:Own b 2 true H V (a.map cQ)):
  ∃d,cw (.agg [.I c,V]) H=(cB ⟨c,a⟩,d)/\d.z=H.z/\∀k,k<b->d.get k=H.get k:=by
 rcases iT o (λe=>by cases e) with⟨rfl,e,_⟩|⟨k,g,f,h,j,l⟩
 ·rw[List.map_eq_nil_iff]at e;subst e;exact⟨H,KQ c H,rfl,λ_ _=>rfl⟩
 subst f;refine⟨H.set k (.row g 2 true (bJ (a.map cQ)) ((a.map cQ).length*2)),?_,aE _ _ _,λm hk=>aA o_⟩;show((AV.agg (cL _ H).1).norm,(cL _ H).2)=_;have i:cL [.I c,.row k g 2 0 (a.map cQ).length] H=([.I c,.eV a],H.set k (.row g 2 true (bJ (a.map cQ)) ((a.map cQ).length*2))):=by
  show(_::(dM (.row k g 2 0 (a.map cQ).length) H).1 :: [],(dM (.row k g 2 0 (a.map cQ).length) H).2)=_;rw[h];rfl
 rw[i];simp[cB,AV.norm,AV.norms,bB sL]
def I167 (b _l e a:Nat)(f g:AH)(c:Int)(L:Es)(d:List Int)(j:Nat)(i:AF)(h:AH):Prop:=∃tm p V,p+j=d.length/\i=F_ 211 tm/\HK f h/\a<=h.z/\
 nth tm 0=.P b/\nth tm 2=.P f.z/\nth tm 4=.P e/\nth tm 17=.eI d/\nth tm 18=.I (d.length:Int)/\nth tm 19=.I (p:Int)/\
 h.get e=some (.box [.I c,V])/\Own a 2 true h V ((lvs L (d.take p)).map cQ)/\∀k,k<a->k≠e->h.get k=g.get k
def SP {L:Es}{a:List Int}{p:Nat}{z:Int}(e:a[p]?=some z):lvs L (a.take (p+1))=lvs L (a.take p)++[⟨z,(lkg L z).getD 0⟩]:=by
 rw[Z_,e,Option.toList_some];unfold lvs;rw[List.map_append];rfl
theorem ve:∀{L:Es} {i:Int},i∈L.map (·.1)->∃o,lkg L i=some o
 |[],_,h=>by simp at h
 |e::L,i,h=>by
  rw[lkg];by_cases q:i=e.1
  ·exact⟨_,P_ q⟩
  rw[N_ q];simp only[List.map_cons,X_]at h;exact ve (h.resolve_left q)
def c167 [RunsM K][ks:KS K]{b m:Nat}{h0:AH}{c:Int}{L:Es}(s:Sx b m h0 h c L)(S:GE L):
  Ret K (211) [.P b] h λv _=>Qg (Qj (c,L)) v:=by
 refine aV cf167 ?_;have nb:=s.nb;have nk:=s.nk;have gb:=s.gb;have few:=S.few;have⟨H,t⟩:∃H:AH,H=((h.new (.box [.I 0,.nl])).new (.box [.I 0,.nl])).set (h.z+1) (.box [.I c,.nl]):=⟨_,rfl⟩;have n1:=aB h (.box [.I 0,.nl]);have T:HK h H:=by rw[t];exact((HK.new _ _).add _).set _ o_
 have n0:H.z=h.z+2:=by rw[t,aE,aB,n1]
 have g2:H.get h.z=some (.box [.I 0,.nl]):=by rw[t,aA o_,aM o_,aD]
 have g4:H.get (h.z+1)=some (.box [.I c,.nl]):=by rw[t,aF]
 have y:=(T.kw _ nb).trans gb;have Z:=(aM (x:=.box [.I 0,.nl]) (show b≠h.z by omega)).trans gb;have gq:((h.new (.box [.I 0,.nl])).new (.box [.I 0,.nl])).get (h.z+1)=some (.box [.I 0,.nl]):=by rw[<-n1,aD]
 have s0:=s.up T;obtain⟨v,g,e1,rfl,a⟩:=c210 (h:=H) m;have u:HK H g:=by rw[a];exact HK.new _ _
 have N:g.get H.z=some (.box [.map m]):=by rw[a,aD]
 have C:=u.up s0.gm;have aa:=u.up g4;have O:=u.up g2;have n2:g.z=H.z+1:=by rw[a,aB]
 clear a;have e2:cS K (.fn 221 [] []) [.fn 234 [] [.P H.z]] .no g=some (.ret (.eI (fA L)),.no,g):=
  vz (ae (by rw[jd];simp[AV.norms];rfl) (aH _)) (ks.srt g H.z m L N C o_ S.nd S.kr) (cv_ (eQ _ _))
 have kl:(fA L).length<=65544:=by unfold fA;rw[List.length_mergeSort,L_];exact few
 have W:=T.trans u;simp only[go_sem,n1,Z,gq];rw[<-t];clear t;simp only[go_sem,y,e1,e2];refine bo (I167 b m (h.z+1) g.z h g c L (fA L)) (fA L).length o_ ⟨_,0,.nl,z_ _,rfl,W,e_ _,k_,k_,k_,k_,k_,y_,aa,cV _ _ _ _,λ_ _ _=>rfl⟩ ?_;rintro j fr H2 ⟨tm,p,V,hp,rfl,i,ab,t0,X,t4,z,D,x,l,q,E⟩;have P:=(E b o_ o_).trans (u.up y);have Y:=(E m o_ o_).trans C;simp only[go_sem,D,x];refine aU (λr=>?_) (λad=>?_)
 ·have r:p<(fA L).length:=o_;have f:=a_ r;have R:=aP p o_;have B:iq H2 1 (.I 0) false (.map m) (.I (fA L)[p])=_:=ki (kf:=AG.bh) (t:=1) AG.bh dw Y (fA L)[p] (.I 0) false;have⟨o,ho⟩:=ve (L:=L) (i:=(fA L)[p]) ((List.mergeSort_perm _ _).mem_iff.1 (List.getElem_mem r));have ll:(lvs L ((fA L).take p)).length<100000:=by unfold lvs;rw[L_,Y_];omega
  obtain⟨_,_,ea,d,M,n,_,_,_,rfl,_⟩:=eY (cQ ⟨(fA L)[p],o⟩) q;rw[ho]at B;unfold cQ at ea;have G:=(n _ o_).trans l;simp only[go_sem,t0,t4,z,x,f,l,P,B,AG.bh,cond_false,ea,G,R];refine⟨j-1,o_,_,p+1,_,o_,rfl,⟨by rw[aE];exact C_ i.z M,λk hk=>by rw[aA o_];exact(n k o_).trans (i.kw k hk)⟩,by rw[aE];omega,q_ t0,q_ X,q_ t4,q_ z,q_ D,k_,aF _ _ _,?_,λk q1 U=>(aA U).trans ((n k q1).trans (E k q1 U))⟩;rw[SP f,List.map_append,ho];rw[L_]at d;exact bP d (by rw[aE];exact e_ _) (λb q1 U=>aA o_)
 have F:p=(fA L).length:=o_;subst F;rw[K_]at q;have⟨H4,ec,_,A⟩:=AK (c:=c) q;have⟨v,H5,e5,ho,Q⟩:=c199 (h:=H4) ⟨c,lvs L (fA L)⟩ (by unfold lvs;rw[L_];omega);rw[<-dJ (f:=223) (c:=[]) (ae ec (aH _)) (ae (rB _ _) (aH _))]at e5;have J:=Q.up ((A h.z o_).trans ((E h.z o_ o_).trans O));have I:HK h H5:=⟨by have:=Q.z;omega,λk hk=>Q.up ((A k o_).trans (i.kw k hk))⟩;obtain⟨w,e,rfl⟩:∃w e,v=.tup [cB w,.I e]:=by
  unfold Qg at ho;split at ho
  ·obtain⟨e,_,rfl⟩:=ho;exact⟨_,_,rfl⟩
  exact⟨_,_,ho⟩
 simp only[go_sem,t4,l,e5,X];have R:cB w=.agg [.I w.c,.eV w.V]:=rfl;simp only[go_sem,R,J];refine⟨rfl,rfl,.inr rfl,[cB w,.I e],?_,.tup [cB w,.I e],_,bF (ae (rB _ _) (ae (aL _ _ _) (aH _))),ho,I.set _ (e_ _)⟩;simp only[go_sem,X];rfl
def c329 [RunsM K]{l:LL}(f:VL l):
  Ret K (207) [cB l] h λv _=>v=.I (gX l):=by
 refine aV cf329 ?_;have s:=f.len;have⟨H,g,i,_,j⟩:=nw h (.box [.I l.c,.eV l.V]);obtain⟨v,_,m,rfl,e⟩:=agR (h:=H) f o_;have n:=e.up j;simp only[go_sem];rw[<-g];clear g;simp only[go_sem,mZ,m];by_cases p:l.V.length=0
 ·have d:decide ((l.V.length:Int) > 0)=false:=d_;have b:gX l=0:=by unfold gX;rw[S_ o_]
  simp only[go_sem,d];exact Fr (v:=.I 0) ⟨by rw[b],i.trans e⟩
 have d:decide ((l.V.length:Int) > 0)=true:=t_;have a:l.V[l.V.length-1]?=some l.V[l.V.length-1]:=a_ o_;have o:IntKind.wrap .i64 ((l.V.length:Int)-1)=((l.V.length-1:Nat):Int):=by rw[aW _ o_ o_];omega
 have k:cQ l.V[l.V.length-1]=.agg [.I l.V[l.V.length-1].X,.I l.V[l.V.length-1].P]:=rfl;have⟨_,_,_,_⟩:=f.rng _ _ a;have c:=aW (l.V[l.V.length-1].X+1) o_ o_;have b:gX l=max 0 (l.V[l.V.length-1].X+1):=by unfold gX;rw[a]
 simp only[go_sem,d,n,o,a,k,c];exact Fr (v:=.I (max 0 (l.V[l.V.length-1].X+1))) ⟨by rw[b],i.trans e⟩
def c208 [RunsM K]{l:LL}(a:VL l):
  Ret K (220) [cB l] h λv _=>v=.bool false:=by
 refine aV cf208 ?_;obtain⟨_,_,b,rfl,c⟩:=agR (h:=h.new (.box [.I l.c,.eV l.V])) a (by have:=a.len;omega);simp only[go_sem,mZ,b];exact Fr ⟨rfl,(HK.new _ _).trans c⟩
def c163 [RunsM K]{ls:List LL}(g:∀l∈ls,VL l)(f:ls.length<1000000):
  Ret K (206) [.eL ls] h λv _=>v=.bool true:=by
 refine aV cf163 ?_;have c:Pr K (.fn 220 [] []) cB (λ_=>false) ls (λ_=>True):=
  ⟨λ_ _ _ _=>trivial,λx hx H _=>by obtain⟨v,i,e,rfl,hk⟩:=c208 (h:=H) (g x hx);exact⟨i,e,hk⟩,λh=>by rw[jd];rfl⟩
 obtain⟨_,_,a,rfl,d⟩:=c25 (h:=h) c trivial f;have b:(ls.any λ_=>false)=false:=by simp
 rw[b]at a;simp only[go_sem,a];exact Fr ⟨rfl,d⟩
end
def IV {ps:List LL}{a:List LV}{s:Int×Es}{p:Nat}{x:LV}(e:a[p]?=some x):(a.take (p+1)).foldl (iY ps) s=iY ps ((a.take p).foldl (iY ps) s) x:=by
 rw[Z_,e,Option.toList_some,List.foldl_append];rfl
def Em {l:LL}(a:VL l):∀x∈l.V,Rng x:=by
 intro x hx;have⟨i,hi⟩:=J_ hx;exact a.rng i x hi
theorem GE.step {a:List LL}(c:∀l∈a,VL l){s:Int×Es}(g:GE s.2){x:LV}(r:Rng x):GE (iY a s x).2:=by
 have⟨f,e,b,h⟩:=r;unfold iY;split
 ·exact g.raise ⟨f,e⟩ ⟨b,o_⟩
 split
 ·rename_i q d;exact GE.add ⟨b,h⟩ _ g (Em (c q (m_ d)))
 exact g
def GE.fold {b:List LL}(c:∀l∈b,VL l):∀(a:List LV) {s:Int×Es},GE s.2->(∀x∈a,Rng x)->GE (a.foldl (iY b) s).2
 |[],_,g,_=>g
 |x::a,s,g,h=>GE.fold c a (g.step c (h x (by simp))) λy d=>h y (by simp[d])
def VL.param {l:LL}(b:VL l){p:Nat}{x:LV}(e:l.V[p]?=some x):x.X+1<=gX l:=by
 have c:=(E_.1 e).1;have a:l.V[l.V.length-1]?=some l.V[l.V.length-1]:=a_ o_;have:=b.idx_le (l.V.length-1-p) p x l.V[l.V.length-1] e (by rw[show p+(l.V.length-1-p)=l.V.length-1 by omega];exact a);unfold gX;rw[a];simp only;omega
section
variable {K:aN}{h:AH}
def I328 (b d:Nat)(c:AH)(l:LL)(a:List LL)(e:Nat)(j:Nat)(f:AF)(h:AH):Prop:=∃tm p s,p+j=l.V.length/\f=F_ 181 tm/\s=(l.V.take p).foldl (iY a) (l.c,[])/\Sx b d c h s.1 s.2/\
 nth tm 1=.eL a/\nth tm 4=.P e/\nth tm 6=.P b/\nth tm 31=.eV l.V/\nth tm 32=.I (l.V.length:Int)/\nth tm 33=.I (p:Int)
def c328 [RunsM K][ks:KS K]{l:LL}(q:VL l){a:List LL}(vp:∀l∈a,VL l)(hl:a.length<1000000):
  Ret K (181) [cB l,.eL a] h λv _=>Qg (jM l a) v:=by
 refine aV cf328 ?_;have ag:=q.len;have⟨H,r⟩:∃H:AH,H=(h.new (.box [.I l.c,.eV l.V])).new (.box [.I 0,.nl]):=⟨_,rfl⟩;have n1:=aB h (.box [.I l.c,.eV l.V]);have k0:HK h H:=by rw[r];exact(HK.new _ _).add _
 have g2:H.get h.z=some (.box [.I l.c,.eV l.V]):=by rw[r,aM o_,aD]
 have g4:H.get (h.z+1)=some (.box [.I 0,.nl]):=by rw[r,<-n1,aD]
 have n0:H.z=h.z+2:=by rw[r,aB,n1]
 obtain⟨v,H1,e1,rfl,U⟩:=agR (h:=H) q o_;obtain⟨v,H2,e2,rfl,k2⟩:=c163 (h:=H1) vp hl;obtain⟨v,H3,e3,rfl,M⟩:=c329 (h:=H2) q;have ai:=U.z;have ah:=k2.z;have aj:=M.z;have i:=(U.trans k2).trans M;have Q:=(U.kw _ o_).trans g2;have B:=(k2.kw _ o_).trans Q;have Y:=(M.kw _ o_).trans B;have t:=(i.kw _ o_).trans g4;unfold b328;simp only[go_sem,n1];rw[<-r];clear r;simp only[go_sem,Ul,g2,B,mZ,e1,e2,Un,e3];refine aU (λhp=>?_) (λhp=>?_)
 ·simp only[go_sem,t];refine⟨rfl,rfl,.inr rfl,[.agg [.I 0,.nl],.I 24],k_,.tup [cB ⟨0,[]⟩,.I 24],_,bF (ae (xQ _) (ae (aL _ _ _) (aH _))),?_,(k0.trans i).set _ o_⟩;unfold jM;rw[P_ o_];exact⟨24,by decide,rfl⟩
 obtain⟨v,H4,e4,b,km,rfl,E⟩:=c164 (h:=H3);have k4:=E.hk;have A:=(k4.kw _ o_).trans Y;have J:=E.gb;have lb:=E.lb;have s5:=E.cst l.c;have⟨N,g⟩:∃N:AH,N=H4.set b (.box [.map km,.I l.c]):=⟨_,rfl⟩;have O:N.get h.z=some (.box [.I l.c,.eV l.V]):=by rw[g,aA o_];exact A
 rw[<-g]at s5;simp only[go_sem,Uo,e4,Uq,A,J];rw[<-g];clear g;simp only[go_sem,Ur,O];refine bo (I328 b km H3 l a (h.z+1)) l.V.length o_ ⟨_,0,_,z_ _,rfl,rfl,s5,k_,k_,k_,k_,k_,by simp only[go_sem];rfl⟩ ?_;rintro j fr H6 ⟨tm,p,s,af,rfl,hs,z,P,I,u,o,n,f⟩;unfold Vw;simp only[go_sem,n,f,Ut];have ge:GE s.2:=by rw[hs];exact GE.fold vp _ GE.nil λx hx=>Em q x (List.mem_of_mem_take hx)
 refine aU (λC=>?_) (λak=>?_)
 ·have C:p<l.V.length:=o_;have c:=a_ C;have D:=aP p o_;have ad:=q.param c;have⟨_,_,r3,r4⟩:=q.rng _ _ c;have hv:cQ l.V[p]=.agg [.I l.V[p].X,.I l.V[p].P]:=rfl;have m:=IV (ps:=a) (s:=(l.c,[])) c;rw[<-hs]at m;have⟨H7,y,G,_,V⟩:=ns H6 (.box [.I 0,.I 0]) (.box [.I l.V[p].X,.I l.V[p].P]);have F:=z.up G;have X:=F.gb;simp only[go_sem,Uu,o,f,c,hv];rw[<-y];clear y;simp only[go_sem,Uv,V];refine aU (λd=>?_) (λd=>?_)
  ·obtain⟨v,H8,e8,rfl,ab,S,L⟩:=c166 l.V[p].X l.V[p].P F.gm;have k:iY a s l.V[p]=(s.1,jk s.2 l.V[p].X l.V[p].P):=by unfold iY;rw[P_ d]
   simp only[go_sem,u,X,V,e8,f,D];refine⟨j-1,o_,_,p+1,_,o_,rfl,rfl,?_,q_ P,q_ I,q_ u,q_ o,q_ n,k_⟩;rw[m,k];exact F.raise ab S L
  have Z:l.V[p].X=((l.V[p].X.toNat:Nat):Int):=o_;have T:l.V[p].X.toNat<a.length:=o_;have hq:=a_ T;have W:bW (.eL a) 2 (.I l.V[p].X)=some (.vp (cB a[l.V[p].X.toNat])):=by
   have:=aR fj hq .i64;rwa[<-Z]at this
  obtain⟨v,_,e8,rfl,s8⟩:=c165 F (vp _ (m_ hq)) (n:=l.V[p].P) ⟨r3,r4⟩;have k:iY a s l.V[p]=(max s.1 (a[l.V[p].X.toNat].c+l.V[p].P),DC s.2 a[l.V[p].X.toNat].V l.V[p].P):=by unfold iY;rw[N_ d,hq]
  simp only[go_sem,P,u,V,W,e8,f,D];refine⟨j-1,o_,_,p+1,_,o_,rfl,rfl,?_,q_ P,q_ I,q_ u,q_ o,q_ n,k_⟩;rw[m,k];exact s8
 have R:p=l.V.length:=o_;subst R;rw[K_]at hs;have⟨v,_,e7,ho,G⟩:=c167 z ge;have ac:=(G.kw _ (by have:=z.hk.z;omega)).trans ((z.hk.kw _ o_).trans t);have aa:jM l a=Qj (s.1,s.2):=by unfold jM;rw[N_ o_,hs]
 rw[<-aa]at ho;obtain⟨w,e,rfl⟩:∃w e,v=.tup [cB w,.I e]:=by
  unfold Qg at ho;split at ho
  ·obtain⟨e,_,rfl⟩:=ho;exact⟨_,_,rfl⟩
  exact⟨_,_,ho⟩
 have D:cB w=.agg [.I w.c,.eV w.V]:=rfl;simp only[go_sem,Us,u,e7,I,D,ac];refine⟨rfl,rfl,.inr rfl,[cB w,.I e],?_,.tup [cB w,.I e],_,bF (ae (rB _ _) (ae (aL _ _ _) (aH _))),ho,(((k0.trans i).trans z.hk).trans G).set _ o_⟩;simp only[go_sem,I];rfl
end
theorem dH (l:List LL):(AV.eL l).norm=.eL l:=by simp only[AV.norm,Ja]
theorem ei (l:List T):(AV.eT l).norm=.eT l:=by simp only[AV.norm,yU]
def HK.new_set (h:AH)(o o':dF):HK h ((h.new o).set h.z o'):=(HK.new _ _).set _ (e_ _)
def Js (e:Int):rV (.ifc 260 (.I e)) 260 (.I 0)=some (.tup [.I e,.bool true]):=(rfl)
def FH (e:Int)(h:AH):cw (.ifc 260 (.I e)) h=(.ifc 260 (.I e),h):=bQ (by simp[AV.free]) h
attribute [go_sem] Js
def Vf {a:Nat}{h:AH}{V:AV}{l:List T}(k i:Int)(nm:ByteArray)(ls:List LL)(o:Own a 5 true h V (l.map enc)):
  ∃b,cw (.agg [.I k,.I i,.str nm,.eL ls,V]) h=(enc (.mk k i nm ls l),b)/\b.z=h.z/\∀j,j<a->b.get j=h.get j:=by
 have c:∀x b,dM V h=(x,b)->x.norm=.eT l->cw (.agg [.I k,.I i,.str nm,.eL ls,V]) h=(enc (.mk k i nm ls l),b):=by
  intro x b e hx;have d:cL [.I k,.I i,.str nm,.eL ls,V] h=([.I k,.I i,.str nm,.eL ls,x],b):=by
   simp only[cL,dQ (show(AV.I k).free=true from rfl),dQ (show(AV.I i).free=true from rfl),dQ (show(AV.str nm).free=true from rfl),dQ (show(AV.eL ls).free=true by simp only[AV.free];exact bY jK ls),e]
  show((AV.agg (cL _ h).1).norm,(cL _ h).2)=_;rw[d,iV (dH ls) hx]
 rcases iT o (λh=>by cases h) with⟨rfl,e,d⟩|⟨p,g,q,d,f,n⟩
 ·rw[List.map_eq_nil_iff]at e;subst e;exact⟨h,c _ _ d rfl,rfl,λ_ _=>rfl⟩
 exact⟨_,c _ _ d (ei l),aE _ _ _,λj m=>aA o_⟩
structure Rm (t:T)(h0 h:AH)(V:AV)(out:List T):Prop where
 b6:h.get h0.z=some (.box (aG t))
 b10:h.get (h0.z+1)=some (.box zT)
 own:Own (h0.z+2) 5 true h V (out.map enc)
 kw:HK h0 h
 nx:h0.z+2<=h.z
def Rm.init (t:T)(h:AH):Rm t h ((h.new (.box (aG t))).new (.box zT)) .nl []:=by
 refine⟨?_,?_,cV _ _ _ _,(HK.new _ _).add _,by simp only[aB];omega⟩
 ·rw[aM (by rw[aB];omega),aD]
 rw[<-aB h (.box (aG t)),aD]
def Rm.up {t:T}{b h c:AH}{V:AV}{out:List T}(J:Rm t b h V out)(k:HK h c):Rm t b c V out:=by
 have:=J.nx;exact⟨k.up J.b6,k.up J.b10,bP J.own k.z (λa _ q=>k.kw a q),J.kw.trans k,C_ J.nx k.z⟩
def MZ {u s:Nat}{h:AH}{p m:AV}{ls:List LL}{l:List T}(k i:Int)(nm:ByteArray)(F:Own u 2 true h p (ls.map cB))(I:∀a g n,p=.row a g 2 0 n->a<s)(o:Own s 5 true h m (l.map enc))(J:u<=s):
  ∃C,cw (.agg [.I k,.I i,.str nm,p,m]) h=(enc (.mk k i nm ls l),C)/\C.z=h.z/\∀j,j<u->C.get j=h.get j:=by
 have r:∀x c y b,dM p h=(x,c)->dM m c=(y,b)->x.norm=.eL ls->y.norm=.eT l->cw (.agg [.I k,.I i,.str nm,p,m]) h=(enc (.mk k i nm ls l),b):=by
  intro x c y b t d hx G;have A:cL [.I k,.I i,.str nm,p,m] h=([.I k,.I i,.str nm,x,y],b):=by
   simp only[cL,dQ (show(AV.I k).free=true from rfl),dQ (show(AV.I i).free=true from rfl),dQ (show(AV.str nm).free=true from rfl),t,d]
  show((AV.agg (cL _ h).1).norm,(cL _ h).2)=_;rw[A,iV hx G]
 have f:∀c,Own s 5 true c m (l.map enc)->∃y b,dM m c=(y,b)/\y.norm=.eT l/\b.z=c.z/\∀j,j<s->b.get j=c.get j:=by
  intro c o;rcases iT o (λh=>by cases h) with⟨rfl,e,d⟩|⟨D,g,t,d,A,H⟩
  ·rw[List.map_eq_nil_iff]at e;subst e;exact⟨_,_,d,rfl,rfl,λ_ _=>rfl⟩
  exact⟨_,_,d,ei l,aE _ _ _,λj E=>aA o_⟩
 rcases iT F (λh=>by cases h) with⟨rfl,e,d⟩|⟨D,g,t,d,A,H⟩
 ·rw[List.map_eq_nil_iff]at e;subst e;have⟨y,b,B,w,v,z⟩:=f h o;exact⟨b,r _ _ _ _ d B rfl w,v,λj E=>z j o_⟩
 have hk:=I _ _ _ t;have⟨_,b,B,w,v,z⟩:=f _ (bP (h':=h.set D (.row g 2 true (bJ (ls.map cB)) ((ls.map cB).length*2))) o (by rw[aE];exact e_ _) (λa q _=>aA o_));refine⟨b,r _ _ _ _ d B (dH ls) w,by rw[v,aE],λj E=>by rw[z j o_,aA o_]⟩
def Gr {a:Type}(l:List a)(p:Nat)(x:a)(h:p<l.length):(l.set p x).take (p+1)=l.take p++[x]:=by
 rw[Z_,List.take_set_of_le (e_ p),List.getElem?_set_self h];rfl
section
variable {K:aN}
variable {cl:aN}
def c88 (r:Rn cl 204)(e:Int)(h:AH):cl (.fn 204 [] []) [.I e] .no h=some (.pan (.ifc 260 (.I e)),.no,h):=by
 obtain⟨o,a,b,c,rfl,rfl,rfl⟩:=r [] _ _ .no h _ _ _ _ (λo a b=>o=.pan (.ifc 260 (.I e))/\a=.no/\b=h) cf88 (ae (aL _ _ _) (aH _)) (by
  simp only[A_];simp only[go_sem];exact jE ⟨rfl,rfl,rfl⟩)
 exact c
def c84 (r:Rn cl 201)(e:Int)(h:AH):cl (.fn 201 [] []) [.ifc 260 (.I e)] .no h=some (.ret (.I e),.no,h):=by
 obtain⟨o,a,b,c,rfl,rfl,rfl⟩:=r [] _ _ .no h _ _ _ _ (λo a b=>o=.ret (.I e)/\a=.no/\b=h) cf84 (ae (FH _ _) (aH _)) (by
  simp only[A_];simp only[go_sem];exact jl (.inr rfl) y_ ⟨_,_,rfl,rfl,rfl,rfl⟩)
 exact c
def c161p (r:Rn cl 200)(r84:Rn cl 201)(a b:Nat)(e x:Int)(h:AH)(f:∃l m c3 k j,h.get a=some (.box [l,m,c3,k,j]))(p:h.get b=some (.box [.I x]))(g:a≠b):
  cl (.fn 200 [] [.P a,.P b]) [] (.pend (.ifc 260 (.I e))) h=some (.ret (.tup []),.done,(h.set a (.box zT)).set b (.box [.I e])):=by
 have⟨_,_,_,_,_,f⟩:=f;obtain⟨o,i,n,s,rfl,rfl,rfl⟩:=r [.P a,.P b] _ _ (.pend (.ifc 260 (.I e))) h _ _ _ _ (λo i n=>o=.ret (.tup [])/\i=.done/\n=(h.set a (.box zT)).set b (.box [.I e])) abD (aH _) (by
  have d:=λh=>c84 r84 e h;have c:¬b=a:=λq=>g q.symm;simp only[go_sem,d,f,p,c];exact jl (.inl rfl) rfl ⟨.tup [],_,bF (aH _),rfl,rfl,rfl⟩)
 exact s
def c161r (r:Rn cl 200)(a b:Nat)(h:AH):cl (.fn 200 [] [.P a,.P b]) [] .ret h=some (.ret (.tup []),.ret,h):=by
 obtain⟨o,c,d,e,rfl,rfl,rfl⟩:=r [.P a,.P b] _ _ .ret h _ _ _ _ (λo c d=>o=.ret (.tup [])/\c=.ret/\d=h) abD (aH _) (by
  simp only[go_sem];exact jl (.inl rfl) rfl ⟨.tup [],_,bF (aH _),rfl,rfl,rfl⟩)
 exact e
def Dw (h:AH)(l:List LV)(f:l.length<=65544):∃y c,cI h 2 true [.I 0,.I 0] 16 .nl (.eV l)=some (y,c)/\HK h c/\y.cells=[y]/\y.lies=true/\AV.beq y y=true/\(y=.nl\/∃k g n,y=.row k g 2 0 n):=by
 have e0:cI h 2 true [.I 0,.I 0] 16 .nl (.eV l)=List.casesOn (l.map cQ) (qP .nl h) λy e=>kO .nl h 2 true 16 (y::e):=by
  show aI (cond (fZ 2 (l.map cQ)) (some (l.map cQ)) none) (λd=>cond (and (fT d) (Nat.beq (len ([.I 0,.I 0]:List AV)) 2)) _ _)=_;rw[oR gG];show cond (and (fT (l.map cQ)) true) _ _=_;rw[uc (λ_=>rfl)];rfl
 cases l with
 |nil=>exact⟨.nl,h,e0,HK.refl _,rfl,rfl,rfl,.inl rfl⟩
 |cons a l=>
  have b:need 0 ((a::l).map cQ).length 16=true:=by
   show and (Nat.ble ((2*(0+((a::l).map cQ).length)+1000)*16) 140737488355328) (Nat.ble (0+((a::l).map cQ).length) 9223372036854775807)=true;simp only[L_]at *;rw[fK o_,fK o_];rfl
  refine⟨.row h.z 0 2 0 ((a::l).map cQ).length,h.new (.row 0 2 true (bJ ((a::l).map cQ)) 0),?_,HK.new _ _,rfl,rfl,gQ _,.inr ⟨_,_,_,rfl⟩⟩;rw[e0];show cond (need 0 (len ((a::l).map cQ)) 16) (some (AV.row h.z 0 2 0 (len ((a::l).map cQ)),h.new (.row 0 2 true (bJ ((a::l).map cQ)) 0))) none=_;rw[bT,b];rfl
structure aak (t:T)(V:AV)(h0 h:AH)(out:List AV):Prop where
 g1:h.get h0.z=some (.box (aG t))
 g2:h.get (h0.z+1)=some (.box zT)
 g3:h.get (h0.z+2)=some (.box [.I t.D,.I t.X,.str t.N,V,.nl])
 own:Own (h0.z+3) 2 true h V out
 kw:HK h0 h
 nx:h0.z+3<=h.z
def aak.up {t:T}{V:AV}{b h c:AH}{out:List AV}(J:aak t V b h out)(k:HK h c):aak t V b c out:=by
 have:=J.nx;exact⟨k.up J.g1,k.up J.g2,k.up J.g3,bP J.own k.z (λa _ q=>k.kw a q),J.kw.trans k,C_ J.nx k.z⟩
def I87r (t:T)(a:AH)(j:Nat)(b:AF)(h:AH):Prop:=∃tm p V out,p+j=t.L.length/\b=F_ 203 tm/\nth tm 2=.P (a.z+1)/\nth tm 3=.P (a.z+2)/\nth tm 14=.eL t.L/\nth tm 15=.I (t.L.length:Int)/\nth tm 16=.I (p:Int)/\aak t V a h out/\out.length=p
def c87r [RunsM K](t:T)(h:AH)(l1:t.L.length<=8)(S:∀l∈t.L,VL l):
  Ret K (203) [enc t] h λv W=>∃V out,v=.agg [.I t.D,.I t.X,.str t.N,V,.nl]/\Own h.z 2 true W V out/\out.length=t.L.length:=by
 refine Ey cf87 ?_;have s:=Rm.init t h;have⟨H,w⟩:∃H:AH,H=((h.new (.box (aG t))).new (.box zT)):=⟨_,rfl⟩;rw[<-w]at s;have n:H.z=h.z+2:=by subst w;simp only[aB]
 have b6:=s.b6;have k:=s.b10;have⟨c,b⟩:∃c:AH,c=(H.new (.box zT)).set (h.z+2) (.box [.I t.D,.I t.X,.str t.N,.nl,.nl]):=⟨_,rfl⟩;have e:HK H c:=by subst b;exact(HK.new _ _).set _ o_
 have n1:c.z=h.z+3:=by subst b;simp only[aE,aB,n]
 have J:aak t .nl h c []:=⟨e.up b6,e.up k,by subst b;exact aF _ _ _,cV _ _ _ _,s.kw.trans e,o_⟩;have d:cY (.P (h.z+2)) (H.new (.box zT)) 5 (.agg [.I t.D,.I t.X,.str t.N,.nl,.nl])=some c:=by
  rw[jF (v:=.agg [.I t.D,.I t.X,.str t.N,.nl,.nl]) _ 0 0 5 rfl rfl,<-n,aD,b,n];rfl
 clear b;unfold aG at w b6;have f:=J.g1;unfold aG at f;rw[aJ t];simp only[go_sem];rw[<-w];clear w;simp only[go_sem,aB,b6,n,d,f];refine bo (I87r t h) t.L.length o_ ⟨_,0,.nl,[],z_ _,rfl,k_,k_,k_,k_,y_,J,rfl⟩ ?_;clear J s b6 k f e n n1 d H c;rintro j fr H ⟨tm,p,V,out,hp,rfl,I,N,m,r,A,J,z⟩;have Q:=J.g3;have nx:=J.nx;simp only[go_sem,r,A];refine aU (λx=>?_) (λab=>?_)
 ·have x:p<t.L.length:=o_;have⟨l,P⟩:∃l,t.L[p]?=some l:=⟨_,a_ x⟩;have D:=(S l (m_ P)).len;have F:cB l=.agg [.I l.c,.eV l.V]:=rfl;have X:=aP p o_;have⟨c,b⟩:∃c:AH,c=(H.new (.box [.I 0,.nl])).set H.z (.box [.I l.c,.eV l.V]):=⟨_,rfl⟩;have e:HK H c:=by subst b;exact HK.new_set _ _ _
  have R:c.get H.z=some (.box [.I l.c,.eV l.V]):=by subst b;exact aF _ _ _
  have d:cY (.P H.z) (H.new (.box [.I 0,.nl])) 2 (cB l)=some c:=by rw[F,b];simp only[go_sem]
  have n1:c.z=H.z+1:=by subst b;simp only[aE,aB]
  clear b;have⟨y,_,e2,L,_,_,_,yf⟩:=Dw c l.V D;have n2:=L.z;have i:=J.up (e.trans L);have⟨C,_,e3,O,_,B,_⟩:=eY (.agg [.I l.c,y]) i.own;have x2:=L.up R;have E:=e.up Q;have u:=i.g3;have M:=(B (h.z+2) o_).trans u;have g:AV.beq V V=true/\C.cells=[C]/\C.lies=true:=by
   refine⟨?_,?_⟩
   ·obtain⟨_,⟨rfl,_⟩|⟨_,_,rfl,_⟩⟩:=J.own
    ·rfl
    exact gQ _
   obtain⟨_,⟨rfl,q⟩|⟨_,_,rfl,_⟩⟩:=O
   ·simp at q
   exact⟨rfl,rfl⟩
  have G:lT [.I 0,.nl] [(0,1,.I l.c),(1,1,y)]=some (.agg [.I l.c,y]):=by
   rcases yf with rfl|⟨_,_,_,rfl⟩<;>rfl
  simp only[go_sem,N,m,A,P,d,R,x2,E,u,M,e2,G,e3,g.1,g.2.1,g.2.2,X];refine⟨j-1,o_,_,p+1,C,out++[.agg [.I l.c,y]],o_,rfl,q_ I,q_ N,q_ m,q_ r,k_,⟨?_,?_,aF _ _ _,?_,?_,?_⟩,by simp[z]⟩
  ·rw[aA o_,B _ o_];exact i.g1
  ·rw[aA o_,B _ o_];exact i.g2
  ·exact bP O (by rw[aE];exact e_ _) (λa q _=>aA o_)
  ·exact⟨by rw[aE];have:=i.kw.z;omega,λa q=>by rw[aA o_,B a o_];exact i.kw.kw a q⟩
  rw[aE];omega
 have:p=t.L.length:=o_;subst this;have g2:=J.g2;have aa:¬h.z+2=h.z+1:=o_;simp only[go_sem,I,N,Q,g2];refine⟨rfl,rfl,.inr rfl,[.agg [.I t.D,.I t.X,.str t.N,V,.nl]],q_ I,⟨V,out,rfl,?_,z⟩,J.kw.set _ o_⟩;have o:=bP (h':=H.set (h.z+1) (.box [.I t.D,.I t.X,.str t.N,V,.nl])) J.own (by rw[aE];exact e_ _) (λa q _=>aA o_);refine⟨o.1,?_⟩;rcases o.2 with q|⟨U,gg,Z,z2,z3,z4⟩
 ·exact .inl q
 exact .inr ⟨U,gg,Z,z2,z3,o_⟩
end
def Oh {kk g n a:Nat}(b:a<n):bW (.row kk g 2 0 n) 2 (.I (a:Int))=some (.ptr kk g (a*2)):=jf b .i64
def Og {b g a:Nat}{h:AH}{out:List AV}{x:AV}(hk:h.get b=some (.row g 2 true (bJ out) 0))(ho:∀x∈out,x.cells.length=2/\x.isAgg=true)(i:a<out.length)(e:x.cells.length=2)(f:x.lies=true):
  cY (.ptr b g (a*2)) h 2 x=some (h.set b (.row g 2 true (bJ (out.set a x)) 0)):=by
 have d:=lR (λy c=>(ho y c).1);rw[jF _ _ _ _ f e,hk,aK];show aI (cond (and (Nat.beq g g) (and (Nat.ble 0 (a*2)) (Nat.ble (a*2+len x.cells) (len (bJ out))))) (some (dF.row g 2 true (setR (a*2) x.cells (bJ out)) 0)) none) _=_;rw[fR,bT,bT,fK (show a*2+x.cells.length<=(bJ out).length by rw[d,e];omega),vf e (λy c=>(ho y c).1) i];rfl
def RY {out:List AV}(ho:∀x∈out,x.cells.length=2/\x.isAgg=true){a:Nat}{x:AV}(d:x.cells.length=2)(b:x.isAgg=true):∀y∈out.set a x,y.cells.length=2/\y.isAgg=true:=by
 intro y c;rcases List.mem_or_eq_of_mem_set c with q|q
 ·exact ho y q
 rw[q];exact⟨d,b⟩
def mapG {b a:Type}(f:b->Option a):List b->Option (List a)
 |[]=>some []
 |x::l=>match f x with
  |none=>none
  |some y=>match mapG f l with
   |none=>none
   |some r=>some (y::r)
def sI {c b:Type}{f:c->Option b}: ∀{l:List c} {r:List b} {x:c} {y:b},mapG f l=some r->f x=some y->mapG f (l++[x])=some (r++[y])
 |[],r,x,y,h,e=>by cases h;simp only[List.nil_append,mapG,e]
 |z::l,r,x,y,h,e=>by
  rw[mapG]at h;rw[Q_,mapG];cases d:f z with
  |none=>rw[d]at h;cases h
  |some w=>
   rw[d]at h;simp only at h ⊢;cases a:mapG f l with
   |none=>rw[a]at h;cases h
   |some q=>rw[a]at h;cases h;rw[sI a e];rfl
def oY {a b:Type}{f:a->Option b}: ∀{l:List a} {x:a},x∈l->f x=none->mapG f l=none
 |z::l,x,h,e=>by
  rw[mapG];rcases X_.1 h with rfl|h
  ·rw[e]
  cases c:f z with
  |none=>rfl
  |some w=>simp only;rw[oY h e]
def Hj {d c:Type}{f:d->Option c}: ∀{l:List d} {r:List c},mapG f l=some r->r.length=l.length
 |[],r,h=>by cases h;rfl
 |z::l,r,h=>by
  rw[mapG]at h;cases b:f z with
  |none=>rw[b]at h;cases h
  |some w=>
   rw[b]at h;simp only at h;cases a:mapG f l with
   |none=>rw[a]at h;cases h
   |some q=>rw[a]at h;cases h;simp[Hj a]
mutual
def ja (c:List LL):T->Option T
 |.mk k i nm ls d=>match mapG (λl=>jM l c) ls with
  |none=>none
  |some b=>match pP c d with
   |none=>none
   |some a=>some (.mk k i nm b a)
def pP (a:List LL):List T->Option (List T)
 |[]=>some []
 |t::l=>match ja a t with
  |none=>none
  |some y=>match pP a l with
   |none=>none
   |some r=>some (y::r)
end
theorem pZ (a:List LL):∀l:List T,pP a l=mapG (ja a) l
 |[]=>by rw[pP,mapG]
 |t::l=>by
  rw[pP,mapG,pZ a l];cases ja a t with
  |none=>rfl
  |some y=>cases mapG (ja a) l<;>rfl
def Qq (o:ep):Prop:=∃e:Int,e≠0/\o=.pan (.ifc 260 (.I e))
section
variable {K:aN}
def c128 [RunsM K](k j:Int)(h:AH):cS K (.fn 219 [] []) [.I k,.I j] .no h=some (.ret (.I (bK k j)),.no,h):=by
 obtain⟨v,a,e,rfl,rfl⟩:=aV (a:=[.I k,.I j]) (h:=h) (P:=λv a=>v=.I (bK k j)/\a=h) cf128 (by
  repeat' (first|simp only[go_sem, *]|refine pC (λ_=>?_) λ_=>?_|refine qE (λ_=>?_) λ_=>?_|refine pD (λ_=>?_) λ_=>?_|refine tn (λ_=>?_) λ_=>?_|refine pH (λ_=>?_) λ_=>?_|refine tG (λ_=>?_) λ_=>?_)
  all_goals (refine⟨by rfl,by rfl,.inr rfl,[_],y_,_,_,cv_ (aL _ _ _),?_,rfl⟩;simp_all [bK]))
 exact e
def Mr {r:Option LL}{v:AV}(h:Qg r v):∃w e,v=.tup [cB w,.I e]/\(e=0->r=some w)/\(e≠0->r=none):=by
 unfold Qg at h;cases r with
 |none=>obtain⟨_,a,rfl⟩:=h;exact⟨_,_,rfl,λq=>absurd q a,λ_=>rfl⟩
 |some l=>exact⟨l,0,h,λ_=>rfl,λq=>absurd rfl q⟩
def c327 [RunsM K][u:KS K](b:Nat){l:LL}(p:VL l){c:List LL}(vp:∀l∈c,VL l)(q:c.length<1000000){h:AH}(g:h.get b=some (.box [.eL c]))(d:b<h.z):
  ∃v j,cS K (.fn 180 [] [.P b]) [cB l] .no h=some (.ret v,.no,j)/\Qg (jM l c) v/\HK h j:=by
 refine zN cf327 ?_;have⟨H,a⟩:∃H:AH,H=(h.new (.box [.I l.c,.eV l.V])).new (.box [.I 0,.nl]):=⟨_,rfl⟩;have n1:=aB h (.box [.I l.c,.eV l.V]);have i:HK h H:=by rw[a];exact(HK.new _ _).add _
 have o:H.get h.z=some (.box [.I l.c,.eV l.V]):=by rw[a,aM o_,aD]
 have n:H.get (h.z+1)=some (.box [.I 0,.nl]):=by rw[a,<-n1,aD]
 have x:H.z=h.z+2:=by rw[a,aB,n1]
 have r:=(i.kw b d).trans g;have⟨_,_,k,ho,m⟩:=c328 (h:=H) p vp q;have f:=m.up n;obtain⟨w,e,rfl,_⟩:=Mr ho;have s:cB w=.agg [.I w.c,.eV w.V]:=rfl;simp only[go_sem,n1];rw[<-a];clear a;rw[<-mZ l]at k;simp only[go_sem,o,r,k,s,f];refine⟨rfl,rfl,.inr rfl,[cB w,.I e],?_,.tup [cB w,.I e],_,bF (ae (rB _ _) (ae (aL _ _ _) (aH _))),ho,(i.trans m).set _ o_⟩;simp only[go_sem];rfl
structure aam (t:T)(b7:Nat)(V:AV)(h0 h:AH)(cur:List AV):Prop where
 g5:h.get (h0.z+1)=some (.box zT)
 g7:h.get b7=some (.box [.I t.D,.I t.X,.str t.N,V,.nl])
 own:Own (h0.z+2) 2 true h V cur
 low:∀a g n,V=.row a g 2 0 n->a<b7
 kw:HK h0 h
 nx:b7+1<=h.z
 lo:h0.z+2<=b7
def aam.up {t:T}{b7:Nat}{V:AV}{c h d:AH}{b:List AV}(J:aam t b7 V c h b)(k:HK h d):aam t b7 V c d b:=by
 have:=J.nx;have:=J.lo;exact⟨k.up J.g5,k.up J.g7,bP J.own k.z (λa _ q=>k.kw a q),J.low,J.kw.trans k,C_ J.nx k.z,J.lo⟩
def I162 (e:List LL)(t:T)(f b7:Nat)(V:AV)(b:AH)(j:Nat)(d:AF)(h:AH):Prop:=∃tm p a c,p+j=t.L.length/\d=F_ 202 tm/\nth tm 2=.P f/\nth tm 5=.P (b.z+1)/\nth tm 7=.P b7/\nth tm 15=.eL t.L/\nth tm 16=.I (t.L.length:Int)/\nth tm 17=.I (p:Int)/\
 aam t b7 V b h a/\a.length=t.L.length/\a.take p=c.map cB/\mapG (λl=>jM l e) (t.L.take p)=some c
def ZW (a:List LL)(t:T)(o:ep):Prop:=match mapG (λl=>jM l a) t.L with
 |none=>Qq o
 |some ls=>o=.ret (.tup [enc (.mk t.D t.X t.N ls []),.bool false])
def c162 [RunsM K][ks:KS K](G px:Nat)(t:T)(d:Int)(h:AH)(l1:t.L.length<=8)(l2:∀l∈t.L,VL l){L:List LL}(vp:∀l∈L,VL l)(ac:L.length<1000000)
  (gr:h.get G=some (.box [.fn 180 [] [.P px]])) (gx:h.get px=some (.box [.eL L])) (lr:G<h.z) (lx:px<h.z) :
  ∃o I,cS K (.fn 202 [] [.P G]) [enc t,.I d] .no h=some (o,.no,I)/\HK h I/\ZW L t o:=by
 have hr:Rn (cS K) 202:=lW;have ag:=hr [.P G] _ _ .no h _ _ _ _ (λo rc I=>rc=.no/\HK h I/\ZW L t o) cf162 (ae (cJ t _) (ae (aL .i64 d _) (aH _))) (by
  have X:=Rm.init t h;have⟨H,M⟩:∃H:AH,H=((h.new (.box (aG t))).new (.box zT)):=⟨_,rfl⟩;rw[<-M]at X;have n0:H.z=h.z+2:=by subst M;simp only[aB]
  have b6:=X.b6;have R:=X.b10;obtain⟨_,b,e1,⟨V,out,rfl,o1,Q⟩,y⟩:=c87r t H l1 l2;have n1:=y.z;have⟨c,m⟩:∃c:AH,c=(b.new (.box zT)).set b.z (.box [.I t.D,.I t.X,.str t.N,V,.nl]):=⟨_,rfl⟩;have u:HK b c:=by subst m;exact HK.new_set _ _ _
  have x2:c.get b.z=some (.box [.I t.D,.I t.X,.str t.N,V,.nl]):=by subst m;exact aF _ _ _
  have n2:c.z=b.z+1:=by subst m;simp only[aE,aB]
  have U:cY (.P b.z) (b.new (.box zT)) 5 (.agg [.I t.D,.I t.X,.str t.N,V,.nl])=some c:=by
   rw[jF (v:=.agg [.I t.D,.I t.X,.str t.N,V,.nl]) _ 0 0 5 rfl rfl,aD,m];rfl
  clear m;have J:aam t b.z V h c out:=⟨((y.trans u).kw _ o_).trans R,x2,bP (base:=h.z+2) (by
    refine⟨o1.1,?_⟩;rcases o1.2 with q|⟨i,gg,z1,z2,z3,z4⟩
    ·exact .inl q
    ·exact .inr ⟨i,gg,z1,z2,z3,o_⟩) u.z (λa _ q=>u.kw a q),by
    intro a g n e;rcases o1.2 with⟨q,_⟩|⟨i,gg,z1,z2,z3,z4⟩
    ·rw[q]at e;cases e
    rw[z1]at e;injection e with e;omega,(X.kw.trans y).trans u,o_,o_⟩
  have C:=((y.trans u).kw h.z o_).trans b6;unfold aG at M b6 C;rw[aJ t]at e1 ⊢;simp only[go_sem];rw[<-M];clear M;simp only[go_sem,aB,b6,e1,U,C];refine bo (I162 L t G b.z V h) t.L.length o_ ⟨_,0,out,[],z_ _,rfl,k_,k_,k_,k_,k_,y_,J,Q,rfl,rfl⟩ ?_;clear J X b6 R C U x2 o1 Q e1;generalize b.z=b7 at *;clear y u n1 n2 n0 H b c;rintro j fr H ⟨tm,p,s,us,hp,rfl,t2,t5,t7,E,aa,D,J,B,A,F⟩;have nx:=J.nx;have lo:=J.lo;have kn:=J.kw.z;have ad:=(J.kw.kw G lr).trans gr;simp only[go_sem,aa,D];refine aU (λab=>?_) (λaj=>?_)
  ·have ab:p<t.L.length:=o_;have⟨l,W⟩:∃l,t.L[p]?=some l:=⟨_,a_ ab⟩;have ah:=l2 l (m_ W);have x:∀l:LL,cB l=.agg [.I l.c,.eV l.V]:=λ_=>rfl;have hw:=aP p o_;have⟨b,f⟩:∃b:AH,b=(H.new (.box [.I 0,.nl])).set H.z (.box [.I l.c,.eV l.V]):=⟨_,rfl⟩;have y:HK H b:=by subst f;exact HK.new_set _ _ _
   have x1:b.get H.z=some (.box [.I l.c,.eV l.V]):=by subst f;exact aF _ _ _
   have O:cY (.P H.z) (H.new (.box [.I 0,.nl])) 2 (cB l)=some b:=by rw[x,f];simp only[go_sem]
   have n1:b.z=H.z+1:=by subst f;simp only[aE,aB]
   clear f;have S:=y.up ad;have⟨_,c,e2,ho,u⟩:=c327 px ah vp ac (h:=b) (y.up ((J.kw.kw px lx).trans gx)) o_;obtain⟨w,e,rfl,q0,q1⟩:=Mr ho;have n2:=u.z;have⟨z,k⟩:∃z:AH,z=(c.new (.box [.I 0,.nl])).set c.z (.box [.I w.c,.eV w.V]):=⟨_,rfl⟩;have k3:HK c z:=by subst k;exact HK.new_set _ _ _
   have x3:z.get c.z=some (.box [.I w.c,.eV w.V]):=by subst k;exact aF _ _ _
   have Z:cY (.P c.z) (c.new (.box [.I 0,.nl])) 2 (cB w)=some z:=by rw[x,k];simp only[go_sem]
   have n3:z.z=c.z+1:=by subst k;simp only[aE,aB]
   clear k;have k123:=(y.trans u).trans k3;have r:=J.up k123;have P:=r.g7;rw[x l]at e2;by_cases he:e=0
   ·subst he;have N:=q0 rfl;have d0:decide ((0:Int)=0)=true:=rfl;obtain⟨i,g,rfl,r2,r3,r4⟩:∃i g,V=.row i g 2 0 s.length/\z.get i=some (.row g 2 true (bJ s) 0)/\i<z.z/\h.z+2<=i:=by
     rcases r.own.2 with⟨_,q⟩|q
     ·rw[q]at B;simp at B;omega
     exact q
    have ak:=r.low _ _ _ rfl;have ib:=Oh (kk:=i) (g:=g) (n:=s.length) (a:=p) o_;have Y:=Og (x:=cB w) (a:=p) r2 r.own.1 o_ (fj _) rfl;rw[x w]at Y;simp only[go_sem,t2,t7,E,D,W,O,S,x1,e2,Z,P,x3,ib,Y,hw];refine⟨j-1,o_,_,p+1,s.set p (cB w),us++[w],o_,rfl,q_ t2,q_ t5,q_ t7,q_ E,q_ aa,k_,⟨?_,?_,⟨RY r.own.1 (fj _) rfl,.inr ⟨i,g,by rw[List.length_set],aF _ _ _,by rw[aE];exact r3,r4⟩⟩,r.low,?_,?_,lo⟩,by rw[List.length_set];exact B,?_,?_⟩
    ·rw[aA o_];exact r.g5
    ·rw[aA o_];exact P
    ·exact r.kw.set _ o_
    ·rw[aE];exact r.nx
    ·rw[Gr _ _ _ o_,A,List.map_append];rfl
    rw[Z_,W,Option.toList_some];exact sI F N
   have ai:=D_ he;have af:=λh=>c88 (cl:=cS K) lW e h;simp only[go_sem,t2,E,D,W,O,S,x1,e2,Z,ai,af];refine jE ⟨rfl,r.kw,?_⟩;unfold ZW;rw[oY (m_ W) (q1 he)];exact⟨e,he,rfl⟩
  have:p=t.L.length:=o_;subst this;rw[K_]at F;rw[l_ o_]at A;subst A;have g7:=J.g7;have g5:=J.g5;have al:V.cells=[V]/\V.lies=true:=by
   rcases J.own.2 with⟨q,_⟩|⟨i,g,q,_⟩<;>rw[q]<;>exact⟨rfl,rfl⟩
  simp only[go_sem,t5,t7,g7,g5];have o:=bP (h':=H.set (h.z+1) (.box [.I t.D,.I t.X,.str t.N,V,.nl])) J.own (by rw[aE];exact e_ _) (λa q _=>aA o_);have⟨_,e3,n3,k3⟩:=MZ (l:=[]) t.D t.X t.N o (λa g n e=>by have:=J.low a g n e;exact this) (cV b7 _ _ _) o_;refine jl (.inr rfl) (vs:=[.agg [.I t.D,.I t.X,.str t.N,V,.nl],.bool false]) (q_ t5) ⟨_,_,bF (ae e3 (ae (bp _ _) (aH _))),rfl,⟨by rw[n3,aE];exact J.kw.z,λa ha=>by rw[k3 a o_,aA o_];exact J.kw.kw a ha⟩,?_⟩;unfold ZW;rw[F])
 obtain⟨o,_,I,e,rfl,q⟩:=ag;exact⟨o,I,e,q⟩
end
def bO:∀l:List T,l.length<=ba l
 |[]=>Nat.zero_le _
 |t::l=>by have:=bO l;have:=bI t;simp only[ba,M_];omega
structure J90 (fv:AV)(t o:T)(b7:Nat)(V:AV)(h0 h:AH)(cur:List AV):Prop where
 g3:h.get h0.z=some (.box [fv])
 g4:h.get (h0.z+1)=some (.box (aG t))
 g6:h.get (h0.z+1+1)=some (.box zT)
 g7:h.get b7=some (.box [.I o.D,.I o.X,.str o.N,.eL o.L,V])
 own:Own (b7+1) 5 true h V cur
 kw:HK h0 h
 nx:b7+1<=h.z
 lo:h0.z+3<=b7
def J90.up {e:AV}{t o:T}{b7:Nat}{V:AV}{c h d:AH}{b:List AV}(J:J90 e t o b7 V c h b)(k:HK h d):J90 e t o b7 V c d b:=by
 have:=J.nx;have:=J.lo;exact⟨k.up J.g3,k.up J.g4,k.up J.g6,k.up J.g7,bP J.own k.z (λa g f=>k.kw a f),J.kw.trans k,C_ J.nx k.z,J.lo⟩
def J90.put {f:AV}{t o:T}{b7:Nat}{V:AV}{d h b:AH}{c a:List AV}(J:J90 f t o b7 V d h c)(e:b.z=h.z)(hk:∀k,k<b7+1->b.get k=h.get k)(ho:Own (b7+1) 5 true b V a):J90 f t o b7 V d b a:=by
 have:=J.nx;have:=J.lo;exact⟨(hk _ o_).trans J.g3,(hk _ o_).trans J.g4,(hk _ o_).trans J.g6,(hk _ o_).trans J.g7,ho,⟨by rw[e];exact J.kw.z,λk g=>(hk k o_).trans (J.kw.kw k g)⟩,by rw[e];exact J.nx,J.lo⟩
def Zu (F:Nat)(a:List AV)(b:AV.norms a=a)(h:AH):cw (.agg [.fn F [] a]) h=(.agg [.fn F [] a],h):=by
 simp[cw,nI,cL,dM,AV.norm,AV.norms,b]
def Qn (a:List LL)(t:T)(o:ep):Prop:=match ja a t with
 |none=>Qq o
 |some u=>o=.ret (enc u)
def I90 (e:List LL)(f:AV)(t o:T)(d:Int)(b7:Nat)(V:AV)(b:AH)(j:Nat)(c:AF)(h:AH):Prop:=∃tm p a out,p+j=t.K.length/\c=F_ 205 tm/\
 nth tm 2=.I d/\nth tm 3=.P b.z/\nth tm 4=.P (b.z+1)/\nth tm 6=.P (b.z+1+1)/\nth tm 7=.P b7/\nth tm 32=.eT t.K/\nth tm 33=.I (t.K.length:Int)/\nth tm 34=.I (p:Int)/\
 J90 f t o b7 V b h a/\a.length=t.K.length/\a.take p=out.map enc/\mapG (ja e) (t.K.take p)=some out
section
variable {K:aN}
def c90 [RunsM K][ks:KS K]{s:List LL}(vp:∀l∈s,VL l)(ay:s.length<1000000)(u px:Nat):
  ∀(n:Nat) (t:T) (d:Int) (h:AH),aO t<=n->n<=100000->0<=d->d+n<=1000000->TOK t->h.get u=some (.box [.fn 180 [] [.P px]])->h.get px=some (.box [.eL s])->u<h.z->px<h.z->
   ∃o I,cS K (.fn 205 [] []) [.agg [.fn 202 [] [.P u]],enc t,.I d] .no h=some (o,.no,I)/\HK h I/\Qn s t o:=by
 intro n;induction n with
 |zero=>intro t d h hn;have:=bI t;omega
 |succ n ih=>
  intro t d h hn bb a8 a7 tok gr gx lr lx;have a9:ba t.K+1=aO t/\t.K.length<=ba t.K:=by
   have:=bO t.K;cases t;simp only[T.K,aO]at *;omega
  have⟨l1,l2,tk⟩:t.L.length<=8/\(∀l∈t.L,VL l)/\∀x∈t.K,TOK x:=by
   have⟨k,i,nm,ls,af⟩:=t;rw[TOK]at tok;refine⟨?_,tok.1.val,dh.1 tok.2⟩;show ls.length<=8;have⟨a,b,c⟩:=tok.1.lev;by_cases q:k=2
   ·rw[a q];decide
   by_cases q3:k=3
   ·exact b q3
   rw[c q q3];simp
  have aj:AV.norms [AV.P u]=[.P u]:=rfl;have hr:Rn (cS K) 205:=lW;have a1:=hr [] _ _ .no h _ _ _ _ (λo rc I=>rc=.no/\HK h I/\Qn s t o) cf90 (ae (Zu 202 [.P u] aj _) (ae (cJ t _) (ae (aL .i64 d _) (aH _)))) (by
   simp only[A_];have⟨H,M⟩:∃H:AH,H=((h.new (.box [.fn 202 [] [.P u]])).new (.box (aG t))).new (.box zT):=⟨_,rfl⟩;have k0:HK h H:=by subst M;exact((HK.new _ _).add _).add _
   have n0:H.z=h.z+3:=by subst M;simp only[aB]
   have g3:H.get h.z=some (.box [.fn 202 [] [.P u]]):=by subst M;rw[aM (by simp only[aB];omega),aM (by simp only[aB];omega),aD]
   have g4:H.get (h.z+1)=some (.box (aG t)):=by
    subst M;rw[aM (by simp only[aB];omega),<-aB h (.box [.fn 202 [] [.P u]]),aD]
   have g6:H.get (h.z+1+1)=some (.box zT):=by
    subst M;have:h.z+1+1=((h.new (.box [.fn 202 [] [.P u]])).new (.box (aG t))).z:=by simp only[aB]
    rw[this,aD]
   have⟨_,m,e2,k2,W⟩:=c162 u px t d H l1 l2 vp ay ((k0.kw _ lr).trans gr) ((k0.kw _ lx).trans gx) o_ o_;have n2:=k2.z;have ac:=k0.trans k2;have fin:∀(tm:Tm) (v:AH) (cells:List AV) (r:T) (Z:AH),nth tm 6=.P (h.z+1+1)->v.get (h.z+1+1)=some (.box cells)->cells.length=5->cw (.agg cells) v=(enc r,Z)->HK h Z->Qn s t (.ret (enc r))->
     XQ (cS K) r90 (mD λo rc I=>rc=.no/\HK h I/\Qn s t o) .ret (F_ 205 tm) v:=by
    intro tm v cells r Z t6 g hl ab hk hb
    match cells,hl with
    |[c1,c2,c3,c4,c5],_=>
     exact jl (.inr rfl) (vs:=[.agg [c1,c2,c3,c4,c5]]) (by simp only[go_sem,t6,g]) ⟨_,_,qM (by intro l e;cases e) ab,rfl,hk,hb⟩
   have D:∀o,Qn s t o=(match mapG (λl=>jM l s) t.L with|none=>Qq o|some ls=>match mapG (ja s) t.K with|none=>Qq o|some us=>o=.ret (enc (.mk t.D t.X t.N ls us))):=by
    intro o;have⟨k,_,_,ls,af⟩:=t;unfold Qn;rw[ja,pZ];simp only[T.L,T.K,T.D,T.X,T.N];cases mapG (λl=>jM l s) ls with
    |none=>rfl
    |some a=>cases mapG (ja s) af<;>rfl
   unfold aG at M g4;rw[aJ t]at e2 ⊢;simp only[go_sem];rw[<-M];clear M;unfold ZW at W;cases hs:mapG (λl=>jM l s) t.L with
   |none=>
    rw[hs]at W;obtain⟨e,he,rfl⟩:=W;simp only[go_sem,aB,g3,g4,e2];refine jE ⟨rfl,ac,?_⟩;rw[D,hs];exact⟨e,he,rfl⟩
   |some ls=>
    rw[hs]at W;simp only at W;subst W;have⟨o,ho⟩:∃o:T,o=.mk t.D t.X t.N ls []:=⟨_,rfl⟩;rw[<-ho]at e2;have ai:=bz (h:=m.new (.box zT)) (k:=m.z) (aD _ _) o;have⟨G,B⟩:∃G:AH,G=(m.new (.box zT)).set m.z (.box (aG o)):=⟨_,rfl⟩;have k3:HK m G:=by subst B;exact HK.new_set _ _ _
    have x3:G.get m.z=some (.box (aG o)):=by subst B;exact aF _ _ _
    have n3:G.z=m.z+1:=by subst B;simp only[aE,aB]
    rw[<-B]at ai;clear B;have ap:=ac.trans k3;have an:=k3.up (k2.up g3);have ao:=k3.up (k2.up g4);have ar:=k3.up (k2.up g6);have ag:=x3;unfold aG at ag;have⟨v,w⟩:∃v:AH,v=G.set m.z (.box [.I o.D,.I o.X,.str o.N,.eL o.L,.nl]):=⟨_,rfl⟩;have n4:v.z=G.z:=by subst w;exact aE _ _ _
    have o4:∀a,a≠m.z->v.get a=G.get a:=λa q=>by subst w;exact aA q
    have x4:v.get m.z=some (.box [.I o.D,.I o.X,.str o.N,.eL o.L,.nl]):=by subst w;exact aF _ _ _
    have aq:=(o4 h.z o_).trans an;have F:=(o4 (h.z+1) o_).trans ao;have ak:=(o4 (h.z+1+1) o_).trans ar;have Q:HK h v:=by subst w;exact ap.set _ o_
    simp only[go_sem,aB,g3,g4,e2,ai,ag];rw[<-w];clear w;simp only[go_sem,F];refine aU (λa5=>?_) (λhz=>?_)
    ·have⟨V,Z,e5,o5,n5,Y,am,a2⟩:=Sr (base:=m.z+1) (h:=v) (z:=.agg zT) (sz:=5) (bytes:=80) t.K.length .i64 o_ rfl rfl o_ (by decide);have e5:jJ v true 5 80 zT (.I (t.K.length:Int)) (.I (t.K.length:Int))=some (V,Z):=e5;have m7:=(Y m.z o_).trans x4;have m4:=(Y (h.z+1) o_).trans F;have au:¬h.z+1=m.z:=o_;simp only[go_sem,F,e5,m7,am,a2,au,m4];have J0:J90 (.fn 202 [] [.P u]) t o m.z V h (Z.set m.z (.box [.I o.D,.I o.X,.str o.N,.eL o.L,V])) (List.replicate t.K.length (.agg zT)):=
      ⟨by rw[aA o_,Y _ o_];exact aq,by rw[aA o_,Y _ o_];exact F,by rw[aA o_,Y _ o_];exact ak,aF _ _ _,bP o5 (by rw[aE];exact e_ _) (λa q _=>aA o_),⟨by rw[aE,n5];have:=Q.z;omega,λa q1=>by rw[aA o_,Y a o_];exact Q.kw a q1⟩,by rw[aE];omega,o_⟩
     refine bo (I90 s (.fn 202 [] [.P u]) t o d m.z V h) t.K.length o_ ⟨_,0,_,[],z_ _,rfl,k_,k_,k_,k_,k_,k_,k_,y_,J0,by simp,by simp,rfl⟩ ?_;clear J0;rintro j fr L ⟨tm,p,ax,out,bf,rfl,t2,t3,t4,t6,t7,R,aa,N,J,a3,O,U⟩;have lo:=J.lo;have nx:=J.nx;simp only[go_sem,aa,N];refine aU (λah=>?_) (λa6=>?_)
     ·have ah:p<t.K.length:=o_;have f:=a_ ah;have ha:=aR bH f .i64;have al:=cH (m_ f);have S:=tk _ (m_ f);have be:=lh t.D p;revert f ha al S;generalize t.K[p]=x;intro f ha al S;have ad:=aW (d+bK t.D p) o_ o_;have av:=aP p o_;have z:=c128 t.D p;have C:=bz (h:=L.new (.box zT)) (k:=L.z) (aD _ _) x;have⟨X,A⟩:∃X:AH,X=(L.new (.box zT)).set L.z (.box (aG x)):=⟨_,rfl⟩;have k7:HK L X:=by subst A;exact HK.new_set _ _ _
      have x7:X.get L.z=some (.box (aG x)):=by subst A;exact aF _ _ _
      have n7:X.z=L.z+1:=by subst A;simp only[aE,aB]
      rw[<-A]at C;clear A;have P:=J.up k7;have bg:=P.kw.z;have⟨_,_,e8,k8,y⟩:=ih x (d+bK t.D p) X o_ o_ o_ o_ S ((P.kw.kw _ lr).trans gr) ((P.kw.kw _ lx).trans gx) o_ o_;have n8:=k8.z;have J8:=P.up k8;have q3:=P.g3;have q4:=P.g4;have q7:=P.g7;have a0:=J8.g7;unfold aG at q4 x7;rw[aJ x]at e8;unfold Qn at y;cases E:ja s x with
      |none=>
       rw[E]at y;obtain⟨e,he,rfl⟩:=y;simp only[go_sem,R,N,ha,C,t2,t3,t4,t7,q3,q4,q7,x7,z,ad,e8];refine jE ⟨rfl,J8.kw,?_⟩;rw[D,hs];simp only;rw[oY (m_ f) E];exact⟨e,he,rfl⟩
      |some r=>
       rw[E]at y;simp only at y;subst y;have⟨_,_,i9,aw,o9,n9,k9⟩:=tO (x:=enc r) (a:=p) J8.own o_ (bH r) (jo r) (rT r) .i64;simp only[go_sem,R,N,ha,C,t2,t3,t4,t7,q3,q4,q7,a0,x7,z,ad,e8,i9,aw,av];refine⟨j-1,o_,_,p+1,ax.set p (enc r),out++[r],o_,rfl,q_ t2,q_ t3,q_ t4,q_ t6,q_ t7,q_ R,q_ aa,k_,J8.put n9 k9 o9,by rw[List.length_set];exact a3,?_,?_⟩
       ·rw[Gr _ _ _ o_,O,List.map_append];rfl
       rw[Z_,f,Option.toList_some];exact sI U E
     have:p=t.K.length:=o_;subst this;rw[l_ o_]at O;rw[K_]at U;subst O;have q7:=J.g7;have q6:=J.g6;have bd:=jD J.own;simp only[go_sem,t6,t7,q7,q6];have⟨H9,e9,n9,k9⟩:=Vf o.D o.X o.N o.L (bP (h':=L.set (h.z+1+1) (.box [.I o.D,.I o.X,.str o.N,.eL o.L,V])) J.own (by rw[aE];exact e_ _) (λa q _=>aA o_));refine fin _ _ _ (.mk o.D o.X o.N o.L out) H9 (q_ t6) (aF _ _ _) rfl e9 ⟨by rw[n9,aE];exact J.kw.z,λa q1=>by rw[k9 a o_,aA o_];exact J.kw.kw a q1⟩ ?_;rw[D,hs];simp only;rw[U,ho];rfl
    have a4:t.K=[]:=by
     cases az:t.K with
     |nil=>rfl
     |cons a l=>rw[az]at hz;cases hz (show(0:Int)<(((a::l).length:Nat):Int) by simp only[M_];omega)
    simp only[go_sem,x4,ak];refine fin _ _ _ (.mk o.D o.X o.N o.L []) _ k_ (aF _ _ _) rfl (jc (iV (dH _) rfl) _) (Q.set _ o_) ?_;rw[D,hs,a4,ho];rfl)
  obtain⟨o,_,I,e,rfl,k,hb⟩:=a1;exact⟨o,I,e,k,hb⟩
def Vh (h:AH):cw (.agg zT) h=(enc (.mk 0 0 (bs []) [] []),h):=jc (iV (ls:=[]) (ks:=[]) rfl rfl) h
def aab (r:Option T)(v:AV):Prop:=match r with
 |none=>∃e:Int,e≠0/\v=.tup [enc (.mk 0 0 (bs []) [] []),.I e]
 |some u=>v=.tup [enc u,.I 0]
def Mq {r:Option T}{v:AV}(h:aab r v):∃w e,v=.tup [enc w,.I e]/\(e=0->r=some w)/\(e≠0->r=none):=by
 unfold aab at h;cases r with
 |none=>obtain⟨_,a,rfl⟩:=h;exact⟨_,_,rfl,λq=>absurd q a,λ_=>rfl⟩
 |some l=>exact⟨l,0,h,λ_=>rfl,λq=>absurd rfl q⟩
def c113 [RunsM K][N:KS K]{g:List LL}(vp:∀l∈g,VL l)(w:g.length<1000000)(b:Nat)(t:T)(h:AH)(r:aO t<=100000)(tok:TOK t)(I:h.get b=some (.box [.eL g]))(D:b<h.z):
  Ret K (179) [enc t,.fn 180 [] [.P b]] h λv _=>aab (ja g t) v:=by
 have M:Rn (cS K) 179:=lW;have can:∀h,cw (.fn 180 [] [.P b]) h=(.fn 180 [] [.P b],h):=λh=>by rw[jd];simp[AV.norms,AV.norm]
 have x:=M [] _ _ .no h _ _ _ _ (λo B s=>B=.no/\(∃v,o=.ret v/\aab (ja g t) v)/\HK h s) cf113 (ae (cJ t _) (ae (can _) (aH _))) (by
  simp only[A_];have⟨H,d⟩:∃H:AH,H=(((h.new (.box (aG t))).new (.box [.fn 180 [] [.P b]])).new (.box zT)).new (.box [.I 0]):=⟨_,rfl⟩;have z:HK h H:=by subst d;exact(((HK.new _ _).add _).add _).add _
  have O:H.z=h.z+4:=by subst d;simp only[aB]
  have q:H.get h.z=some (.box (aG t)):=by subst d;rw[aM (by simp only[aB];omega),aM (by simp only[aB];omega),aM (by simp only[aB];omega),aD]
  have E:H.get (h.z+1)=some (.box [.fn 180 [] [.P b]]):=by
   subst d;rw[aM (by simp only[aB];omega),aM (by simp only[aB];omega),<-aB h (.box (aG t)),aD]
  have F:H.get (h.z+1+1)=some (.box zT):=by
   subst d;have:h.z+1+1=((h.new (.box (aG t))).new (.box [.fn 180 [] [.P b]])).z:=by simp only[aB]
   rw[aM (by simp only[aB];omega),this,aD]
  have L:H.get (h.z+1+1+1)=some (.box [.I 0]):=by
   subst d;have:h.z+1+1+1=(((h.new (.box (aG t))).new (.box [.fn 180 [] [.P b]])).new (.box zT)).z:=by simp only[aB]
   rw[this,aD]
  have⟨o,A,y,n,a⟩:=c90 vp w (h.z+1) b 100000 t 0 H r o_ (Int.le_refl 0) o_ tok E ((z.kw b D).trans I) o_ o_;have n2:=n.z;have i:=n.up F;have j:=n.up L;have m:=z.trans n;have J:∀H:AH,uk H 1 (.fn 180 [] [.P b])=.val (.P H.z) (H.new (.box [.fn 180 [] [.P b]])):=λH=>(rfl);have f:¬h.z+1+1+1=h.z+1+1:=o_;have c:¬h.z+1+1=h.z+1+1+1:=o_;unfold aG at d q;rw[aJ t]at y ⊢;simp only[go_sem,J,aB];rw[<-d];clear d;unfold Qn at a;cases C:ja g t with
  |none=>
   rw[C]at a;obtain⟨e,G,rfl⟩:=a;simp only[go_sem,q,y];refine Vz (c161p lW lW (h.z+1+1) (h.z+1+1+1) e 0 A ⟨_,_,_,_,_,i⟩ j o_) (vs:=[.agg zT,.I e]) (by simp only[go_sem,c]) ⟨_,_,bF (ae (Vh _) (ae (aL _ _ _) (aH _))),rfl,⟨_,rfl,e,G,rfl⟩,(m.set _ o_).set _ o_⟩
  |some u=>
   rw[C]at a;simp only at a;subst a;have p:=bz i u;simp only[go_sem,q,y,p,j,f];refine VA (.inr rfl) (c161r lW _ _ _) (vs:=[.agg (aG u),.I 0]) (by simp only[go_sem,c,aG]) ⟨_,_,bF (ae (by rw[<-eM];exact cJ _ _) (ae (aL _ _ _) (aH _))),rfl,⟨_,rfl,rfl⟩,(m.set _ o_).set _ o_⟩)
 obtain⟨_,_,s,e,rfl,⟨v,rfl,ho⟩,k⟩:=x;exact⟨v,s,e,ho,k⟩
def c316 [RunsM K][q:KS K]{a:List LL}(vp:∀l∈a,VL l)(d:a.length<1000000)(t:T)(h:AH)(f:aO t<=100000)(tok:TOK t):
  Ret K (143) [enc t,.eL a] h λv _=>aab (ja a t) v:=by
 refine aV cf316 ?_;have⟨H,b⟩:∃H:AH,H=((h.new (.box (aG t))).new (.box [.eL a])).new (.box zT):=⟨_,rfl⟩;have n:HK h H:=by subst b;exact((HK.new _ _).add _).add _
 have r:H.z=h.z+3:=by subst b;simp only[aB]
 have g:H.get h.z=some (.box (aG t)):=by subst b;rw[aM (by simp only[aB];omega),aM (by simp only[aB];omega),aD]
 have m:H.get (h.z+1)=some (.box [.eL a]):=by
  subst b;rw[aM (by simp only[aB];omega),<-aB h (.box (aG t)),aD]
 have o:H.get (h.z+1+1)=some (.box zT):=by
  subst b;have:h.z+1+1=((h.new (.box (aG t))).new (.box [.eL a])).z:=by simp only[aB]
  rw[this,aD]
 have⟨_,_,j,ho,i⟩:=c113 vp d (h.z+1) t H f tok m o_;obtain⟨w,e,rfl,_⟩:=Mq ho;have c:=bz (i.up o) w;have k:∀H:AH,uk H 1 (.eL a)=.val (.P H.z) (H.new (.box [.eL a])):=λH=>(rfl);unfold aG at b g;rw[aJ t]at j ⊢;simp only[go_sem,k,aB];rw[<-b];clear b;simp only[go_sem,g,j,c];exact⟨rfl,rfl,.inr rfl,[.agg (aG w),.I e],by simp only[go_sem,aG],_,_,bF (ae (by rw[<-eM];exact cJ _ _) (ae (aL _ _ _) (aH _))),ho,(n.trans i).set _ o_⟩
end
