/- Lemmas for MachineOrders (no condition). -/
import Derived.Test.YtocdlbblemjabaaGreatDoorDa
import Derived.Test.YtocdlbblemjabaaGreatDoorBn
namespace Go.Proofs.YtocdlbblemjabaaGreatDoor
open Go.AG Go.AG.MK
variable {a b:LL}{x:LV}{q:LV->Bool}{l:List LV}{p:Nat}
attribute [go_sem] r138 r197 Wu
def botL (c:Int)(l:List LV):Int:=l.foldl (λm x=>max m x.P) c
def hasV (x:LV)(l:List LV):Bool:=l.any λy=>decide (y.X=x.X)&&decide (y.P>=x.P)
def leqL (a b:LL):Bool:=decide (a.c<=botL b.c b.V)&&a.V.all λx=>hasV x b.V
theorem botL_ge (l:List LV):∀c,c<=botL c l:=by
 induction l with
 |nil=>exactλc=>Int.le_refl c
 |cons x l a=>exactλc=>Int.le_trans (Int.le_max_left c x.P) (a _)
theorem leqL_refl (a:LL):leqL a a=true:=by
 unfold leqL;rw[T_ (botL_ge _ _),Bool.true_and,List.all_eq_true];exactλx hx=>List.any_eq_true.2 ⟨x,hx,by simp⟩
theorem botL_snoc {c:Int}(g:l[p]?=some x):botL c (l.take (p+1))=max (botL c (l.take p)) x.P:=by
 obtain⟨a,rfl⟩:=E_.1 g;unfold botL;rw[Z_,a_ a,Option.toList_some,List.foldl_append];rfl
theorem all_snoc (g:l[p]?=some x)(h:(l.take p).all q=true)(hx:q x=true):(l.take (p+1)).all q=true:=by
 obtain⟨a,rfl⟩:=E_.1 g;rw[Z_,a_ a,Option.toList_some,List.all_append,h];simp[hx]
theorem all_not (g:l[p]?=some x)(hx:q x=false):l.all q=false:=by
 rw[List.all_eq_false];exact⟨x,m_ g,by simp[hx]⟩
theorem any_snoc (g:l[p]?=some x):(l.take (p+1)).any q=((l.take p).any q||q x):=by
 obtain⟨a,rfl⟩:=E_.1 g;rw[Z_,a_ a,Option.toList_some,List.any_append];simp
section
variable {K:aN}{h:AH}
theorem c197 [RunsM K]{k:Nat}(y:LV)(g:h.get k=some (.box [.I x.X,.I x.P]))(hk:k<h.z):
  ∃h',cS K (.fn 122 [] [.P k]) [cQ y] .no h=some (.ret (.bool (decide (y.X=x.X)&&decide (y.P>=x.P))),.no,h')/\HK h h':=by
 have a:∃v h',cS K (.fn 122 [] [.P k]) [cQ y] .no h=some (.ret v,.no,h')/\v=.bool (decide (y.X=x.X)&&decide (y.P>=x.P))/\HK h h':=by
  refine zN cf197 ?_;have b:=(aM (x:=.box [.I y.X,.I y.P]) (show k≠h.z by omega)).trans g;cases d:decide (y.X=x.X)<;>(simp only[go_sem,b,d];exact⟨rfl,rfl,.inr rfl,[_],k_,_,_,cv_ (bp _ _),rfl,HK.new _ _⟩)
 obtain⟨_,h',e,rfl,q⟩:=a;exact⟨h',e,q⟩
def I138 (a b:LL)(k:Nat)(d:AH)(j:Nat)(c:AF)(h:AH):Prop:=∃tm p,p+j=b.V.length/\c=F_ 80 tm/\HK d h/\k+1<h.z/\h.get k=some (.box [.I a.c,.eV a.V])/\
  nth tm 2=.P k/\nth tm 3=.P (k+1)/\h.get (k+1)=some (.box [.I b.c,.eV b.V])/\nth tm 5=.I (botL b.c (b.V.take p))/\nth tm 21=.eV b.V/\nth tm 22=.I (b.V.length:Int)/\nth tm 23=.I (p:Int)
def J138 (a b:LL)(k:Nat)(d:AH)(j:Nat)(c:AF)(h:AH):Prop:=∃tm p,p+j=a.V.length/\c=F_ 80 tm/\HK d h/\k+1<h.z/\ 
  nth tm 3=.P (k+1)/\h.get (k+1)=some (.box [.I b.c,.eV b.V])/\nth tm 37=.eV a.V/\nth tm 38=.I (a.V.length:Int)/\nth tm 39=.I (p:Int)/\(a.V.take p).all (λx=>hasV x b.V)=true
theorem c138 [RunsM K](va:VL a)(vb:VL b)(la:a.V.length<1000000)(lb:b.V.length<1000000):
  Ret K (80) [cB a,cB b] h λv _=>v=.bool (leqL a b):=by
 refine aV cf138 ?_;obtain⟨H,hH,k0,n0,X,Z⟩:=n2 h (.box [.I a.c,.eV a.V]) (.box [.I b.c,.eV b.V]);obtain⟨_,H1,e1,rfl,E⟩:=agR (h:=H) va la;obtain⟨_,H2,e2,rfl,F⟩:=agR (h:=H1) vb lb;have u:=E.up Z;have O:=F.up (E.up X);have q:=F.up u;have af:=E.z;have ab:=F.z;have ret:∀(tm:Tm) (H:AH) (r:Bool),HK h H->nth tm 4=.bool r->leqL a b=r->Fin r138 (λv h3=>v=.bool (leqL a b)/\HK h h3) .ret (F_ 80 tm) H:=λtm H r hk t4 e=>by
  subst e;exact Fr ⟨rfl,hk⟩
 simp only[go_sem,aB];rw[<-hH];clear hH;simp only[go_sem,X,u,mZ,e1,e2,q];refine bo (I138 a b h.z h) b.V.length o_ ⟨_,0,z_ _,rfl,(k0.trans E).trans F,o_,O,k_,k_,q,by simp only[go_sem];rfl,k_,k_,y_⟩ ?_;rintro j fr Y ⟨tm,p,hp,rfl,i,T,g,M,C,I,Q,w,o,l⟩;simp only[go_sem,o,l];refine aU (λf=>?_) (λS=>?_)
 ·have f:p<b.V.length:=o_;have c:b.V[p]?=some b.V[p]:=a_ f;have J:=aP p o_;obtain⟨H4,D,L,n4,g4⟩:=ns Y (.box [.I 0,.I 0]) (.box [.I b.V[p].X,.I b.V[p].P]);have N:=L.up g;have R:=L.up I;have P:cQ b.V[p]=.agg [.I b.V[p].X,.I b.V[p].P]:=rfl;simp only[go_sem,w,l,c,P];rw[<-D];clear D;simp only[go_sem,Q,l,max2,J];exact⟨j-1,o_,_,p+1,o_,rfl,i.trans L,o_,N,q_ M,q_ C,R,by rw[botL_snoc c];simp only[go_sem],q_ w,q_ o,k_⟩
 obtain rfl:p=b.V.length:=o_;rw[K_]at Q;simp only[go_sem,M,g,Q];refine aU (λaa=>?_) (λac=>?_)
 ·simp only[go_sem];exact ret _ Y false i k_ (by unfold leqL;rw[d_];rfl)
 simp only[go_sem,M,g];refine bo (J138 a b h.z h) a.V.length o_ ⟨_,0,z_ _,rfl,i,T,q_ C,I,k_,k_,y_,rfl⟩ ?_;rintro j fr s ⟨tm,p,hp,rfl,n,ag,C,I,z,t,m,pre⟩;simp only[go_sem,t,m];refine aU (λf=>?_) (λS=>?_)
 ·have f:p<a.V.length:=o_;have c:a.V[p]?=some a.V[p]:=a_ f;have J:=aP p o_;obtain⟨H6,B,W,n6,g6⟩:=ns s (.box [.I 0,.I 0]) (.box [.I a.V[p].X,.I a.V[p].P]);have A:=W.up I;have P:cQ a.V[p]=.agg [.I a.V[p].X,.I a.V[p].P]:=rfl;have pr:Pr K (.fn 122 [] [.P s.z]) cQ (λy=>decide (y.X=a.V[p].X)&&decide (y.P>=a.V[p].P)) b.V (λV=>V.get s.z=some (.box [.I a.V[p].X,.I a.V[p].P])/\s.z<V.z):=
   ⟨λa b ⟨U,g⟩ k=>⟨(k.kw _ g).trans U,by have:=k.z;omega⟩,λx _ V ⟨U,g⟩=>c197 x U g,λh=>by rw[jd];simp[AV.norms];rfl⟩
  obtain⟨_,H7,e7,rfl,G⟩:=c109 pr (h:=H6) ⟨g6,o_⟩ lb;have ad:=G.z;simp only[go_sem,z,m,c,P];rw[<-B];clear B;simp only[go_sem,C,A,e7];cases d:b.V.any λy=>decide (y.X=a.V[p].X)&&decide (y.P>=a.V[p].P) with
  |false=>
   simp only[go_sem];exact ret _ H7 false ((n.trans W).trans G) k_ (by unfold leqL;rw[all_not c (show hasV _ _=false from d)];simp)
  |true=>
   simp only[go_sem,m,J];exact⟨j-1,o_,_,p+1,o_,rfl,(n.trans W).trans G,o_,q_ C,G.up A,q_ z,q_ t,k_,all_snoc c pre d⟩
 obtain rfl:p=a.V.length:=o_;rw[K_]at pre;simp only[go_sem];exact ret _ s true n k_ (by unfold leqL;rw[pre,t_];rfl)
def I144 (_a b:LL)(k:Nat)(d:AH)(j:Nat)(c:AF)(h:AH):Prop:=∃tm p,p+j=b.V.length/\c=F_ 123 tm/\h=d/\nth tm 2=.P k/\nth tm 3=.P (k+1)/\nth tm 5=.I (botL b.c (b.V.take p))/\nth tm 6=.I (p:Int)
def J144 (a b:LL)(k:Nat)(d:AH)(j:Nat)(c:AF)(h:AH):Prop:=∃tm p,p+j=a.V.length/\c=F_ 123 tm/\h=d/\nth tm 2=.P k/\nth tm 3=.P (k+1)/\nth tm 7=.I (p:Int)/\(a.V.take p).all (λx=>hasV x b.V)=true
def L144 (x:LV)(b:LL)(i k:Nat)(c:AH)(j:Nat)(a:AF)(h:AH):Prop:=∃tm p,p+j=b.V.length/\a=F_ 123 tm/\h=c/\nth tm 2=.P k/\nth tm 3=.P (k+1)/\nth tm 7=.I (i:Int)/\nth tm 8=.bool (hasV x (b.V.take p))/\nth tm 9=.I (p:Int)
theorem c144 [RunsM K](va:VL a)(vb:VL b)(la:a.V.length<1000000)(lb:b.V.length<1000000):
  Ret K (123) [cB a,cB b] h λv _=>v=.bool (leqL a b):=by
 refine aV cf144 ?_;obtain⟨H,G,k0,n0,L,F⟩:=n2 h (.box [.I a.c,.eV a.V]) (.box [.I b.c,.eV b.V]);obtain⟨_,W,e1,⟨ba,rfl,ha⟩,z⟩:=c21 (h:=H) a o_;obtain⟨_,J,e2,⟨bb,rfl,hb⟩,C⟩:=c21 (h:=W) b o_;obtain rfl:=ha.2 va;obtain rfl:=hb.2 vb;have x:=z.up F;have o:=C.up (z.up L);have g:=C.up x;have k:=(k0.trans z).trans C;have ret:∀(tm:Tm) (r:Bool),nth tm 4=.bool r->leqL a b=r->Fin r138 (λv Z=>v=.bool (leqL a b)/\HK h Z) .ret (F_ 123 tm) J:=λtm r t4 e=>by
  subst e;exact Fr ⟨rfl,k⟩
 simp only[go_sem,aB];rw[<-G];clear G;simp only[go_sem,L,x,mZ,e1,e2,g];refine bo (I144 a b h.z J) b.V.length o_ ⟨_,0,z_ _,rfl,rfl,k_,k_,by simp only[go_sem];rfl,y_⟩ ?_;rintro j O H3 ⟨tm,p,U,rfl,rfl,m,l,B,R⟩;simp only[go_sem,l,R,g];refine aU (λn=>?_) (λD=>?_)
 ·have n:p<b.V.length:=o_;have c:b.V[p]?=some b.V[p]:=a_ n;have A:=aP p o_;have y:cQ b.V[p]=.agg [.I b.V[p].X,.I b.V[p].P]:=rfl;simp only[go_sem,l,B,R,g,c,y,max2,A];exact⟨j-1,o_,_,p+1,o_,rfl,rfl,q_ m,q_ l,by rw[botL_snoc c];simp only[go_sem],k_⟩
 obtain rfl:p=b.V.length:=o_;rw[K_]at B;simp only[go_sem,m,o,B];refine aU (λab=>?_) (λaa=>?_)
 ·simp only[go_sem];exact ret _ false k_ (by unfold leqL;rw[d_];rfl)
 simp only[go_sem];refine bo (J144 a b h.z H3) a.V.length o_ ⟨_,0,z_ _,rfl,rfl,q_ m,q_ l,y_,rfl⟩ ?_;rintro j O H5 ⟨tm,p,U,rfl,rfl,m,l,s,pre⟩;simp only[go_sem,m,s,o];refine aU (λn=>?_) (λD=>?_)
 ·have n:p<a.V.length:=o_;have c:a.V[p]?=some a.V[p]:=a_ n;have A:=aP p o_;have y:cQ a.V[p]=.agg [.I a.V[p].X,.I a.V[p].P]:=rfl;simp only[go_sem];refine bo (L144 a.V[p] b p h.z H5) b.V.length o_ ⟨_,0,z_ _,rfl,rfl,q_ m,q_ l,q_ s,y_,y_⟩ ?_;rintro Q O T ⟨tm,i,hi,rfl,rfl,m,l,s,t,E⟩;simp only[go_sem,l,E,g];refine aU (λq=>?_) (λM=>?_)
  ·have q:i<b.V.length:=o_;have f:b.V[i]?=some b.V[i]:=a_ q;have u:=aP i o_;have w:cQ b.V[i]=.agg [.I b.V[i].X,.I b.V[i].P]:=rfl;have ns:hasV a.V[p] (b.V.take (i+1))=(hasV a.V[p] (b.V.take i)||(decide (b.V[i].X=a.V[p].X)&&decide (b.V[i].P>=a.V[p].P))):=any_snoc f;have N:∀(tm:Tm),nth tm 2=.P h.z->nth tm 3=.P (h.z+1)->nth tm 7=.I (p:Int)->nth tm 8=.bool (hasV a.V[p] (b.V.take (i+1)))->nth tm 9=.I ((i+1:Nat):Int)->∃S,S<Q/\L144 a.V[p] b p h.z T S (F_ 123 tm) T:=λtm a1 a2 V Y X=>⟨Q-1,o_,tm,i+1,o_,rfl,rfl,a1,a2,V,Y,X⟩;cases P:hasV a.V[p] (b.V.take i) with
   |true=>
    rw[P]at ns t;simp only[go_sem,t,E,u];exact N _ (q_ m) (q_ l) (q_ s) (by rw[ns];simp only[go_sem]) k_
   |false=>
    rw[P]at ns t;cases I:decide (b.V[i].X=a.V[p].X)<;>(rw[I]at ns;simp only[go_sem,m,l,s,t,E,o,g,c,f,y,w,u,I];exact N _ (q_ m) (q_ l) (q_ s) (by rw[ns];simp only[go_sem]) k_)
  obtain rfl:i=b.V.length:=o_;rw[K_]at t;simp only[go_sem,t];cases d:hasV a.V[p] b.V with
  |false=>
   simp only[go_sem];exact ret _ false k_ (by unfold leqL;rw[all_not c d];simp)
  |true=>
   simp only[go_sem,s,A];exact⟨j-1,o_,_,p+1,o_,rfl,rfl,q_ m,q_ l,k_,all_snoc c pre d⟩
 obtain rfl:p=a.V.length:=o_;rw[K_]at pre;simp only[go_sem];exact ret _ true k_ (by unfold leqL;rw[pre,t_];rfl)
end
def lv0 (t:T):LL:=(t.L[0]?).getD ⟨0,[]⟩
def kd (j:Nat)(t:T):T:=(t.K[j]?).getD t
def blw:Nat->T->T->Prop
 |0,_,_=>False
 |n+1,x,y=>
  if x.D=1/\(y.D=1\/y.D=2) then True
  else if x.D=2/\y.D=2 then leqL (lv0 x) (lv0 y)=true
  else if x.D=6/\y.D=6 then kd 0 x=kd 0 y/\blw n (kd 1 x) (kd 1 y)
  else if x.D=7/\y.D=7 then blw n (kd 0 x) (kd 0 y)/\blw n (kd 1 x) (kd 1 y)
  else x=y
theorem kids_2 {x:T}(t:TOK x)(h:x.D=6\/x.D=7):∃a b,x.K=[a,b]/\TOK a/\TOK b/\aO a<aO x/\aO b<aO x:=by
 obtain⟨k,i,nm,ls,c⟩:=x;unfold TOK at t;have e:=t.1.K;have q:=dh.1 t.2;have d:c.length=2:=by
  rcases h with h|h<;>(change k=_ at h;subst h;simp[cN]at e;omega)
 obtain⟨a,b,rfl⟩:∃a b,c=[a,b]:=by
  match c,d with
  |[a,b],_=>exact⟨a,b,rfl⟩
 exact⟨a,b,rfl,q a (by simp),q b (by simp),by simp only[aO,ba];omega,by simp only[aO,ba];omega⟩
theorem lev_1 {x:T}(t:TOK x)(h:x.D=2):x.L=[lv0 x]/\VL (lv0 x):=by
 obtain⟨k,i,nm,ls,b⟩:=x;unfold TOK at t;have e:=t.1.lev.1 h;obtain⟨a,rfl⟩:∃a,ls=[a]:=by
  match ls,e with
  |[a],_=>exact⟨a,rfl⟩
 exact⟨rfl,t.1.val a (by simp)⟩
theorem blw_refl:∀(n:Nat) (x:T),aO x<=n->TOK x->blw n x x:=by
 intro n;induction n with
 |zero=>intro x h;have:=bI x;omega
 |succ n d=>
  intro x h t;unfold blw;split
  ·trivial
  split
  ·exact leqL_refl _
  split
  ·rename_i q;obtain⟨a,b,e,f,c,i,g⟩:=kids_2 t (.inl q.1);exact⟨rfl,by unfold kd;rw[e];exact d b o_ c⟩
  split
  ·rename_i q;obtain⟨a,b,e,f,c,i,g⟩:=kids_2 t (.inr q.1);unfold kd;rw[e];exact⟨d a o_ f,d b o_ c⟩
  rfl
end Go.Proofs.YtocdlbblemjabaaGreatDoor
