/- Lemmas for MachineOrders (no condition). -/
import Derived.Test.YtocdlbblemjabaaGreatDoorBr
set_option linter.defProp false
namespace Go.Proofs.YtocdlbblemjabaaGreatDoor
open Go.AG Go.AG.MK
variable {h e:AH}{c f:AV}{d:DV}{a:List DV}{l:List T}{b:Nat}
section
variable {K:aN}{h:AH}
def I1167 (d:DV)(b:Nat)(e:AH)(j:Nat)(a:AF)(h:AH):Prop:=∃tm p c,p+j=d.C.length/\a=F_ 167 tm/\pz d b e h/\nth tm 1=.P b/\nth tm 4=.I (p:Int)/\nth tm 3=.bool c/\(c=true->d.f<=(leadN d.type:Int)/\∀(i:Nat) x,i<p->d.C[i]?=some x->d.f<=(leadN x.type:Int))
theorem c1167 [RunsM K](d:DV)(r:FD d):
  Ret K (167) [gJ d] h λv _=>∃b,v=.bool b/\(b=true->FX d):=by
 refine aV aeu ?_;rw[bX];have⟨H,g⟩:∃H:AH,H=h.new (.box (aQ d)):=⟨_,rfl⟩;have z:pz d h.z h H:=⟨by rw[g];exact HK.new _ _,by rw[g,aB];omega,by rw[g,aD]⟩;have ret:∀(tm:Tm) (b:Bool) (H:AH),HK h H->nth tm 2=.bool b->(b=true->FX d)->Fin VY (λI G=>(∃b,I=.bool b/\(b=true->FX d))/\HK h G) .ret (F_ 167 tm) H:=λtm b H hk o M=>
  Fr ⟨⟨_,rfl,M⟩,hk⟩
 have E:=z.g;unfold aQ at E;obtain⟨v,_,w,rfl,N⟩:=abG (h:=H) d.type (by have:=r.ty;omega);rw[aJ]at w;have B:=z.up N;have u:=B.g;unfold aQ at u;simp only[go_sem,<-g];clear g;simp only[go_sem,E,w,u];refine bo (I1167 d h.z h) d.C.length (by have:=r.cl;omega) ⟨_,0,decide ((leadN d.type:Int)>=d.f),z_ _,rfl,B,k_,y_,k_,λq=>⟨O_ q,λi x hi=>by omega⟩⟩ ?_;rintro j R D ⟨tm,p,c,P,rfl,m,f,o,s,n⟩;have t:=m.g;unfold aQ at t;have T:=r.cl;simp only[go_sem,f,o,t];refine aU (λl=>?_) (λL=>?_)
 ·have l:p<d.C.length:=o_;have a:=a_ l;have k:=(r.ct _ (m_ a)).2;revert a k;generalize d.C[p]=ct;intro a k;have J:=aR encCt_len a .i64;have e:cy (.vp (jb ct)) 1 5 true=some (.vp (.agg (aG ct.type))):=rfl;unfold aG at e;have F:=aP p o_;cases c with
  |false=>
   simp only[go_sem,s,o,F];exact⟨j-1,o_,_,p+1,false,o_,rfl,m,q_ f,k_,k_,by simp⟩
  |true=>
   obtain⟨_,_,C,rfl,O⟩:=abG (h:=D) ct.type o_;rw[aJ]at C;have y:=m.up O;have A:=y.g;unfold aQ at A;simp only[go_sem,f,s,o,t,J,e,C,A,F];exact⟨j-1,o_,_,p+1,decide ((leadN ct.type:Int)>=d.f),o_,rfl,y,q_ f,k_,k_,λq=>⟨(n rfl).1,λi x hi hx=>by
    by_cases qi:i=p
    ·subst qi;rw[a]at hx;cases hx;exact O_ q
    exact(n rfl).2 i x o_ hx⟩⟩
 simp only[go_sem,s];exact ret _ c D m.hk k_ λq=>⟨(n q).1,λx hx=>by
  have⟨i,hi⟩:=J_ hx;exact(n q).2 i x (by have:=(E_.1 hi).1;omega) hi⟩
structure CN (d:DV):Prop where
 fx0:0<=d.f
 fx1:d.D=3->FX d
 fn:∀f∈d.F,1<=f.a/\f.a<=16
def I1132 (d:DV)(b:Nat)(c:AH)(j:Nat)(a:AF)(h:AH):Prop:=∃tm p,p+j=d.F.length/\a=F_ 132 tm/\pz d b c h/\nth tm 1=.P b/\nth tm 3=.I (p:Int)/\∀(i:Nat) x,i<p->d.F[i]?=some x->1<=x.a/\x.a<=16
theorem c1132 [RunsM K](d:DV)(M:FD d):
  Ret K (132) [gJ d] h λv _=>∃e:Int,v=.I e/\(e=0->CN d):=by
 refine aV aeQ ?_;rw[bX];have⟨H,w⟩:∃H:AH,H=h.new (.box (aQ d)):=⟨_,rfl⟩;have G:pz d h.z h H:=⟨by rw[w];exact HK.new _ _,by rw[w,aB];omega,by rw[w,aD]⟩;have ret:∀(tm:Tm) (e:Int) (H:AH),HK h H->nth tm 2=.I e->(e=0->CN d)->Fin Fk (λn m=>(∃e:Int,n=.I e/\(e=0->CN d))/\HK h m) .ret (F_ 132 tm) H:=λtm e H hk Y O=>
  Fr ⟨⟨_,rfl,O⟩,hk⟩
 have E:∀(tm:Tm) (H:AH),pz d h.z h H->nth tm 1=.P h.z->0<=d.f->(∀f∈d.F,1<=f.a/\f.a<=16)->R_ K [.code zi] (Fin Fk (λn m=>(∃e:Int,n=.I e/\(e=0->CN d))/\HK h m)) .normal (F_ 132 tm) H:=by
  intro tm H q g t y;have l:=q.g;unfold aQ at l;have⟨Q,r⟩:∃x,decide (d.D=3)=x:=⟨_,rfl⟩;have⟨o,a⟩:∃x,decide (d.rp=d.Q)=x:=⟨_,rfl⟩;have⟨s,c⟩:∃x,decide (d.rp=IntKind.wrap .i64 (d.Q+1))=x:=⟨_,rfl⟩;have⟨xc,k⟩:∃x,decide ((d.R.length:Int)=(d.C.length:Int))=x:=⟨_,rfl⟩;cases Q
  case false=>
   have hk:=U_ r;simp only[go_sem,zi,g,l,r];exact ret _ 0 H q.hk k_ (λ_=>⟨t,λq=>absurd q hk,y⟩)
  obtain⟨_,_,D,⟨S,rfl,I⟩,T⟩:=c1167 (h:=H) d M;rw[bX]at D;have L:=q.up T;unfold aQ at D;cases o<;>cases s<;>cases xc<;>cases S<;>simp only[go_sem,zi,g,l,r,a,c,k,D]<;>
   first|(refine ret _ 3 _ L.hk ?_ (λe=>nomatch e);simp only[go_sem];done)|(refine ret _ 3 _ q.hk ?_ (λe=>nomatch e);simp only[go_sem];done)|(refine ret _ 0 _ L.hk ?_ (λ_=>⟨t,λ_=>I rfl,y⟩);simp only[go_sem];done)
 have F:∀(tm:Tm) (H:AH),pz d h.z h H->nth tm 1=.P h.z->0<=d.f->R_ K [.code DT] (Fin Fk (λn m=>(∃e:Int,n=.I e/\(e=0->CN d))/\HK h m)) .normal (F_ 132 tm) H:=by
  intro tm H q g t;have fl:=M.fl;simp only[go_sem,DT];refine bo (I1132 d h.z h) d.F.length o_ ⟨_,0,z_ _,rfl,q,q_ g,y_,λi x hi=>by omega⟩ ?_;clear q g H tm;rintro j X Z ⟨tm,p,V,rfl,u,g,B,pre⟩;have A:=u.g;unfold aQ at A;simp only[go_sem,g,B,A];refine aU (λz=>?_) (λN=>?_)
  ·have z:p<d.F.length:=o_;have b:=a_ z;revert b;generalize d.F[p]=f;intro b;have U:=aP p o_;have⟨o,a⟩:∃x,decide (f.a<1)=x:=⟨_,rfl⟩;have⟨s,c⟩:∃x,decide (f.a > 16)=x:=⟨_,rfl⟩;cases o
   case true=>
    simp only[go_sem,g,B,A,b,a];exact ret _ 3 _ u.hk k_ (λe=>nomatch e)
   cases s
   case true=>
    simp only[go_sem,g,B,A,b,a,c];exact ret _ 3 _ u.hk k_ (λe=>nomatch e)
   simp only[go_sem,g,B,A,b,a,c,U];refine⟨j-1,o_,_,p+1,o_,rfl,u,q_ g,k_,λi x hi hx=>?_⟩;by_cases qi:i=p
   ·subst qi;rw[b]at hx;cases hx;have:=U_ a;have:=U_ c;omega
   exact pre i x o_ hx
  simp only[go_sem];exact E _ _ u (q_ g) t (lU λi x hi hx=>pre i x o_ hx)
 have J:∀(tm:Tm) (H:AH),pz d h.z h H->nth tm 1=.P h.z->0<=d.f->R_ K [.code DQ] (Fin Fk (λn m=>(∃e:Int,n=.I e/\(e=0->CN d))/\HK h m)) .normal (F_ 132 tm) H:=by
  intro tm H q g t;have l:=q.g;unfold aQ at l;have⟨o,a⟩:∃x,decide ((d.C.length:Int) > 32)=x:=⟨_,rfl⟩;have⟨s,c⟩:∃x,decide (d.D=4)=x:=⟨_,rfl⟩;have⟨xc,k⟩:∃x,decide ((d.F.length:Int)<1)=x:=⟨_,rfl⟩;have⟨P,C⟩:∃x,decide ((d.F.length:Int) > 8)=x:=⟨_,rfl⟩;cases o<;>cases s<;>cases xc<;>cases P<;>simp only[go_sem,DQ,g,l,a,c,k,C]<;>
   first|(refine ret _ 6 _ q.hk ?_ (λe=>nomatch e);simp only[go_sem];done)|(refine F _ _ q ?_ t;simp only[go_sem,g];done)
 have l:=G.g;unfold aQ at l;simp only[go_sem,<-w];clear w;have⟨o,a⟩:∃x,decide (d.Q<0)=x:=⟨_,rfl⟩;have⟨s,c⟩:∃x,decide (d.Q > 8)=x:=⟨_,rfl⟩;have⟨xc,k⟩:∃x,decide (d.f<0)=x:=⟨_,rfl⟩;cases o<;>cases s<;>cases xc<;>simp only[go_sem,l,a,c,k]<;>
  first|(refine ret _ 2 _ G.hk ?_ (λe=>nomatch e);simp only[go_sem];done)|(refine J _ _ G ?_ (by have:=U_ k;omega);simp only[go_sem];done)
def wo (l:List ByteArray):(AV.ls (l.map AV.str)).free=true:=by exact bY (λ_=>rfl) l
def I1133 (a:List DV)(l:List ByteArray)(c:AH)(j:Nat)(b:AF)(h:AH):Prop:=∃tm p,p+j=l.length/\b=F_ 133 tm/\HK c h/\nth tm 0=.eD a/\nth tm 5=.ls (l.map AV.str)/\nth tm 6=.I (p:Int)
theorem c1133 [RunsM K](a:List DV)(d:DV)(ds:∀d∈a,DS d)(R:a.length<1000)(k:FD d):
  Ret K (133) [.eD a,gJ d] h λv _=>∃e:Int,v=.I e:=by
 refine aV aeP ?_;rw[bX];have⟨H,u⟩:∃H:AH,H=h.new (.box (aQ d)):=⟨_,rfl⟩;have C:pz d h.z h H:=⟨by grind [HK.new],by rw[u,aB];omega,by grind [aD]⟩;have t:DS d:=⟨by have:=k.cl;omega,by have:=k.fl;omega,by have:=k.N;omega⟩;have ret:∀(tm:Tm) (e:Int) (H:AH),HK h H->nth tm 4=.I e->Fin Wa (λI G=>(∃e:Int,I=.I e)/\HK h G) .ret (F_ 133 tm) H:=λtm e H hk t4=>
  Fr ⟨⟨_,rfl⟩,hk⟩
 have F:=C.g;unfold aQ at F;obtain⟨v,_,r,⟨l,rfl,_,_,nb,_⟩,Q⟩:=QW (h:=H) d t;have nb:=nb 200 k.N (λc S=>(k.ct c S).1) (λf J=>(k.fn f J).1);rw[bX]at r;unfold aQ at r;simp only[go_sem,<-u];clear u;simp only[go_sem,F,r];refine bo (I1133 a l h) l.length o_ ⟨_,0,o_,rfl,C.hk.trans Q,k_,k_,y_⟩ ?_;rintro j fr E ⟨tm,p,X,rfl,y,t0,i,m⟩;simp only[go_sem,i,m];refine aU (λw=>?_) (λN=>?_)
 ·have w:p<l.length:=o_;have b:l[p]?=some l[p]:=g_;have hs:=nb _ (m_ b);revert b hs;generalize l[p]=s;intro b hs;have q:=aR (f:=AV.str) (sz:=1) (λ_=>rfl) o_ .i64;have W:=aP p o_;obtain⟨v,M,A,⟨U,rfl,_⟩,rfl⟩:=c70 (h:=E) s o_;cases U with
  |false=>
   simp only[go_sem,i,m,q,A];exact ret _ 29 _ y k_
  |true=>
   obtain⟨v,B,T,⟨e,f,rfl,_⟩,V⟩:=QX (h:=M) a s ds R;have⟨O,n,L,_⟩:=ns B (.box zE) (.box (aY e));have g:=kq (aD B (.box zE)) rfl e;rw[<-n]at g;unfold zE at g;clear n;have x:=(y.trans V).trans L;simp only[go_sem,t0,i,m,q,A,T,g];by_cases qf:f=0
   ·subst qf;simp only[go_sem];exact ret _ 8 _ x k_
   have z:decide (f=0)=false:=g_;obtain⟨_,_,D,⟨P,rfl,_⟩,_⟩:=WM (h:=O) (l.take p) s (by rw[Y_];omega);have o:=nR (f:=AV.str) (sz:=1) (λ_=>rfl) l .i64 p o_;cases P with
   |true=>
    simp only[go_sem,z,i,m,o,q,D];exact ret _ 8 _ g_ k_
   |false=>
    simp only[go_sem,z,i,m,o,q,D,W];exact⟨j-1,o_,_,p+1,o_,rfl,g_,q_ t0,q_ i,k_⟩
 simp only[go_sem];exact ret _ 0 E y k_
def ez (a:List DV)(b:AV)(d:DV):List AV:=.eD a::b::aQ d
theorem Zb (a:List DV){b:AV}(d:DV)(e:b.free=true):(AV.agg (ez a b d)).free=true:=by
 have f:=lp d;rw[bX]at f;simp only[AV.free]at f;have c:=bY lp a;simp only[ez,AV.free,AV.frees,f,c,e,Bool.and_self]
def Vj (a:List DV){b:List ByteArray}(d:DV)(e:c.free=true)(f:c.norm=.ls (b.map AV.str))(h:AH):cw (.agg (ez a c d)) h=(mr a b d,h):=by
 have n:=lj d;rw[bX]at n;simp only[AV.norm]at n;have n:AV.norms (aQ d)=aQ d:=by injection n
 rw[bQ (Zb a d e)];simp only[mr,ez,AV.norm,AV.norms,n,bB lj,f]
def uU [RunsM K](a:List DV){OV:AV}(b:List ByteArray)(d:DV)(g:OV.free=true)(i:OV.norm=.ls (b.map AV.str))(f:SC a b d)(t:T)(c:Int)(h:AH)(hs:aO t<=400)(bt:BT t):
  Ret K (170) [.agg (ez a OV d),enc t,.I 0,.I c] h λv _=>∃e:Int,v=.I e/\(e=0->TOK t):=by
 have⟨v,j,e,r⟩:=abK (h:=h) a b d f 400 t 0 c hs o_ bt o_;rw[<-dJ (f:=170) (c:=[]) (ae (Vj a d g i h) (ae (cJ t h) (ae (aL .i64 0 h) (ae (aL .i64 c h) (aH _))))) (ae (KI _ _ _ h) (ae (cJ t h) (ae (aL .i64 0 h) (ae (aL .i64 c h) (aH _)))))]at e;exact⟨v,j,e,r⟩
theorem aga [RunsM K](a:List DV)(b:List ByteArray)(d:DV)(j:f.free=true)(k:f.norm=.ls (b.map AV.str))(g:SC a b d)(m:SE a)(t:gK)(c:Int)(h:AH)(hs:ts t<=9000000)(i:SmT t 40)(bt:BTr t)(n:1<=c)(o:c<=16):
  Ret K (171) [.agg (ez a f d),.agg (bc t),.I c,.I 0] h λv _=>∃e:Int,v=.I e/\(e=0->TB t):=by
 have⟨v,l,e,r⟩:=c1171 a b d g m 9000000 t 40 c 0 h hs o_ i bt o_ o_;rw[cj]at e;rw[<-dJ (f:=171) (c:=[]) (ae (Vj a d j k h) (ae (oL t h) (ae (aL .i64 c h) (ae (aL .i64 0 h) (aH _))))) (ae (KI _ _ _ h) (ae (oL t h) (ae (aL .i64 c h) (ae (aL .i64 0 h) (aH _)))))]at e;exact⟨v,l,e,r⟩
def TV (a:List DV)(d:DV):lT [.nl,.nl,.I 0,.str (bs []),.I 0,.I 0,.I 0,.str (bs []),.nl,.nl,.I 0,.I 0,.str (bs []),.nl,.nl,.I 0,.nl,.I 0,.I 0,.I 0,.str (bs []),.nl,.nl,.nl,.nl]
  [(0,1,.eD a),(2,23,.agg (aQ d))]=some (.agg (ez a .nl d)):=(rfl)
def NN {k:Nat}{a b V:AV}{d:List AV}(g:h.get k=some (.box (a::b::d)))(e:V.lies=true)(c:V.cells=[V]):cY (.ptr k 0 1) h 1 V=some (h.set k (.box (a::V::d))):=by
 rw[jF _ _ _ _ e (by rw[c];rfl),g,aK,c,qW _ _ _ (by simp),aK];rfl
structure TM (d:DV):Prop where
 v:d.D=1->TOK d.v
 R:d.D=3->∀r∈d.R,TOK r
 F:d.D=4->∀f∈d.F,TB f.tree
structure xO (env:List DV)(OV:AV)(d:DV)(b:Nat)(h0 h:AH):Prop where
 hk:HK h0 h
 hb:h0.z<=b
 hn:b+1<h.z
 g0:h.get b=some (.box (aQ d))
 g1:h.get (b+1)=some (.box (ez env OV d))
def xO.up {f:AH}(q:xO a c d b f h)(k:HK h e):xO a c d b f e:=
 ⟨q.hk.trans k,q.hb,by have:=k.z;have:=q.hn;omega,(k.kw _ (by have:=q.hn;omega)).trans q.g0,(k.kw _ q.hn).trans q.g1⟩
def xO.put (q:xO a f d b e h)(c:AV):xO a c d b e (h.set (b+1) (.box (ez a c d))):=
 ⟨q.hk.set _ (by have:=q.hb;omega),q.hb,by rw[aE];exact q.hn,by rw[aA o_];exact q.g0,aF _ _ _⟩
def QZ (a:List DV)(c:AV)(d:DV)(b f n:Nat)(P:Nat->Prop)(g:AH)(j:Nat)(e:AF)(h:AH):Prop:=∃tm p,p+j=n/\e=F_ 134 tm/\xO a c d b g h/\nth tm 3=.P b/\nth tm 5=.P (b+1)/\nth tm f=.I (p:Int)/\P p
theorem wm (l:List ByteArray):(AV.ls (l.map AV.str)).norm=.ls (l.map AV.str):=by simp only[AV.norm,bB (f:=AV.str) (λ_=>rfl)]
theorem c1134 [RunsM K](b:List DV)(d:DV)(J:SC b [] d)(se:SE b)(G:FD d)(U:BD d)(cn:CN d):
  Ret K (134) [.eD b,gJ d] h λv _=>∃e:Int,v=.I e/\(e=0->TM d):=by
 have P:∀Z:List ByteArray,Z.length<=10000->SC b Z d:=λZ h=>⟨J.ds,J.d,J.len,h⟩;refine aV aeO ?_;rw[bX];have⟨H,hH,_,n0,ad⟩:=nw h (.box (aQ d));have⟨HA,D⟩:∃HA:AH,HA=(H.new (.box [.nl,.nl,.I 0,.str (bs []),.I 0,.I 0,.I 0,.str (bs []),.nl,.nl,.I 0,.I 0,.str (bs []),.nl,.nl,.I 0,.nl,.I 0,.I 0,.I 0,.str (bs []),.nl,.nl,.nl,.nl])).set (h.z+1) (.box (ez b .nl d)):=⟨_,rfl⟩;have Q:=aS (h:=H.new (.box [.nl,.nl,.I 0,.str (bs []),.I 0,.I 0,.I 0,.str (bs []),.nl,.nl,.I 0,.I 0,.str (bs []),.nl,.nl,.I 0,.nl,.I 0,.I 0,.I 0,.str (bs []),.nl,.nl,.nl,.nl])) (vs:=ez b .nl d) (sz:=25) (aD _ _) rfl rfl;rw[n0,<-D]at Q;have qA:xO b .nl d h.z h HA:=by
  refine⟨?_,e_ _,?_,?_,?_⟩
  ·rw[D];exact HK.set (by rw[hH];exact(HK.new _ _).add _) _ o_
  ·rw[D,aE,aB];omega
  ·rw[D,aA o_,aM o_];exact ad
  rw[D,aF]
 clear D;have ret:∀(tm:Tm) (e:Int) (H:AH),HK h H->nth tm 4=.I e->(e=0->TM d)->Fin QB (λv' h3=>(∃e:Int,v'=.I e/\(e=0->TM d))/\HK h h3) .ret (F_ 134 tm) H:=λtm e H hk t4 L=>
  Fr ⟨⟨_,rfl,L⟩,hk⟩
 have cl:=G.cl;have rl:=G.rl;have fl:=G.fl;have st:∀(tm:Tm) (H:AH),xO b .nl d h.z h H->nth tm 3=.P h.z->nth tm 5=.P (h.z+1)->R_ K [.code mU] (Fin QB (λv' h3=>(∃e:Int,v'=.I e/\(e=0->TM d))/\HK h h3)) .normal (F_ 134 tm) H:=by
  intro tm H q n r;have o:=q.g0;have u:=q.g1;unfold aQ at o;unfold ez aQ at u;have⟨x1,B⟩:∃x,decide (d.D=1)=x:=⟨_,rfl⟩;have⟨x2,C⟩:∃x,decide (d.D=2)=x:=⟨_,rfl⟩;have⟨x3,F⟩:∃x,decide (d.D=3)=x:=⟨_,rfl⟩;have⟨x4,S⟩:∃x,decide (d.D=4)=x:=⟨_,rfl⟩;cases x1
  case true=>
   have hk:=O_ B;obtain⟨v,w,g,⟨e,rfl,L⟩,s⟩:=uU b [] d (OV:=.nl) rfl rfl J d.v d.Q H G.v U.v;rw[aJ]at g;unfold ez aQ at g;simp only[go_sem,mU,n,r,o,u,B,g];exact ret _ e _ (q.hk.trans s) k_ (λz=>⟨λ_=>L z,λq=>by omega,λq=>by omega⟩)
  have an:=U_ B;cases x2
  case true=>
   have hk:=O_ C;obtain⟨v,w,g,⟨e,rfl,L⟩,s⟩:=uU b [] d (OV:=.nl) rfl rfl J d.v d.Q H G.v U.v;rw[aJ]at g;unfold ez aQ at g;simp only[go_sem,mU,n,r,o,u,B,C,g];exact ret _ e _ (q.hk.trans s) k_ (λz=>⟨λq=>by omega,λq=>by omega,λq=>by omega⟩)
  have al:=U_ C;cases x3
  case true=>
   have hk:=O_ F;have q1:=q.put (.clip [.str d.N]);unfold ez aQ at q1;have ag:=NN (V:=.clip [.str d.N]) u rfl rfl;simp only[go_sem,mU,n,r,o,B,C,F,ag];refine bo (QZ b (.clip [.str d.N]) d h.z 7 d.C.length (λ_=>True) h) d.C.length o_ ⟨_,0,z_ _,rfl,q1,q_ n,q_ r,y_,trivial⟩ ?_;clear ag q q1 o u n r H tm;rintro j fr I ⟨tm,p,hp,rfl,q,n,r,t7,_⟩;have o:=q.g0;have u:=q.g1;unfold aQ at o;unfold ez aQ at u;simp only[go_sem,n,t7,o];refine aU (λt=>?_) (λX=>?_)
   ·have t:p<d.C.length:=o_;have a:=a_ t;have c:=m_ a;have m:=(G.ct _ c).2;have k:=U.ct _ c;revert a m k;generalize d.C[p]=ct;intro a m k;have V:=aR encCt_len a .i64;have E:cy (.vp (jb ct)) 1 5 true=some (.vp (.agg (aG ct.type))):=rfl;have hw:=aP p o_;obtain⟨v,w,g,⟨e,rfl,_⟩,s⟩:=uU b [d.N] d (OV:=.clip [.str d.N]) rfl rfl (P _ (by simp)) ct.type d.Q I m k;rw[aJ]at g;unfold ez aQ at g;unfold aG at E;simp only[go_sem,n,r,t7,o,u,V,E,g];by_cases qe:e=0
    ·subst qe;simp only[go_sem,t7,hw];exact⟨j-1,o_,_,p+1,o_,rfl,q.up s,q_ n,q_ r,k_,trivial⟩
    have M:=D_ qe;simp only[go_sem,M];exact ret _ e w (q.hk.trans s) k_ (λq=>absurd q qe)
   obtain⟨v,w,g,⟨l,rfl,ll,l2,_,_⟩,s⟩:=QW (h:=I) d J.d;rw[bX]at g;unfold aQ at g;have l2:=l2 hk;have q3:=q.up s;have A:=q3.g1;unfold ez aQ at A;have aj:IntKind.wrap .i64 ((l.length:Int)-1)=((l.length-1:Nat):Int):=by rw[aW _ o_ o_];omega
   have ai:=nR (f:=AV.str) (sz:=1) (λ_=>rfl) l .i64 (l.length-1) o_;have T:=q3.put (.ls ((l.take (l.length-1)).map AV.str));have O:=T.g0;have ab:=T.g1;obtain⟨v,H5,e5,⟨e,rfl,L⟩,k5⟩:=uU b (l.take (l.length-1)) d (wo _) (wm _) (P _ (by rw[Y_];omega)) d.rt d.rp (w.set (h.z+1) (.box (ez b (.ls ((l.take (l.length-1)).map AV.str)) d))) G.rty U.rty;rw[aJ]at e5;have q5:=T.up k5;have af:=q5.g1;unfold ez aQ at e5 ab af;unfold ez at O;unfold aQ at O;simp only[go_sem,n,r,o,g,aj,ai,A,O,ab,e5];by_cases qe:e=0
   case neg=>
    simp only[go_sem,qe];exact ret _ e H5 q5.hk k_ (λq=>absurd q qe)
   subst qe;have q6:=q5.put (.ls (l.map AV.str));unfold ez aQ at q6;simp only[go_sem,r,af];refine bo (QZ b (.ls (l.map AV.str)) d h.z 11 d.R.length (λp=>∀(i:Nat) x,i<p->d.R[i]?=some x->TOK x) h) d.R.length o_ ⟨_,0,z_ _,rfl,q6,q_ n,q_ r,y_,λi x hi=>by omega⟩ ?_;clear q6 q5 T q3 af ab O A o u q n r g e5 s k5 w H5;rintro j fr I ⟨tm,p,hp,rfl,q,n,r,W,pre⟩;have o:=q.g0;have u:=q.g1;unfold aQ at o;unfold ez aQ at u;simp only[go_sem,n,W,o];refine aU (λt=>?_) (λX=>?_)
   ·have t:p<d.R.length:=o_;have a:=a_ t;have c:=m_ a;have m:=G.rr _ c;have k:=U.rr _ c;revert a m k;generalize d.R[p]=x;intro a m k;have V:=aR bH a .i64;have hw:=aP p o_;obtain⟨v,w,g,⟨e,rfl,L⟩,s⟩:=uU b l d (wo l) (wm l) (P _ o_) x d.rp I m k;unfold ez aQ at g;simp only[go_sem,n,r,W,o,u,V,g];by_cases qe:e=0
    ·subst qe;simp only[go_sem,W,hw];refine⟨j-1,o_,_,p+1,o_,rfl,q.up s,q_ n,q_ r,k_,λi y hi hy=>?_⟩;by_cases qi:i=p
     ·subst qi;rw[a]at hy;cases hy;exact L rfl
     exact pre i y o_ hy
    have M:=D_ qe;simp only[go_sem,M];exact ret _ e w (q.hk.trans s) k_ (λq=>absurd q qe)
   simp only[go_sem];exact ret _ 0 I q.hk k_ (λ_=>⟨λq=>by omega,λ_=>lU λi x hi hx=>pre i x o_ hx,λq=>by omega⟩)
  have am:=U_ F;cases x4
  case false=>
   have ak:=U_ S;simp only[go_sem,mU,n,o,B,C,F,S];exact ret _ 0 H q.hk k_ (λ_=>⟨λq=>by omega,λq=>by omega,λq=>by omega⟩)
  have hk:=O_ S;simp only[go_sem,mU,n,o,B,C,F,S];refine bo (QZ b .nl d h.z 13 d.F.length (λ_=>True) h) d.F.length o_ ⟨_,0,z_ _,rfl,q,q_ n,q_ r,y_,trivial⟩ ?_;clear q o u n r H tm;rintro j fr I ⟨tm,p,hp,rfl,q,n,r,Y,_⟩;have o:=q.g0;have u:=q.g1;unfold aQ at o;unfold ez aQ at u;simp only[go_sem,n,Y,o];refine aU (λt=>?_) (λX=>?_)
  ·have t:p<d.F.length:=o_;have a:=a_ t;have c:=m_ a;have m:=(G.fn _ c).2.1;have k:=(U.fn _ c).1;revert a m k;generalize d.F[p]=f;intro a m k;have V:=aR encFn_len a .i64;have E:cy (.vp (gk f)) 1 5 true=some (.vp (.agg (aG f.type))):=rfl;have hw:=aP p o_;obtain⟨v,w,g,⟨e,rfl,_⟩,s⟩:=uU b [] d (OV:=.nl) rfl rfl J f.type d.Q I m k;rw[aJ]at g;unfold ez aQ at g;unfold aG at E;simp only[go_sem,n,r,Y,o,u,V,E,g];by_cases qe:e=0
   ·subst qe;simp only[go_sem,Y,hw];exact⟨j-1,o_,_,p+1,o_,rfl,q.up s,q_ n,q_ r,k_,trivial⟩
   have M:=D_ qe;simp only[go_sem,M];exact ret _ e w (q.hk.trans s) k_ (λq=>absurd q qe)
  obtain⟨v,w,g,⟨l,rfl,_,_,_,_⟩,s⟩:=QW (h:=I) d J.d;rw[bX]at g;unfold aQ at g;have q3:=q.up s;have A:=q3.g1;have T:=q3.put (.ls (l.map AV.str));unfold ez aQ at A T;simp only[go_sem,n,r,o,g,A];refine bo (QZ b (.ls (l.map AV.str)) d h.z 15 d.F.length (λp=>∀(i:Nat) x,i<p->d.F[i]?=some x->TB x.tree) h) d.F.length o_ ⟨_,0,z_ _,rfl,T,q_ n,q_ r,y_,λi x hi=>by omega⟩ ?_;clear T q3 A o u q n r g s w;rintro j fr I ⟨tm,p,hp,rfl,q,n,r,aa,pre⟩;have o:=q.g0;have u:=q.g1;unfold aQ at o;unfold ez aQ at u;simp only[go_sem,n,aa,o];refine aU (λt=>?_) (λX=>?_)
  ·have t:p<d.F.length:=o_;have a:=a_ t;have c:=m_ a;have m:=(G.fn _ c).2.2;have k:=(U.fn _ c).2;have N:=cn.fn _ c;revert a m k N;generalize d.F[p]=f;intro a m k N;have V:=aR encFn_len a .i64;have hw:=aP p o_;obtain⟨v,w,g,⟨e,rfl,L⟩,s⟩:=aga b l d (wo l) (wm l) (P _ o_) se f.tree f.a I k.2 m k.1 N.1 N.2;unfold ez aQ at g;simp only[go_sem,n,r,aa,o,u,V,g];by_cases qe:e=0
   ·subst qe;simp only[go_sem,aa,hw];refine⟨j-1,o_,_,p+1,o_,rfl,q.up s,q_ n,q_ r,k_,λi y hi hy=>?_⟩;by_cases qi:i=p
    ·subst qi;rw[a]at hy;cases hy;exact L rfl
    exact pre i y o_ hy
   have M:=D_ qe;simp only[go_sem,M];exact ret _ e w (q.hk.trans s) k_ (λq=>absurd q qe)
  simp only[go_sem];exact ret _ 0 I q.hk k_ (λ_=>⟨λq=>by omega,λq=>by omega,λ_=>lU λi x hi hx=>pre i x o_ hx⟩)
 have hd:=ad;have hb:=TV b d;have gH:(H.new (.box [.nl,.nl,.I 0,.str (bs []),.I 0,.I 0,.I 0,.str (bs []),.nl,.nl,.I 0,.I 0,.str (bs []),.nl,.nl,.I 0,.nl,.I 0,.I 0,.I 0,.str (bs []),.nl,.nl,.nl,.nl])).get h.z=some (.box (aQ d)):=by rw[aM o_];exact ad
 have ac:=qA.g0;have ah:=qA.g1;unfold aQ at hd gH ac;unfold ez aQ at hb ah Q;simp only[go_sem,<-hH,hd,hb,n0,Q,ac];clear hH Q hb;by_cases k4:d.D=4
 ·have d4:=T_ k4;simp only[go_sem,d4];exact st _ _ qA k_ k_
 have d4:=D_ k4;obtain⟨_,w,g,⟨e,rfl,_⟩,s⟩:=uU b [] d (OV:=.nl) rfl rfl J d.type d.Q HA G.ty U.ty;rw[aJ]at g;unfold ez aQ at g;simp only[go_sem,d4,ac,ah,g];by_cases qe:e=0
 ·subst qe;simp only[go_sem];exact st _ _ (qA.up s) k_ k_
 have M:=D_ qe;simp only[go_sem,M];exact ret _ e w (qA.hk.trans s) k_ (λq=>absurd q qe)
end
structure OE (d:DV):Prop where
 od:OD d
 fx:d.f<=400
theorem OE.of (h:FD d)(un:UN d)(b:CN d)(tm:TM d)(i:0<=d.D)(g:d.D<=4):OE d:=by
 refine⟨⟨b.fx0,b.fx1,tm.v,λr c=>?_,λf a=>⟨(b.fn f a).1,(b.fn f a).2,?_⟩⟩,?_⟩
 ·by_cases q:d.D=3
  ·exact tm.R q r c
  rw[(un.a q).2.2]at c;cases c
 ·by_cases q:d.D=4
  ·exact tm.F q f a
  rw[un.f q i g]at a;cases a
 by_cases q:d.D=3
 ·have e:=(b.fx1 q).1;rw[Ap _ _ (e_ _)]at e;have:=iM _ d.type (e_ _);have:=h.ty;omega
 have:=(un.a q).1;omega
def DS.of (a:FD d):DS d:=⟨by have:=a.cl;omega,by have:=a.fl;omega,by have:=a.N;omega⟩
section
variable {K:aN}{h:AH}
theorem c1087 [RunsM K](a:List DV)(d:DV)(l:∀d∈a,FD d/\OE d)(D:a.length<1000)(b:FD d)(C:BD d):
  Ret K (87) [.eD a,gJ d] h λv _=>∃e:Int,v=.I e/\(e=0->OE d):=by
 refine aV afj ?_;have ds:∀d∈a,DS d:=λd f=>DS.of (l d f).1;have I:SC a [] d:=⟨ds,DS.of b,D,by simp⟩;have P:SE a:=⟨λd f=>⟨(l d f).2.od.fx0,(l d f).2.fx,λc W=>((l d f).1.ct c W).2⟩⟩;rw[bX];have⟨H,i⟩:∃H:AH,H=h.new (.box (aQ d)):=⟨_,rfl⟩;have m:pz d h.z h H:=⟨by rw[i];exact HK.new _ _,by rw[i,aB];omega,by rw[i,aD]⟩;have ret:∀(tm:Tm) (e:Int) (H:AH),HK h H->nth tm 4=.I e->(e=0->OE d)->Fin Wl (λL J=>(∃e:Int,L=.I e/\(e=0->OE d))/\HK h J) .ret (F_ 87 tm) H:=λtm e H hk t4 M=>
  Fr ⟨⟨_,rfl,M⟩,hk⟩
 obtain⟨v,T,k,⟨O,rfl,r⟩,Q⟩:=c1131 (h:=H) d b C;have o:=m.up Q;obtain⟨v,Y,z,⟨B,rfl,g⟩,R⟩:=c1132 (h:=T) d b;have u:=o.up R;obtain⟨v,N,s,⟨F,rfl⟩,X⟩:=c1133 (h:=Y) a d ds D b;have w:=u.up X;have j:=m.g;have E:=o.g;have G:=u.g;have A:=w.g;rw[bX]at k z s;unfold aQ at j E G A k z s;simp only[go_sem,<-i,j];clear i;by_cases n:d.D<0
 ·have S:=T_ n;simp only[go_sem,S];exact ret _ 1 _ m.hk k_ (by simp)
 by_cases t:d.D > 4
 ·have V:=T_ t;simp only[go_sem,n,j,V];exact ret _ 1 _ m.hk k_ (by simp)
 cases O with
 |false=>
  simp only[go_sem,n,j,t,k];exact ret _ 3 _ o.hk k_ (by simp)
 |true=>
  simp only[go_sem,n,j,t,k,E,z];by_cases p:B=0
  case neg=>
   simp only[go_sem,p];exact ret _ B _ u.hk k_ (λq=>absurd q p)
  subst p;simp only[go_sem,G,s];by_cases c3:F=0
  case neg=>
   simp only[go_sem,c3];exact ret _ F _ w.hk k_ (λq=>absurd q c3)
  subst c3;obtain⟨_,_,x,⟨U,rfl,y⟩,Z⟩:=c1134 (h:=N) a d I P b C (g rfl);rw[bX]at x;unfold aQ at x;simp only[go_sem,A,x];exact ret _ U _ (w.hk.trans Z) k_ (λq=>OE.of b (r rfl) (g rfl) (y q) o_ o_)
def I1047 (a:List DV)(c:AH)(j:Nat)(b:AF)(h:AH):Prop:=∃tm p,p+j=a.length/\b=F_ 47 tm/\HK c h/\nth tm 0=.eD a/\nth tm 4=.I (p:Int)/\∀(i:Nat) x,i<p->a[i]?=some x->OE x
def UQ (b:List DV)(v:AV):Prop:=∃a e:Int,v=.tup [.I a,.I e]/\(e=0->∀d∈b,OE d)
theorem c1047 [RunsM K](b:List DV)(r:∀d∈b,FD d/\BD d)(J:b.length<1000):
  Ret K (47) [.eD b] h λv _=>UQ b v:=by
 refine aV afJ ?_;have ret:∀(tm:Tm) (a e:Int) (H:AH),HK h H->nth tm 2=.I a->nth tm 3=.I e->(e=0->∀d∈b,OE d)->Fin Wt (λw u=>UQ b w/\HK h u) .ret (F_ 47 tm) H:=λtm a e H hk E B l=>
  ⟨rfl,rfl,.inr rfl,[.I a,.I e],by simp only[go_sem,E,B],_,_,bF (ae (aL _ _ _) (ae (aL _ _ _) (aH _))),⟨a,e,rfl,l⟩,hk⟩
 have D:decide ((b.length:Int) > 1000)=false:=d_;simp only[go_sem,D];refine bo (I1047 b h) b.length o_ ⟨_,0,z_ _,rfl,HK.refl h,k_,y_,λi x hi=>by omega⟩ ?_;rintro j I s ⟨tm,p,G,rfl,o,t0,k,pre⟩;simp only[go_sem,t0,k];refine aU (λg=>?_) (λz=>?_)
 ·have g:p<b.length:=o_;have c:=a_ g;have f:=r _ (m_ c);revert c f;generalize b[p]=d;intro c f;have n:=nR (f:=gJ) (sz:=23) encD_len b .i64 p o_;have F:=aP p o_;have m:∀x∈b.take p,FD x/\OE x:=λx hx=>by
   have⟨i,hi⟩:=J_ hx;rw[List.getElem?_take]at hi;split at hi
   ·exact⟨(r x (m_ hi)).1,pre i x o_ hi⟩
   cases hi
  obtain⟨_,y,A,⟨e,rfl,l⟩,t⟩:=c1087 (h:=s) (b.take p) d m (by rw[Y_];omega) f.1 f.2;simp only[go_sem,t0,k,c,n,A];by_cases qe:e=0
  ·subst qe;simp only[go_sem,k,F];refine⟨j-1,o_,_,p+1,o_,rfl,o.trans t,q_ t0,k_,λi x hi hx=>?_⟩;by_cases q:i=p
   ·subst q;rw[c]at hx;cases hx;exact l rfl
   exact pre i x o_ hx
  have C:=D_ qe;simp only[go_sem,C,k];exact ret _ (p:Int) e y (o.trans t) k_ k_ (λq=>absurd q qe)
 simp only[go_sem];exact ret _ 0 0 s o k_ k_ (λ_=>lU λi x hi hx=>pre i x o_ hx)
structure PE (n:Nat)(env:List DV):Prop where
 pd:∀d∈env,PD n d
 bd:∀d∈env,BD d
 len:env.length<=n
theorem ab4 [RunsM K](n:Nat)(c:List DV)(i:PE n c)(z:n<=9000000):
  Ret K (24) [.eD c] h λv _=>∃b,v=.bool b/\(b=true->Eg c):=by
 refine aV afX ?_;obtain⟨v,m,j,⟨u,rfl,g⟩,l⟩:=c1046 (h:=h) n c i.pd i.len o_;have ret:∀(tm:Tm) (b:Bool) (H:AH),HK h H->nth tm 2=.bool b->(b=true->Eg c)->Fin Ww (λp o=>(∃b,p=.bool b/\(b=true->Eg c))/\HK h o) .ret (F_ 24 tm) H:=λtm b H hk A w=>
  Fr ⟨⟨_,rfl,w⟩,hk⟩
 cases u with
 |false=>
  simp only[go_sem,j];exact ret _ false m l k_ (by simp)
 |true=>
  have⟨k,t⟩:=g rfl;obtain⟨_,x,r,⟨_,e,rfl,s⟩,y⟩:=c1047 (h:=m) c (λd f=>⟨k d f,i.bd d f⟩) o_;simp only[go_sem,j,r];exact ret _ (decide (e=0)) x (l.trans y) k_ (λq=>Eg.of k t λd f=>(s (O_ q) d f).od)
theorem c1049 [RunsM K](n:Nat)(t:T)(hs:aO t<=n)(l:n<=10000000)(bt:BT t):
  Ret K (49) [enc t] h λv _=>∃b,v=.bool b/\(b=false->TOK t):=by
 refine aV afI ?_;have⟨H,f,_,_,d⟩:=nw h (.box (aG t));obtain⟨_,_,a,⟨e,rfl,g⟩,_⟩:=c7 (h:=H) 60000 8 65536 65536 n t hs o_ bt;rw[aJ t]at a;unfold aG at f d;rw[aJ t];simp only[go_sem];rw[<-f];by_cases q:e=0
 ·have c:decide (e=0)=true:=g_;have⟨j,i⟩:=g q;simp only[go_sem,a,c];exact⟨rfl,rfl,g_,[.bool false],by simp only[go_sem],.bool false,_,cv_ (bp _ _),⟨_,rfl,λ_=>j.tok o_ 4096 t 0 i o_⟩,g_⟩
 have c:decide (e=0)=false:=g_;simp only[go_sem,a,c];exact⟨rfl,rfl,g_,[.bool true],by simp only[go_sem],.bool true,_,cv_ (bp _ _),g_,g_⟩
def XG {x:T}(h:x∈l):aO x<=ba l:=by
 have⟨_,hi⟩:=J_ h;exact GA hi
structure PT (n:Nat)(l:List T):Prop where
 sz:ba l<=n
 bt:∀t∈l,BT t
theorem c1025 [RunsM K](n:Nat)(a:List DV)(l:List T)(z:PE n a)(g:PT n l)(w:n<=9000000):
  Ret K (25) [.eD a,.eT l] h λv _=>∃b,v=.bool b/\(b=true->Eg a/\∀t∈l,TOK t/\aO t<=4096):=by
 have D:=bO l;have e:=g.sz;refine aV afW ?_;have ret:∀(tm:Tm) (b:Bool) (H:AH),HK h H->nth tm 4=.bool b->(b=true->Eg a/\∀t∈l,TOK t/\aO t<=4096)->Fin Wv (λr q=>(∃b,r=.bool b/\(b=true->Eg a/\∀t∈l,TOK t/\aO t<=4096))/\HK h q) .ret (F_ 25 tm) H:=λtm b H hk M C=>
  Fr ⟨⟨_,rfl,C⟩,hk⟩
 obtain⟨v,k,d,⟨x,rfl⟩,B⟩:=c24 n 60 l h e o_;obtain⟨v,p,f,⟨E,rfl,_⟩,_⟩:=ab5 (h:=k) n l e o_ g.bt;obtain⟨v,j,i,⟨G,rfl,_⟩,_⟩:=ab4 (h:=p) n a z w;have I:Ps K (.fn (49) [] []) TOK l:=⟨λx hx h=>c1049 n x (by have:=XG hx;omega) o_ (g.bt x hx),λh=>by rfl⟩;obtain⟨_,m,o,⟨u,rfl,_⟩,_⟩:=c111 (h:=j) I o_;have⟨s,c⟩:∃y,decide (x<=60)=y:=⟨_,rfl⟩;cases s
 case false=>
  simp only[go_sem,d,c];exact ret _ false k B k_ (by simp)
 cases E
 case false=>
  simp only[go_sem,d,c,f];exact ret _ false p g_ k_ (by simp)
 cases G
 case false=>
  simp only[go_sem,d,c,f,i];exact ret _ false j g_ k_ (by simp)
 cases u
 case true=>
  simp only[go_sem,d,c,f,i,o];exact ret _ false m g_ k_ (by simp)
 simp only[go_sem,d,c,f,i,o];exact ret _ true m g_ k_ g_
def GrP (b:List DV)(_l:List T)(v:AV):Prop:=∃(c:List NV) (a:List Int) (ok:Bool),v=.tup [.agg [.eN c],.eI a,.bool ok]/\
 (ok=true->Eg b/\a.length<=4/\∃ts,Wf c ts/\c.length<=65536/\∀i∈a,∃t,At ts i t)
def ow (a:List DV)(l:List T):AV:=.agg [.eD a,.eT l]
theorem af5 (a:List DV)(l:List T)(h:AH):cw (ow a l) h=(ow a l,h):=by
 have b:=bY lp a;have fl:=bY mY l;rw[bQ (by simp only[ow,AV.free,AV.frees,b,fl,Bool.and_self])];simp only[ow,AV.norm,AV.norms,bB lj,bB iU]
instance (a:List DV) (l:List T):Can (ow a l) (ow a l):=⟨af5 a l⟩
def Vk {a:AV}{b:List NV}(d:a.free=true)(c:a.norm=.eN b)(h:AH):cw (.agg [a]) h=(.agg [.eN b],h):=by
 rw[bQ (by simp only[AV.free,AV.frees,d,Bool.and_self])];simp only[AV.norm,AV.norms,c]
def ZR (a:List NV):(AV.eN a).free=true:=by simp only[AV.free];exact bY sM a
def ZQ (a:List NV):(AV.eN a).norm=.eN a:=by simp only[AV.norm,bB ph]
structure acx (env:List DV)(l:List T)(b c:Nat)(p:Nat)(gs:List NV)(ts:List T)(ids:List Int)(GV V:AV)(h0 h:AH):Prop where
 hk:HK h0 h
 hb:h0.z=b
 hc:b+1<c
 hn:c<h.z
 g1:h.get b=some (.box [.eD env,.eT l])
 g2:h.get (b+1)=some (.box [.nl])
 g5:h.get c=some (.box [GV])
 gf:GV.free=true
 gn:GV.norm=.eN gs
 gc:GV.cells=[GV]
 own:Own (c+1) 1 false h V (ids.map AG.bh)
 il:ids.length=p
 wf:Wf gs ts
 bt:∀t∈ts,BT t
 gl:gs.length<=4096*p
 g16:gs.length<=65536
 at_:∀i∈ids,∃t,At ts i t
structure M1008 (l:List T)(b c p:Nat)(V:AV)(tm:Tm):Prop where
 t1:nth tm 1=.P b
 t2:nth tm 2=.P (b+1)
 t5:nth tm 5=.P c
 t6:nth tm 6=V
 t44:nth tm 44=.eT l
 t45:nth tm 45=.I (l.length:Int)
 t46:nth tm 46=.I (p:Int)
def I1008 (d:List DV)(l:List T)(b c:Nat)(g:AH)(j:Nat)(e:AF)(h:AH):Prop:=∃tm p i ts a f V,p+j=l.length/\e=F_ 8 tm/\acx d l b c p i ts a f V g h/\M1008 l b c p V tm
theorem c1008 [RunsM K](n:Nat)(a:List DV)(l:List T)(pe:PE n a)(pt:PT n l)(hn:n<=9000000):
  Ret K (8) [ow a l] h λv _=>GrP a l v:=by
 have a3:=bO l;have aa:=pt.sz;refine aV af2 ?_;have⟨H,U⟩:∃H:AH,H=(h.new (.box [.eD a,.eT l])).new (.box [.nl]):=⟨_,rfl⟩;have n1:=aB h (.box [.eD a,.eT l]);have k0:HK h H:=by rw[U];exact(HK.new _ _).add _
 have n0:H.z=h.z+2:=by rw[U,aB,n1]
 have B:H.get h.z=some (.box [.eD a,.eT l]):=by rw[U,aM o_,aD]
 have g1:H.get (h.z+1)=some (.box [.nl]):=by rw[U,<-n1,aD]
 have no:∀(tm:Tm) (H:AH),HK h H->h.z+1<H.z->H.get (h.z+1)=some (.box [.nl])->nth tm 2=.P (h.z+1)->nth tm 3=.nl->nth tm 4=.bool false->Fin QL (λv' h3=>GrP a l v'/\HK h h3) .ret (F_ 8 tm) H:=λtm H hk hn g E t3 t4=>
  ⟨rfl,rfl,.inr rfl,[.agg [.nl],.nl,.bool false],by simp only[go_sem,E,t3,t4,g],_,_,bF (ae (xW _) (ae (show cw .nl H=(.ls [],H) by rw[bQ rfl];rfl) (ae (bp _ _) (aH _)))),⟨[],[],false,rfl,λq=>nomatch q⟩,hk⟩
 have w:∀(tm:Tm) (A:AH),HK H A->nth tm 2=.P (h.z+1)->nth tm 3=.nl->nth tm 4=.bool false->Fin QL (λv' h3=>GrP a l v'/\HK h h3) .ret (F_ 8 tm) (A.set (h.z+1) (.box [.nl])):=λtm A hk E t3 t4=>
  no _ _ ((k0.trans hk).set _ o_) (by rw[aE];have:=hk.z;omega) (aF _ _ _) E t3 t4
 obtain⟨v,H1,e1,⟨x,rfl⟩,k1⟩:=c24 n 60 l H aa o_;obtain⟨v,A,e2,⟨b2,rfl,_⟩,k2⟩:=ab5 (h:=H1) n l aa o_ pt.bt;obtain⟨v,H3,e3,⟨b3,rfl,_⟩,k3⟩:=ab4 (h:=A) n a pe hn;obtain⟨v,H4,e4,⟨b4,rfl,aw⟩,k4⟩:=c1025 (h:=H3) n a l pe pt hn;have hs:∀A:AH,HK H A->cY (.P (h.z+1)) A 1 (.agg [.nl])=some (A.set (h.z+1) (.box [.nl])):=λA k=>aS (k.up g1) rfl rfl;have q1:=k1;have q2:=k1.trans k2;have q3:=q2.trans k3;have Q:=q3.trans k4;have G:=q1.up B;have L:=q2.up B;have ag:=q3.up B;have aq:=Q.up B;have⟨x1,m⟩:∃y,decide ((l.length:Int) > 4)=y:=⟨_,rfl⟩;have⟨x2,z⟩:∃y,decide (x > 60)=y:=⟨_,rfl⟩;unfold ow acp;simp only[go_sem,n1,<-U,B];clear U;cases x1
 case true=>
  simp only[go_sem,m,hs _ (HK.refl H)];exact w _ H (HK.refl H) k_ k_ k_
 cases x2
 case true=>
  simp only[go_sem,m,B,e1,z,hs _ q1];exact w _ H1 q1 k_ k_ k_
 cases b2
 case false=>
  simp only[go_sem,m,B,e1,z,G,e2,hs _ q2];exact w _ A q2 k_ k_ k_
 cases b3
 case false=>
  simp only[go_sem,m,B,e1,z,G,e2,L,e3,hs _ q3];exact w _ H3 q3 k_ k_ k_
 cases b4
 case false=>
  simp only[go_sem,m,B,e1,z,G,e2,L,e3,ag,e4,hs _ Q];exact w _ H4 Q k_ k_ k_
 have l4:l.length<=4:=by have:=U_ m;omega
 have⟨eg,ar⟩:=aw rfl;have⟨HA,o⟩:∃HA:AH,HA=H4.new (.box [.nl]):=⟨_,rfl⟩;have nq:=Q.z;have J0:acx a l h.z H4.z 0 [] [] [] .nl .nl h HA:=by
  refine⟨?_,rfl,o_,by rw[o,aB];omega,?_,?_,by rw[o,aD],rfl,rfl,rfl,cV _ _ _ _,rfl,Wf.nil,by simp,by simp,by simp,by simp⟩
  ·rw[o];exact(k0.trans Q).add _
  ·rw[o,aM o_];exact aq
  rw[o,aM o_];exact Q.up g1
 have ac:=J0.g1;simp only[go_sem,m,B,e1,z,G,e2,L,e3,ag,e4,<-o,ac];refine bo (I1008 a l h.z H4.z h) l.length o_ ⟨_,0,[],[],[],.nl,.nl,z_ _,rfl,J0,⟨k_,k_,k_,k_,k_,k_,y_⟩⟩ ?_;generalize H4.z=c;clear J0 o ac HA;rintro j fr S ⟨tm,p,gs,ts,C,W,V,hp,rfl,J,⟨t1,E,t5,t6,ai,Z,N⟩⟩;have g5:=J.g5;have P:=J.g2;have hc:=J.hc;have af:=J.hn;simp only[go_sem,Z,N];refine aU (λab=>?_) (λa1=>?_)
 ·have ab:p<l.length:=o_;have s:=a_ ab;have Y:=m_ s;have d:=ar _ Y;have I:=pt.bt _ Y;revert s d I;generalize l[p]=t;intro s d I;have hw:=aP p o_;have⟨M,F,kB,_⟩:=ns S (.box zT) (.box (aG t));have nB:S.z<M.z:=by rw[F,aE,aB];omega
  have gB:M.get S.z=some (.box (aG t)):=by rw[F,aF]
  have ay:=(kB.kw _ af).trans g5;have ad:=bz (aD S (.box zT)) t;rw[<-F]at ad;clear F;unfold aG at gB;obtain⟨_,R,e6,⟨f,r,e,rfl,X⟩,k6⟩:=c1026 (h:=M) 4096 t gs ts d.2 o_ d.1 I J.wf J.bt (by have:=J.gl;have:=d.2;omega);rw[<-dJ (f:=26) (c:=[]) (ae (Vk J.gf J.gn M) (ae (cJ t M) (aH _))) (ae (nL gs M) (ae (cJ t M) (aH _)))]at e6;rw[aJ t]at e6;have⟨HC,D,kC,_⟩:=ns R (.box [.nl]) (.box [.eN f]);have nC:R.z<HC.z:=by rw[D,aE,aB];omega
  have gC:HC.get R.z=some (.box [.eN f]):=by rw[D,aF]
  have ah:=aS (aD R (.box [.nl])) (vs:=[.eN f]) (sz:=1) rfl rfl;rw[<-D]at ah;clear D;have b:=(kB.trans k6).trans kC;have n6:=(kB.trans k6).z;simp only[go_sem,ai,N,s,ad,t5,ay,gB,e6,ah];by_cases qe:e=0
  case neg=>
   have O:=aS (vs:=[.nl]) (b.up P) (sz:=1) rfl rfl;simp only[go_sem,qe,E,O];exact no _ _ ((J.hk.trans b).set _ o_) (by rw[aE];have:=b.z;omega) (aF _ _ _) (q_ E) k_ k_
  subst qe;have⟨am,al,au,ax,⟨_,_⟩,⟨_,aj⟩,az,_⟩:=X rfl;have oC:Own (c+1) 1 false HC V (C.map AG.bh):=bP J.own b.z (λk _ hk=>b.kw k hk);have⟨V',HP,eP,oP,_,kP,an,_⟩:=eY (.I r) oC (hn:=by rw[L_,J.il];omega);have ap:∀g n,V≠.row R.z g 1 0 n:=λg n e=>by
   have:=uO J.own _ _ _ e;omega
  have gP:HP.get R.z=some (.box [.eN f]):=(an _ nC ap).trans gC;have av:HP.get c=some (.box [W]):=(kP _ o_).trans ((b.kw _ af).trans g5);have ak:=aS (vs:=[.eN f]) av (sz:=1) rfl rfl;simp only[go_sem,gC,gP,t5,t6,eP,ak,N,hw];refine⟨j-1,o_,_,p+1,f,am,C++[r],.eN f,V',o_,rfl,?_,⟨q_ t1,q_ E,q_ t5,k_,q_ ai,q_ Z,k_⟩⟩;have a5:c<HP.z:=by have:=b.z;omega
  refine⟨?_,J.hb,hc,by rw[aE];omega,?_,?_,aF _ _ _,ZR f,ZQ f,rfl,?_,by rw[H_,J.il];rfl,al,ax,?_,au,?_⟩
  ·refine HK.set ⟨by have:=J.hk.z;have:=b.z;omega,λk hk=>?_⟩ _ (by have:=J.hb;omega);rw[kP k (by have:=J.hb;omega),b.kw k (by have:=J.hk.z;omega),J.hk.kw k hk]
  ·rw[aA o_,kP _ o_,b.kw _ o_];exact J.g1
  ·rw[aA o_,kP _ o_,b.kw _ o_];exact P
  ·rw[List.map_append];exact bP oP (by rw[aE];exact e_ _) (λk hk _=>aA o_)
  ·have:=J.gl;have:=d.2;omega
  intro i hi;rcases List.mem_append.1 hi with hi|hi
  ·have⟨u,hu⟩:=J.at_ i hi;exact⟨u,by rw[aj];exact hu.app⟩
  rw[W_]at hi;subst hi;exact⟨t,az⟩
 have a4:p=l.length:=o_;have O:=aS (vs:=[W]) P (sz:=1) rfl rfl;have oF:Own (c+1) 1 false (S.set (h.z+1) (.box [W])) V (C.map AG.bh):=bP J.own (by rw[aE];exact e_ _) (λk hk _=>aA o_);have⟨HF,eF,nF,kF⟩:=uZ oF;have ao:HK h HF:=⟨by rw[nF,aE];exact J.hk.z,λk hk=>by rw[kF k (by have:=J.hb;omega),aA (by have:=J.hb;omega)];exact J.hk.kw k hk⟩;have gF:=aF S (h.z+1) (.box [W]);simp only[go_sem,t5,g5,E,O];exact⟨rfl,rfl,.inr rfl,[.agg [W],V,.bool true],by simp only[go_sem,E,t6,gF],_,_,bF (ae (Vk J.gf J.gn _) (ae eF (ae (bp _ _) (aH _)))),⟨gs,C,true,rfl,λ_=>⟨eg,by have:=J.il;omega,ts,J.wf,J.g16,J.at_⟩⟩,ao⟩
class KA (K:outParam aN):Prop where
 aw:∀h,K (.fn 9 [] []) [] .no h=some (.ret (.bool true),.no,h)
def c1009 [a:KA K](h:AH):cS K (.fn 9 [] []) [] .no h=some (.ret (.bool true),.no,h):=
 vz (aH _) (a.aw h) (cv_ (bp _ _))
structure Xc (env:List DV)(l:List T)(b c:Nat)(gs:List NV)(h0 h:AH):Prop where
 hk:HK h0 h
 hb:h0.z<=b
 hn:b<h.z
 hc:h0.z<=c
 hn':c<h.z
 g1:h.get b=some (.box [.eD env,.eT l])
 g3:h.get c=some (.box [.eN gs])
def Xc.up {c:Nat}{f:List NV}{d:AH}(q:Xc a l b c f e h)(k:HK h d):Xc a l b c f e d:=
 ⟨q.hk.trans k,q.hb,by have:=k.z;have:=q.hn;omega,q.hc,by have:=k.z;have:=q.hn';omega,(k.kw _ q.hn).trans q.g1,(k.kw _ q.hn').trans q.g3⟩
end
