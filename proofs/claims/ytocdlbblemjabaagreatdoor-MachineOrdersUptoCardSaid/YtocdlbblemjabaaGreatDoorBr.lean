/- Lemmas for MachineOrders (no condition). -/
import Derived.Test.YtocdlbblemjabaaGreatDoorBn
set_option linter.defProp false
namespace Go.Proofs.YtocdlbblemjabaaGreatDoor
open Go.AG Go.AG.MK
def Dx (h:AH)(l:List NV)(g:l.length<=100000):∃y d,cI h 5 true zT 80 .nl (.eN l)=some (y,d)/\HK h d/\Own h.z 5 true d y (l.map bU):=by
 have c:∀x∈l.map bU,x.cells.length=5/\x.isAgg=true:=λx hx=>by obtain⟨_,_,rfl⟩:=List.mem_map.1 hx;exact⟨rfl,rfl⟩
 have e0:cI h 5 true zT 80 .nl (.eN l)=List.casesOn (l.map bU) (qP .nl h) λy e=>kO .nl h 5 true 80 (y::e):=by
  show aI (cond (fZ 5 (l.map bU)) (some (l.map bU)) none) (λf=>cond (and (fT f) (Nat.beq (len (zT:List AV)) 5)) _ _)=_;rw[oR encN_len];show cond (and (fT (l.map bU)) true) _ _=_;rw[uc (λ_=>rfl)];rfl
 cases l with
 |nil=>exact⟨.nl,h,e0,HK.refl _,cV _ _ _ _⟩
 |cons a l=>
  have b:need 0 ((a::l).map bU).length 80=true:=by
   show and (Nat.ble ((2*(0+((a::l).map bU).length)+1000)*80) 140737488355328) (Nat.ble (0+((a::l).map bU).length) 9223372036854775807)=true;simp only[L_]at *;rw[fK o_,fK o_];rfl
  refine⟨.row h.z 0 5 0 ((a::l).map bU).length,h.new (.row 0 5 true (bJ ((a::l).map bU)) 0),?_,HK.new _ _,c,.inr ⟨h.z,0,rfl,aD _ _,by rw[aB];omega,e_ _⟩⟩;rw[e0];show cond (need 0 (len ((a::l).map bU)) 80) (some (AV.row h.z 0 5 0 (len ((a::l).map bU)),h.new (.row 0 5 true (bJ ((a::l).map bU)) 0))) none=_;rw[bT,b];rfl
def wx:∀(a b:List AV) (h:AH),AV.frees a=true->cL (a++b) h=(a++(cL b h).1,(cL b h).2)
 |[],b,h,_=>rfl
 |v::l,b,h,c=>by
  simp only[AV.frees,Bool.and_eq_true]at c;simp only[Q_,cL,dQ c.1,wx l b h c.2]
def rh:∀l:List NV,AV.frees (bJ (l.map bU))=true
 |[]=>rfl
 |n::l=>by
  have:bJ ((n::l).map bU)=(bU n).cells++bJ (l.map bU):=rfl;rw[this,jI];intro a b;rcases List.mem_append.1 b with q|q
  ·exact tT (sM n) a q
  exact(jI _).1 (rh l) a q
def VS (b:Nat)(H:AH)(V:AV)(c:List Int):Prop:=(V=.nl/\c=[])\/∃a g fz,V=.row a g 1 0 c.length/\H.get a=some (.row g 1 false (bJ (c.map AG.bh)) fz)/\a<H.z/\b<=a
def VS.kw {b:Nat}{H f:AH}{V:AV}{i:List Int}(v:VS b H V i)(j:H.z<=f.z)(hk:∀k,b<=k->k<H.z->f.get k=H.get k):VS b f V i:=by
 rcases v with q|⟨h,g,fz,a,c,d,e⟩
 ·exact .inl q
 exact .inr ⟨h,g,fz,a,(hk h e d).trans c,o_,e⟩
def PH {a:Nat}{H:AH}{V:AV}(k i:Int)(nm:ByteArray)(ls:List LL){d:List Int}(o:Own a 1 false H V (d.map AG.bh)):
  ∃b,cw (.agg [.I k,.I i,.str nm,.eL ls,V]) H=(bU ⟨k,i,nm,ls,d⟩,b)/\b.z=H.z/\(∀j,j<a->b.get j=H.get j)/\VS a b V d:=by
 have c:∀x b,dM V H=(x,b)->x.norm=.eI d->cw (.agg [.I k,.I i,.str nm,.eL ls,V]) H=(bU ⟨k,i,nm,ls,d⟩,b):=by
  intro x b e hx;show((AV.agg (cL _ H).1).norm,(cL _ H).2)=_;have f:cL [.I k,.I i,.str nm,.eL ls,V] H=([.I k,.I i,.str nm,.eL ls,x],b):=by
   show(_::_::_::_::(dM V H).1 :: [],(dM V H).2)=_;rw[e];rfl
  rw[f];simp[bU,AV.norm,AV.norms,bB iS,hx]
 rcases iT o (λ_=>rfl) with⟨rfl,e,h⟩|⟨l,g,m,h,f,n⟩
 ·rw[List.map_eq_nil_iff]at e;subst e;exact⟨H,c _ _ h rfl,rfl,λ_ _=>rfl,.inl ⟨rfl,rfl⟩⟩
 exact⟨_,c _ _ h (by simp only[AV.norm,bB ik]),aE _ _ _,λj p=>aA o_,.inr ⟨l,g,_,by rw[m,L_],aF _ _ _,by rw[aE];exact n,f⟩⟩
def Zo (a:List Int):uo false 1 a.length ((bJ (a.map AG.bh)).drop (0*1))=some (a.map AG.bh):=by
 have q:=mH (sz:=1) (agg:=false) (λ_=>rfl) (mB a);rw[L_]at q;rw[Nat.zero_mul,List.drop_zero];exact q
def TO {m bL:Nat}{H:AH}{gs:List NV}{k i:Int}{nm:ByteArray}{ls:List LL}{f:List Int}{V:AV}{b c:Nat}(r:Int)
  (o:VS m H V f) (C:H.get b=some (.row c 5 true (bJ (gs.map bU++[.agg [.I k,.I i,.str nm,.eL ls,V]])) 0)) (v:b<H.z) (Y:bL<=b) (P:bL<=m) (A:∀a g n,V=.row a g 1 0 n->a≠b) :
  ∃l,mT (.tup [.agg [.row b c 5 0 (gs.length+1)],.I r]) (AT (.tup [.agg [.row b c 5 0 (gs.length+1)],.I r]) H)=(.tup [.agg [.eN (gs++[(⟨k,i,nm,ls,f⟩:NV)])],.I r],l)/\l.z=H.z/\∀j,j<bL->l.get j=H.get j:=by
 obtain⟨x,hx⟩:∃x:AV,x=.agg [.I k,.I i,.str nm,.eL ls,V]:=⟨_,rfl⟩;have p:∀y:AV,bJ (gs.map bU++[.agg [.I k,.I i,.str nm,.eL ls,y]])=bJ (gs.map bU)++[.I k,.I i,.str nm,.eL ls,y]:=by
  intro y;rw[fW];rfl
 have B:AT (.tup [.agg [.row b c 5 0 (gs.length+1)],.I r]) H=ru (.row b c 5 0 (gs.length+1)) H:=rfl;have fin:∀(d:AH) (y:AV),d.get b=some (.row c 5 true (bJ (gs.map bU++[.agg [.I k,.I i,.str nm,.eL ls,y]])) 0)->b<d.z->y.norm=.eI f->
   ∃l,mT (.tup [.agg [.row b c 5 0 (gs.length+1)],.I r]) d=(.tup [.agg [.eN (gs++[(⟨k,i,nm,ls,f⟩:NV)])],.I r],l)/\l.z=d.z/\∀j,j≠b->l.get j=d.get j:=by
  intro d y L T O;have N:Own 0 5 true d (.row b c 5 0 (gs.length+1)) (gs.map bU++[.agg [.I k,.I i,.str nm,.eL ls,y]]):=
   ⟨λz K=>by
    rcases List.mem_append.1 K with q|q
    ·obtain⟨n,_,rfl⟩:=List.mem_map.1 q;exact⟨rfl,rfl⟩
    simp only[W_]at q;subst q;exact⟨rfl,rfl⟩,.inr ⟨b,c,by simp,L,T,Nat.zero_le _⟩⟩
  rcases iT N (λe=>by cases e) with⟨e,_,_⟩|⟨W,X,u,t,_,_⟩
  ·cases e
  have R:(gs.map bU++[AV.agg [.I k,.I i,.str nm,.eL ls,y]]).length=gs.length+1:=by simp
  rw[R]at u;cases u;have F:cw (.agg [.row b c 5 0 (gs.length+1)]) d=(.agg [.eN (gs++[(⟨k,i,nm,ls,f⟩:NV)])],d.set b (.row c 5 true (bJ (gs.map bU++[.agg [.I k,.I i,.str nm,.eL ls,y]])) ((gs.map bU++[AV.agg [.I k,.I i,.str nm,.eL ls,y]]).length*5))):=by
   show((AV.agg (cL _ d).1).norm,(cL _ d).2)=_;have S:cL [.row b c 5 0 (gs.length+1)] d=([.ls (gs.map bU++[.agg [.I k,.I i,.str nm,.eL ls,y]])],d.set b (.row c 5 true (bJ (gs.map bU++[.agg [.I k,.I i,.str nm,.eL ls,y]])) ((gs.map bU++[AV.agg [.I k,.I i,.str nm,.eL ls,y]]).length*5))):=by
    show((dM (.row b c 5 0 (gs.length+1)) d).1 :: [],(dM (.row b c 5 0 (gs.length+1)) d).2)=_;rw[t]
   rw[S];have M:AV.norms (gs.map bU++[.agg [.I k,.I i,.str nm,.eL ls,y]])=(gs++[(⟨k,i,nm,ls,f⟩:NV)]).map bU:=by
    have:∀(a:List NV) (z:AV),AV.norms (a.map bU++[z])=a.map bU++[z.norm]:=by
     intro a z;induction a with
     |nil=>simp[AV.norms]
     |cons n a U=>simp only[List.map_cons,Q_,AV.norms,U,ph]
    rw[this,List.map_append];simp[AV.norm,AV.norms,bB iS,O,bU]
   simp only[AV.norm,AV.norms,M]
  exact⟨d.set b (.row c 5 true (bJ (gs.map bU++[.agg [.I k,.I i,.str nm,.eL ls,y]])) ((gs.map bU++[AV.agg [.I k,.I i,.str nm,.eL ls,y]]).length*5)),bF (ae F (ae (aL _ _ _) (aH _))),aE _ _ _,λj w=>aA w⟩
 rw[B];rcases o with⟨rfl,e⟩|⟨Q,g,fz,u,t,e4,Z⟩
 ·subst e;have hs:cL (bJ (gs.map bU++[.agg [.I k,.I i,.str nm,.eL ls,.nl]])) H=(bJ (gs.map bU++[.agg [.I k,.I i,.str nm,.eL ls,.nl]]),H):=by
   rw[p,wx _ _ _ (rh gs)];rfl
  have G:ru (.row b c 5 0 (gs.length+1)) H=H.set b (.row c 5 true (bJ (gs.map bU++[.agg [.I k,.I i,.str nm,.eL ls,.nl]])) 0):=by
   simp only[ru,C,hs]
  rw[G];obtain⟨l,E,J,c3⟩:=fin _ .nl (aF _ _ _) (by rw[aE];exact v) rfl;exact⟨l,E,by rw[J,aE],λj w=>(c3 j o_).trans (aA o_)⟩
 have I:=A _ _ _ u;have t:=uY (n:=f.length) (off:=0) t (Zo f);rw[<-u]at t;obtain⟨s,h⟩:∃s:AH,s=H.set Q (.row g 1 false (bJ (f.map AG.bh)) (max fz ((0+f.length)*1))):=⟨_,rfl⟩;rw[<-h]at t;have hs:cL (bJ (gs.map bU++[.agg [.I k,.I i,.str nm,.eL ls,V]])) H=(bJ (gs.map bU++[.agg [.I k,.I i,.str nm,.eL ls,.eI f]]),s):=by
  rw[p,p,wx _ _ _ (rh gs)];have:cL [.I k,.I i,.str nm,.eL ls,V] H=([.I k,.I i,.str nm,.eL ls,.eI f],s):=by
   show(_::_::_::_::(dM V H).1 :: [],(dM V H).2)=_;rw[t];rfl
  rw[this]
 have D:s.get b=some (.row c 5 true (bJ (gs.map bU++[.agg [.I k,.I i,.str nm,.eL ls,V]])) 0):=by rw[h,aA (Ne.symm I)];exact C
 have G:ru (.row b c 5 0 (gs.length+1)) H=s.set b (.row c 5 true (bJ (gs.map bU++[.agg [.I k,.I i,.str nm,.eL ls,.eI f]])) 0):=by
  simp only[ru,C,hs,D]
 rw[G];obtain⟨l,E,J,c3⟩:=fin (s.set b _) (.eI f) (aF _ _ _) (by rw[aE,h,aE];exact v) (by simp only[AV.norm,bB ik]);exact⟨l,E,by rw[J,aE,h,aE],λj w=>(c3 j o_).trans ((aA o_).trans (by rw[h,aA o_]))⟩
section
variable {K:aN}
structure acw (t:T)(b:Nat)(h0 h:AH)(gs:List NV)(V:AV)(dn:List Int):Prop where
 hk:HK h0 h
 nx:b+4<=h.z
 g2:h.get b=some (.box [.eN gs])
 g3:h.get (b+1)=some (.box (aG t))
 g4:h.get (b+2)=some (.box [.nl])
 g6:h.get (b+3)=some (.box [.I t.D,.I t.X,.str t.N,.eL t.L,V])
 own:Own (b+4) 1 false h V (dn.map AG.bh)
def I1092 (t:T)(b:Nat)(g:AH)(a:List NV)(d:List T)(j:Nat)(f:AF)(h:AH):Prop:=∃tm p c ts V e,p+j=t.K.length/\f=F_ 92 tm/\acw t b g h c V e/\nth tm 2=.P b/\nth tm 3=.P (b+1)/\nth tm 4=.P (b+2)/\nth tm 6=.P (b+3)/\nth tm 7=.I (p:Int)/\
 Wf c ts/\(∀x∈ts,BT x)/\(∃l,c=a++l)/\(∃l,ts=d++l)/\Lk ts e (t.K.take p)/\e.length=p/\c.length<=a.length+ba (t.K.take p)
def adL (t:T)(c:List NV)(ts:List T)(v:AV):Prop:=∃b a r,v=.tup [.agg [.eN b],.I r]/\Wf b a/\(∀x∈a,BT x)/\(∃l,b=c++l)/\(∃l,a=ts++l)/\At a r t/\b.length<=c.length+aO t
def c1092 [RunsM K]:∀(n:Nat) (t:T) (s:List NV) (ts:List T) (h:AH),aO t<=n->TOK t->BT t->Wf s ts->(∀x∈ts,BT x)->s.length+aO t<=90000->
  Ret K (92) [.agg [.eN s],enc t] h λv _=>adL t s ts v:=by
 intro n;induction n with
 |zero=>intro t s ts h hs;have:=bI t;omega
 |succ n ih=>
  intro t s ts h hs tok bt wf a4 hn;have bv:=fk t;have b1:=bO t.K;have⟨tk,_⟩:(∀x∈t.K,TOK x)/\t.K.length<=3:=by
   have⟨k,_,_,_,ay⟩:=t;rw[TOK]at tok;refine⟨dh.1 tok.2,?_⟩;have hk:=tok.1.K;show ay.length<=3;unfold cN at hk;split at hk
   ·omega
   split at hk
   ·omega
   split at hk<;>omega
  refine ZB aff ?_;have⟨H,L⟩:∃H:AH,H=((h.new (.box [.eN s])).new (.box (aG t))).new (.box [.nl]):=⟨_,rfl⟩;have k0:HK h H:=by rw[L];exact((HK.new _ _).add _).add _
  have n0:H.z=h.z+3:=by rw[L];simp only[aB]
  have g2:H.get h.z=some (.box [.eN s]):=by rw[L,aM (by simp only[aB];omega),aM (by simp only[aB];omega),aD]
  have g3:H.get (h.z+1)=some (.box (aG t)):=by
   rw[L,aM (by simp only[aB];omega)];have:h.z+1=(h.new (.box [.eN s])).z:=by simp only[aB]
   rw[this,aD]
  have g4:H.get (h.z+1+1)=some (.box [.nl]):=by
   rw[L];have:h.z+1+1=((h.new (.box [.eN s])).new (.box (aG t))).z:=by simp only[aB]
   rw[this,aD]
  have gq:(H.new (.box zT)).get (h.z+3)=some (.box zT):=by rw[<-n0,aD]
  have⟨H1,Y⟩:∃H1:AH,H1=(H.new (.box zT)).set (h.z+3) (.box [.I t.D,.I t.X,.str t.N,.eL t.L,.nl]):=⟨_,rfl⟩;have J0:acw t h.z h H1 s .nl []:=by
   rw[Y];exact⟨(k0.add _).set _ o_,by rw[aE,aB];omega,by rw[aA o_,aM o_];exact g2,by rw[aA o_,aM o_];exact g3,by rw[aA o_,aM o_];exact g4,aF _ _ _,cV _ _ _ _⟩
  unfold aG at L g3;rw[aJ t];have b2:zo=zo:=rfl;simp only[go_sem,aB];rw[<-L];simp only[go_sem,g3,n0,gq];rw[<-Y];clear L Y;simp only[go_sem,zo];refine bo (I1092 t h.z h s ts) t.K.length o_ ⟨_,0,s,ts,.nl,[],z_ _,rfl,J0,k_,k_,k_,k_,y_,wf,a4,⟨[],by simp⟩,⟨[],by simp⟩,trivial,rfl,by simp⟩ ?_;clear J0 g2 g3 g4 gq k0 n0 H H1;rintro j fr H2 ⟨tm,p,c,z,V,dn,hp,rfl,J,t2,t3,t4,t6,t7,o,m,⟨l1,U⟩,⟨l2,O⟩,lk,dl,an⟩;have q3:=J.g3;have Z:=J.g2;have q6:=J.g6;have nx:=J.nx;unfold aG at q3;simp only[*,go_sem];refine aU (λac=>?_) (λbg=>?_)
  ·have ac:p<t.K.length:=o_;have d:=a_ ac;have ha:=aR bH d .i64;have bq:=cH (m_ d);have aj:=qX d;have az:=tk _ (m_ d);have a5:=bt.kid _ (m_ d);have bi:ba (t.K.take p)+aO t.K[p]<=ba t.K:=by
    rw[<-aj];have e:∀a b:List T,ba (a++b)=ba a+ba b:=by
     intro a b;induction a with
     |nil=>simp[ba]
     |cons x a ih=>simp only[Q_,ba,ih];omega
    have:=congrArg ba (j_ (p+1) t.K);rw[e]at this;omega
   have hw:=aP p o_;obtain⟨v,I,e3,⟨F,aw,r,rfl,D,ag,⟨l3,bd⟩,⟨l4,P⟩,ar,_⟩,B⟩:=ih t.K[p] c z H2 o_ az a5 o m o_;have br:=B.z;have a6:=B.up Z;have bb:=B.up q6;have o3:=bP J.own (h':=I) B.z (λk q1 Z=>B.kw k Z);have⟨w,l⟩:∃w:AH,w=I.set h.z (.box [.eN F]):=⟨_,rfl⟩;have o4:=bP o3 (h':=w) (by rw[l,aE];exact e_ _) (λk q1 Z=>by rw[l,aA o_]);have G:w.get (h.z+3)=some (.box [.I t.D,.I t.X,.str t.N,.eL t.L,V]):=by rw[l,aA o_];exact bb
   have n4:w.z=I.z:=by rw[l,aE]
   have⟨V5,H5,ea,o5,a2,W,_⟩:=eY (AG.bh r) o4;have ea:cI w 1 false [.I 0] 8 V (.clip [.I r])=some (V5,H5):=ea _ _ rfl (by decide);have X:=(W (h.z+3) o_).trans G;have⟨_,ao,a7⟩:=jD o5;have bx:AV.cells (.agg [.eN F])=[.eN F]:=rfl;simp only[go_sem,t2,t3,t6,t7,Z,q3,ha,e3,a6];rw[<-l];simp only[go_sem,t6,G,ea,X,ao,a7,t7,hw];have Q:∀k,k<h.z+4->k≠h.z->H5.get k=I.get k:=λk a b=>(W k o_).trans (by rw[l,aA b]);refine⟨j-1,o_,_,p+1,F,aw,V5,dn++[r],o_,rfl,⟨?_,?_,?_,?_,?_,aF _ _ _,?_⟩,q_ t2,q_ t3,q_ t4,q_ t6,k_,D,ag,⟨l1++l3,by rw[bd,U,V_]⟩,⟨l2++l4,by rw[P,O,V_]⟩,?_,by simp[dl],by rw[aj];omega⟩
   ·refine⟨by rw[aE];have:=J.hk.z;omega,λk hk=>?_⟩;rw[aA o_,Q k o_ o_,B.kw k o_];exact J.hk.kw k hk
   ·rw[aE];omega
   ·rw[aA o_,W _ o_,l,aF]
   ·rw[aA o_,Q _ o_ o_,B.kw _ o_];exact J.g3
   ·rw[aA o_,Q _ o_ o_,B.kw _ o_];exact J.g4
   ·rw[List.map_append];exact bP o5 (by rw[aE];exact e_ _) (λk q1 Z=>aA o_)
   rw[Z_,d,Option.toList_some,P];exact lk.app.snoc (by rw[<-P];exact ar)
  have aq:p=t.K.length:=o_;subst aq;rw[K_]at lk an;have⟨I,ec,_,B,ak⟩:=PH t.D t.X t.N t.L J.own;have⟨nd,u⟩:∃nd:NV,nd=⟨t.D,t.X,t.N,t.L,dn⟩:=⟨_,rfl⟩;have A:ndT nd t.K=t:=by rw[u];cases t;rfl
  have a3:BN nd:=by rw[u];exact⟨bt.ln,bt.ls,by show dn.length<10000000;omega⟩
  obtain⟨_,w,e4,⟨e,rfl,he⟩,k4⟩:=c1136 (h:=I) c nd o_ (o.bn m) a3;rw[<-u]at ec;rw[<-dJ (f:=136) (c:=[]) (ae (nL c H2) (ae ec (aH _))) (ae (nL _ _) (ae (wi _ _) (aH _)))]at e4;have bw:=k4.z;have E:∀k,k<h.z+4->w.get k=H2.get k:=λk hk=>k4.up (B k hk);have S:=(E h.z o_).trans J.g2;have af:=(E (h.z+1+1) o_).trans J.g4;have G:=(E (h.z+3) o_).trans J.g6;have ah:HK h w:=⟨by have:=J.hk.z;omega,λk hk=>(E k o_).trans (J.hk.kw k hk)⟩;simp only[go_sem,t2,t6,Z,q6,e4];rcases he with⟨be,al⟩|⟨M,a9⟩
  ·have d0:decide (e>=0)=false:=d_;simp only[go_sem,d0,t2,S];have⟨_,_,e5,k5,o5⟩:=Dx w c o_;have X:=k5.up G;have ad:=k5.up S;have av:=k5.up af;have a2:=k5.z;have⟨V6,H6,e6,o6,_,k6,_⟩:=eY (.agg [.I t.D,.I t.X,.str t.N,.eL t.L,V]) o5;have⟨N,gL,R,g6,l6,b6⟩:=vP o6 (by simp);have R:V6=.row N gL 5 0 (c.length+1):=by rw[R];simp
   subst R;have am:=(k6 h.z o_).trans ad;have a8:=(k6 (h.z+1+1) o_).trans av;have ap:(H6.set (h.z+2) (.box [.row N gL 5 0 (c.length+1)])).get h.z=some (.box [.eN c]):=(aA o_).trans am;simp only[go_sem,e5,t2,t4,t6,X,e6,am,a8,ad,ap];have bm:=b6;have⟨C,f⟩:∃C:AH,C=H6.set (h.z+2) (.box [.row N gL 5 0 (c.length+1)]):=⟨_,rfl⟩;have r4:C.get (h.z+2)=some (.box [.row N gL 5 0 (c.length+1)]):=by rw[f,aF]
   have rL:C.get N=some (.row gL 5 true (bJ (c.map bU++[.agg [.I t.D,.I t.X,.str t.N,.eL t.L,V]])) 0):=by rw[f,aA o_];exact g6
   have ax:∀k,h.z+4<=k->k<I.z->C.get k=I.get k:=λk a b=>by rw[f,aA o_,k6 k o_,k5.kw k o_,k4.kw k b]
   have a0:VS (h.z+4) C V dn:=ak.kw (by rw[f,aE];omega) ax;have au:N<C.z:=by rw[f,aE];exact l6
   have n7:C.z=H6.z:=by rw[f,aE]
   have aa:∀k,k<h.z->C.get k=h.get k:=λk hk=>by rw[f,aA o_,k6 k o_,k5.kw k o_];exact ah.kw k hk
   rw[<-f];clear f;have⟨_,ai,_,k8⟩:=TO (gs:=c) (bL:=h.z+4) (c.length:Int) a0 rL au o_ (e_ _) (λa g n ha=>by
    rcases ak with⟨q,_⟩|⟨kk,gg,fz,q,_,q3,_⟩
    ·rw[q]at ha;cases ha
    rw[q]at ha;cases ha;omega)
   have a1:Lk z nd.K t.K:=by rw[u];exact lk
   have D:=o.add (n:=nd) (k:=t.K) a1 (by rw[A];exact tok) al;rw[A]at D;rw[<-u]at ai;refine⟨rfl,rfl,.inr rfl,[.agg [.row N gL 5 0 (c.length+1)],.I (c.length:Int)],by simp only[*,go_sem],_,_,ai,⟨c++[nd],z++[t],(c.length:Int),rfl,D,?_,⟨l1++[nd],by rw[U,V_]⟩,⟨l2++[t],by rw[O,V_]⟩,At.of (by rw[<-o.len];simp),by simp;omega⟩,⟨o_,λk hk=>(k8 k o_).trans (aa k hk)⟩⟩;intro x hx;rcases List.mem_append.1 hx with q|q
   ·exact m x q
   simp only[W_]at q;subst q;exact bt
  have d0:=T_ M;simp only[*,go_sem];have ab:At z e t:=by
   have⟨_,a,b,_⟩:=o.node _ _ a9;rw[u]at b;have:=b.det lk;subst this;refine⟨M,?_⟩;rw[a,A]
  refine⟨rfl,rfl,.inr rfl,[.agg [.eN c],.I e],by simp only[*,go_sem],.tup [.agg [.eN c],.I e],_,bF (ae (nL _ _) (ae (aL _ _ _) (aH _))),⟨c,z,e,rfl,o,m,⟨l1,U⟩,⟨l2,O⟩,ab,o_⟩,ah.set _ o_⟩
end
theorem CK.tok {e b:Int}(hm:b<=65536):∀(n:Nat) (t:T) (d:Int),aO t<=n->CK e b t d->e+d+n<=65536->TOK t:=by
 intro n;induction n with
 |zero=>intro t d h;have:=bI t;omega
 |succ n D=>
  intro t d hs c A;have j:=fk t;cases c with
  |mk _ _ o g z l C F B=>
   have⟨r,v,m,u,f,_,_⟩:=o;have⟨k,_,_,_,_⟩:=t;simp only[T.D,T.X,T.N,T.L,T.K]at *;refine⟨⟨r,v,m,?_,?_,u,?_,?_,f,g_,l⟩,dh.2 λx hx=>?_⟩
   ·omega
   ·omega
   ·by_cases q:k=3
    ·exact(g q).1
    grind [bs]
   ·by_cases q:k=3
    ·have:=(g q).2;omega
    rw[f q];decide
   have⟨_,_⟩:=J_ hx;have s:=cH hx;grind [lh,bK]
theorem dR (a b:List T):ba (a++b)=ba a+ba b:=by
 induction a with
 |nil=>simp[ba]
 |cons x a c=>simp only[Q_,ba,c];omega
def sQ (l:List T)(p:Nat):ba (l.take p)<=ba l:=by
 have:=congrArg ba (j_ p l);rw[dR]at this;omega
section
variable {K:aN}{h:AH}
def I1089 (t:T)(q:Int)(b:Nat)(c:AH)(j:Nat)(a:AF)(h:AH):Prop:=∃tm p x,p+j=t.K.length/\a=F_ 89 tm/\HK c h/\b<h.z/\h.get b=some (.box (aG t))/\nth tm 1=.I q/\nth tm 2=.P b/\nth tm 5=.I x/\nth tm 6=.I (p:Int)/\((aO t:Int)<=q->x=((1+ba (t.K.take p):Nat):Int))
def c1089 [RunsM K](q:Int):∀(n:Nat) (t:T) (h:AH),aO t<=n->n<=100000000->
  Ret K (89) [enc t,.I q] h λv _=>∃e:Int,v=.I e/\((aO t:Int)<=q->e=aO t):=by
 intro n;induction n with
 |zero=>intro t h hs;have:=bI t;omega
 |succ n P=>
  intro t h hs X;have r:=fk t;have Q:=bO t.K;refine aV afi ?_;have⟨_,s,I,_,J⟩:=nw h (.box (aG t));unfold aG at s;rw[aJ t];unfold ack;simp only[go_sem];rw[<-s];clear s;simp only[go_sem,LU,LW];refine bo (I1089 t q h.z h) t.K.length o_ ⟨_,0,1,z_ _,rfl,I,o_,J,k_,k_,k_,y_,λ_=>by simp[ba]⟩ ?_;rintro j W C ⟨tm,p,x,V,rfl,g,B,b,m,k,d,u,hx⟩;have fin:∀(tm:Tm),nth tm 5=.I x->((aO t:Int)<=q->x=aO t)->R_ K [.code DX] (Fin Wj λE D=>(∃e:Int,E=.I e/\((aO t:Int)<=q->e=aO t))/\HK h D) .normal (F_ 89 tm) C:=by
   intro tm d o;simp only[go_sem,DX,d];exact Fr ⟨⟨x,rfl,o⟩,g⟩
  unfold aG at b;unfold Np;by_cases c:(p:Int)<(t.K.length:Int)
  ·have l:=T_ c;by_cases f:x<=q
   ·have y:=T_ f;have c:p<t.K.length:=o_;have a:=a_ c;have M:=cH (m_ a);have z:=qX a;have N:=sQ t.K (p+1);obtain⟨_,_,_,⟨e,rfl,o⟩,w⟩:=P t.K[p] C o_ o_;have F:=aP p o_;simp only[*,go_sem,LX];refine⟨j-1,o_,_,p+1,IntKind.wrap .i64 (x+e),o_,rfl,g.trans w,by have:=w.z;omega,(w.kw _ B).trans b,q_ m,q_ k,k_,k_,λi=>?_⟩;have G:=hx i;have O:=o o_;rw[G,O,aW _ o_ o_,z];omega
   have y:=D_ f;simp only[go_sem,m,k,d,u,b,l,y];refine fin _ (q_ d) λi=>?_;have:=hx i;have:=sQ t.K p;omega
  have l:=D_ c;have A:p=t.K.length:=o_;simp only[go_sem,k,u,b,l];refine fin _ (q_ d) λi=>?_;rw[hx i,A,K_,r]
def I1090 (t:T)(q:Int)(b:Nat)(c:AH)(j:Nat)(a:AF)(h:AH):Prop:=∃tm p x,p+j=t.K.length/\a=F_ 90 tm/\HK c h/\b<h.z/\h.get b=some (.box (aG t))/\nth tm 1=.I q/\nth tm 2=.P b/\nth tm 5=.I x/\nth tm 6=.I (p:Int)/\0<=x/\x<=(ba t.K:Int)
def c1090 [RunsM K]:∀(n:Nat) (q:Int) (t:T) (h:AH),aO t<=n->n<=100000000->-1<=q->q<=1000->
  Ret K (90) [enc t,.I q] h λv _=>∃e:Int,v=.I e/\0<=e/\e<=aO t:=by
 intro n;induction n with
 |zero=>intro q t h hs;have:=bI t;omega
 |succ n L=>
  intro q t h hs U y N;have w:=fk t;have M:=bO t.K;refine aV afh ?_;have⟨_,g,s,_,E⟩:=nw h (.box (aG t));unfold aG at g;rw[aJ t];unfold acj;simp only[go_sem];rw[<-g];clear g;simp only[go_sem,LN];refine aU (λO=>?_) (λO=>?_)
  ·simp only[go_sem];exact Fr ⟨⟨0,rfl,o_,o_⟩,s⟩
  simp only[go_sem,LO,LP];refine bo (I1090 t q h.z h) t.K.length o_ ⟨_,0,0,z_ _,rfl,s,o_,E,k_,k_,k_,y_,o_,o_⟩ ?_;rintro j S F ⟨tm,p,x,R,rfl,c,m,a,r,f,u,o,A,D⟩;unfold aG at a;unfold No;simp only[*,go_sem];refine aU (λd=>?_) (λz=>?_)
  ·have d:p<t.K.length:=o_;have b:=a_ d;have J:=cH (m_ b);have k:=aW (q-1) o_ o_;obtain⟨_,_,_,⟨e,rfl,_,_⟩,l⟩:=L (q-1) t.K[p] F o_ o_ o_ o_;have C:=aP p o_;simp only[*,go_sem,LS];exact⟨j-1,o_,_,p+1,max x e,o_,rfl,c.trans l,by have:=l.z;omega,(l.kw _ m).trans a,q_ r,q_ f,k_,k_,o_,o_⟩
  have i:=aW (x+1) o_ o_;simp only[*,go_sem,LR];exact Fr ⟨⟨x+1,rfl,o_,o_⟩,c⟩
end
def pO (k:Int):Int:=if k=0\/k=1\/k=2\/k=3\/k=12 then 0 else if k=4\/k=5\/k=6\/k=7 then 2 else if k=8\/k=11 then 3 else if k=9\/k=10 then 1 else -1
def OT {k:Int}(a:0<=k)(b:k<13):pO k=cN k:=by
 unfold pO cN;split<;>split<;>first|rfl|omega|(split<;>first|rfl|omega|(split<;>first|rfl|omega))
structure xN (t:T):Prop where
 K:pO t.D=(t.K.length:Int)
 vl:∀l∈t.L,VL l
 i0:t.D=0\/t.D=12->0<=t.X/\t.X<=2147483647
 i1:t.D≠0->t.D≠12->t.X=0
 N:t.D≠3->t.N=bs []
 short:t.N.size<=65536
 l2:t.D=2->t.L.length=1
 l3:t.D=3->t.L.length<=8
 l0:t.D≠2->t.D≠3->t.L.length=0
section
variable {K:aN}{h:AH}
def c1172 [RunsM K](k:Int):cS K (.fn 172 [] []) [.I k] .no h=some (.ret (.I (pO k)),.no,h):=by
 obtain⟨v,a,e,rfl,rfl⟩:=aV (a:=[.I k]) (h:=h) (P:=λv a=>v=.I (pO k)/\a=h) aep (by
  repeat' (first|simp only[go_sem, *]|refine pC (λ_=>?_) λ_=>?_|refine qE (λ_=>?_) λ_=>?_|refine pD (λ_=>?_) λ_=>?_|refine tn (λ_=>?_) λ_=>?_|refine pH (λ_=>?_) λ_=>?_|refine tG (λ_=>?_) λ_=>?_)
  all_goals (refine⟨by rfl,by rfl,.inr rfl,[_],y_,_,_,cv_ (aL _ _ _),?_,rfl⟩;simp_all [pO]))
 exact e
def I1135 (t:T)(b:Nat)(c:AH)(j:Nat)(a:AF)(h:AH):Prop:=∃tm p,p+j=t.L.length/\a=F_ 135 tm/\HK c h/\b<h.z/\h.get b=some (.box (aG t))/\nth tm 1=.P b/\nth tm 3=.I (p:Int)
def c1135 [RunsM K](t:T)(bt:BT t)(_hk:t.K.length<10000000):
  Ret K (135) [enc t] h λv _=>∃b,v=.bool b/\(xN t->b=true):=by
 refine aV aeN ?_;have⟨H,L,X,_,E⟩:=nw h (.box (aG t));have ret:∀(tm:Tm) (b:Bool) (H:AH),HK h H->nth tm 2=.bool b->(xN t->b=true)->Fin Fj (λs r=>(∃b,s=.bool b/\(xN t->b=true))/\HK h r) .ret (F_ 135 tm) H:=λtm b H hk U O=>
  Fr ⟨⟨b,rfl,O⟩,hk⟩
 have V:=c1172 (h:=H) t.D;have aa:=bt.ln;have M:=E;unfold aG at L E;rw[aJ t];simp only[go_sem];rw[<-L];clear L;by_cases P:pO t.D=(t.K.length:Int)
 case neg=>
  have S:=D_ P;simp only[*,go_sem];exact ret _ false H X k_ λp=>absurd p.K P
 have S:=T_ P;simp only[*,go_sem];refine bo (I1135 t h.z h) t.L.length o_ ⟨_,0,z_ _,rfl,X,o_,M,k_,y_⟩ ?_;rintro j fr o ⟨tm,p,hp,rfl,g,Q,a,c,J⟩;have z:=a;unfold aG at a;simp only[*,go_sem];refine aU (λB=>?_) (λZ=>?_)
 ·have B:p<t.L.length:=o_;have k:=a_ B;have hw:=aP p o_;obtain⟨_,H3,e,⟨b,rfl,O⟩,D⟩:=c21 (h:=o) t.L[p] (bt.ls _ (m_ k));simp only[*,go_sem];cases b with
  |false=>
   simp only[go_sem];exact ret _ false H3 (g.trans D) k_ λq=>absurd (O.2 (q.vl _ (m_ k))) (by simp)
  |true=>
   simp only[*,go_sem];exact⟨j-1,o_,_,p+1,o_,rfl,g.trans D,by have:=D.z;omega,(D.kw _ Q).trans z,q_ c,k_⟩
 have l:∀(tm:Tm),nth tm 1=.P h.z->R_ K [.code vG] (Fin Fj (λs r=>(∃b,s=.bool b/\(xN t->b=true))/\HK h r)) .normal (F_ 135 tm) o:=by
  intro tm c;by_cases F:t.D=2
  ·have n:=T_ F;simp only[*,go_sem,vG];exact ret _ (decide ((t.L.length:Int)=1)) o g k_ λq=>T_ (by have:=q.l2 F;omega)
  have n:=D_ F;by_cases I:t.D=3
  ·have e:=T_ I;simp only[*,go_sem,vG];exact ret _ (decide ((t.L.length:Int)<=8)) o g k_ λq=>T_ (by have:=q.l3 I;omega)
  have e:=D_ I;simp only[*,go_sem,vG];exact ret _ (decide ((t.L.length:Int)=0)) o g k_ λq=>T_ (by have:=q.l0 F I;omega)
 have tail:∀(tm:Tm) (C:Bool),nth tm 1=.P h.z->nth tm 4=.bool C->(C=true<->(t.D=0\/t.D=12))->R_ K [.code ku] (Fin Fj (λs r=>(∃b,s=.bool b/\(xN t->b=true))/\HK h r)) .normal (F_ 135 tm) o:=by
  intro tm C c m A;have f:∀(tm:Tm),nth tm 2=.bool false->¬xN t->Fin Fj (λs r=>(∃b,s=.bool b/\(xN t->b=true))/\HK h r) .ret (F_ 135 tm) o:=λtm U hn=>ret tm false o g U λq=>absurd q hn;cases C with
  |true=>
   have hk:=A.1 rfl;by_cases y:t.X<0
   ·have i:=T_ y;simp only[*,go_sem,ku];exact f _ k_ λq=>by have:=q.i0 hk;omega
   have i:=D_ y;by_cases W:t.X > 2147483647
   ·have n:=T_ W;simp only[*,go_sem,ku];exact f _ k_ λq=>by have:=q.i0 hk;omega
   have n:=D_ W;have c3:t.D≠3:=o_;have e:=D_ c3;by_cases d:(t.N==bs [])=true
   ·have u:=WL d;have w:(t.N.size:Int) > 65536->False:=by rw[u];intro q;exact absurd q (by decide)
    have x:=D_ w;simp only[go_sem,ku,c,m,a,i,n,e,d,x];exact l _ (q_ c)
   have d:(t.N==bs [])=false:=by simpa using d
   simp only[*,go_sem,ku];exact f _ k_ λq=>by have:=q.N c3;rw[this]at d;exact absurd d (by decide)
  |false=>
   have hk:¬(t.D=0\/t.D=12):=λq=>absurd (A.2 q) (by simp);by_cases y:t.X=0
   case neg=>
    have i:=D_ y;simp only[*,go_sem,ku];exact f _ k_ λq=>by have:=q.i1 o_ o_;omega
   have i:=T_ y;by_cases c3:t.D=3
   ·have e:=T_ c3;by_cases Y:(t.N.size:Int) > 65536
    ·have x:=T_ Y;simp only[*,go_sem,ku];exact f _ k_ λq=>by have:=q.short;omega
    have x:=D_ Y;simp only[*,go_sem,ku];exact l _ (q_ c)
   have e:=D_ c3;by_cases d:(t.N==bs [])=true
   ·have u:=WL d;have w:(t.N.size:Int) > 65536->False:=by rw[u];intro q;exact absurd q (by decide)
    have x:=D_ w;simp only[go_sem,ku,c,m,a,i,e,d,x];exact l _ (q_ c)
   have d:(t.N==bs [])=false:=by simpa using d
   simp only[*,go_sem,ku];exact f _ k_ λq=>by have:=q.N c3;rw[this]at d;exact absurd d (by decide)
 by_cases G:t.D=0
 ·have N:=T_ G;simp only[*,go_sem];exact tail _ true (q_ c) k_ (by simp[G])
 have N:=D_ G;simp only[*,go_sem];exact tail _ (decide (t.D=12)) (q_ c) k_ (by simp[G])
end
inductive NP:T->Prop
 |mk (t:T):xN t->(∀x∈t.K,NP x)->NP t
def NP.node {t:T}(p:NP t):xN t:=by cases p;assumption
def NP.kid {t:T}(p:NP t):∀x∈t.K,NP x:=by cases p;assumption
section
variable {K:aN}{h:AH}
def I1091 (t:T)(b:Nat)(c:AH)(j:Nat)(a:AF)(h:AH):Prop:=∃tm p,p+j=t.K.length/\a=F_ 91 tm/\HK c h/\b<h.z/\h.get b=some (.box (aG t))/\nth tm 1=.P b/\nth tm 3=.I (p:Int)
def c1091 [RunsM K]:∀(n:Nat) (t:T) (h:AH),aO t<=n->n<=10000000->BT t->
  Ret K (91) [enc t] h λv _=>∃b,v=.bool b/\(NP t->b=true):=by
 intro n;induction n with
 |zero=>intro t h hs;have:=bI t;omega
 |succ n L=>
  intro t h hs V bt;have w:=fk t;have N:=bO t.K;refine aV afg ?_;have⟨H,e,_,_,l⟩:=nw h (.box (aG t));have ret:∀(tm:Tm) (b:Bool) (H:AH),HK h H->nth tm 2=.bool b->(NP t->b=true)->Fin Wi (λz y=>(∃b,z=.bool b/\(NP t->b=true))/\HK h y) .ret (F_ 91 tm) H:=λtm b H hk P i=>
   Fr ⟨⟨b,rfl,i⟩,hk⟩
  obtain⟨v,F,o,⟨b,rfl,i⟩,r⟩:=c1135 (h:=H) t bt o_;rw[aJ t]at o;have M:=r.up l;have E:=r.z;unfold aG at e l;rw[aJ t];simp only[go_sem];rw[<-e];clear e;simp only[*,go_sem];cases b with
  |false=>
   simp only[go_sem];exact ret _ false F g_ k_ λq=>absurd (i q.node) (by simp)
  |true=>
   simp only[go_sem];refine bo (I1091 t h.z h) t.K.length o_ ⟨_,0,o_,rfl,g_,o_,M,k_,y_⟩ ?_;rintro j S s ⟨tm,p,R,rfl,g,O,a,k,d⟩;have u:=a;unfold aG at a;simp only[*,go_sem];refine aU (λm=>?_) (λA=>?_)
   ·have m:p<t.K.length:=o_;have c:t.K[p]?=some t.K[p]:=g_;have x:=aR bH o_ .i64;have I:=cH (m_ c);have D:=aP p o_;obtain⟨_,B,_,⟨J,rfl,f⟩,C⟩:=L t.K[p] s o_ o_ (bt.kid _ g_);simp only[*,go_sem];cases J with
    |false=>
     simp only[go_sem];exact ret _ false B g_ k_ λq=>absurd (f (q.kid _ g_)) (by simp)
    |true=>
     simp only[*,go_sem];exact⟨j-1,o_,_,p+1,o_,rfl,g_,by have:=C.z;omega,g_,q_ k,k_⟩
   simp only[go_sem];exact ret _ true s g k_ g_
def abZ [RunsM K](n:Nat)(t:T)(hs:aO t<=n)(I:n<=10000000)(bt:BT t):
  Ret K (50) [enc t] h λv _=>∃e:Int,v=.I e/\(aO t<=150->NP t->e=0):=by
 refine aV afH ?_;have⟨H,d,_,_,b⟩:=nw h (.box (aG t));have ret:∀(tm:Tm) (e:Int) (a:AH),HK h a->nth tm 2=.I e->(aO t<=150->NP t->e=0)->Fin Ws (λr g=>(∃e:Int,r=.I e/\(aO t<=150->NP t->e=0))/\HK h g) .ret (F_ 50 tm) a:=λtm e a hk B p=>
  Fr ⟨⟨e,rfl,p⟩,hk⟩
 obtain⟨v,a,i,⟨_,rfl,_⟩,j⟩:=c1089 4096 n t H hs o_;obtain⟨v,l,o,⟨_,rfl,_,_⟩,x⟩:=c1090 n 202 t a hs o_ o_ o_;obtain⟨_,k,m,⟨z,rfl,_⟩,_⟩:=c1091 n t l hs o_ bt;have w:=j.z;have c:=j.up b;have f:=x.up c;rw[aJ t]at i o m;unfold aG at d b c f;rw[aJ t];simp only[go_sem];rw[<-d];simp only[go_sem,i];refine aU (λu=>?_) (λu=>?_)
 ·simp only[go_sem];exact ret _ 5 a g_ k_ o_
 simp only[*,go_sem];refine aU (λs=>?_) (λs=>?_)
 ·simp only[go_sem];exact ret _ 7 l g_ k_ o_
 simp only[*,go_sem];cases z with
 |false=>
  simp only[go_sem];exact ret _ 3 k g_ k_ g_
 |true=>
  simp only[go_sem];exact ret _ 0 k g_ k_ o_
def AddP (t:T)(c:List NV)(ts:List T)(v:AV):Prop:=∃(a:List NV) (r e:Int),v=.tup [.agg [.eN a],.I r,.I e]/\
 (e=0->∃b,Wf a b/\a.length<=65536/\(∀x∈b,BT x)/\(∃l,a=c++l)/\(∃l,b=ts++l)/\At b r t/\a.length<=c.length+aO t)
def CX (t:T)(a:List NV)(h:AH):∃H:AH,H=((h.new (.box [.eN a])).new (.box (aG t))).new (.box [.nl])/\HK h H/\H.z=h.z+3/\H.get h.z=some (.box [.eN a])/\H.get (h.z+1)=some (.box (aG t))/\H.get (h.z+1+1)=some (.box [.nl]):=by
 grind [HK.new,aB,aM,aD,bU,aG]
def c1051 [RunsM K](n:Nat)(t:T)(b:List NV)(ts:List T)(hs:aO t<=n)(tok:TOK t)(bt:BT t)(wf:Wf b ts)(j:∀x∈ts,BT x)(I:b.length+aO t<=90000):
  Ret K (51) [.agg [.eN b],enc t] h λv _=>AddP t b ts v:=by
 refine aV afG ?_;have⟨H,s,B,_,z,p,G⟩:=CX t b h;obtain⟨_,F,w,⟨a,m,r,rfl,f,e,i,l,E,D⟩,g⟩:=c1092 n t b ts H hs tok bt wf j I;have C:=g.z;have k:=g.up G;have⟨_,o,y,_,u⟩:=ns F (.box [.nl]) (.box [.eN a]);have c:=y.up k;have d:=(B.trans g).trans y;rw[aJ t]at w;unfold aG at s p;rw[aJ t];unfold aco;simp only[go_sem,aB];rw[<-s];simp only[go_sem,Mh,z,p,w];rw[<-o];simp only[go_sem,Mi,u];refine aU (λA=>?_) (λA=>?_)
 ·simp only[go_sem,c];exact⟨rfl,rfl,g_,[.agg [.nl],.I 0,.I 6],k_,.tup [.agg [.eN ([]:List NV)],.I 0,.I 6],_,bF (ae (xW _) (ae (aL _ _ _) (ae (aL _ _ _) (aH _)))),⟨[],0,6,rfl,λq=>absurd q (by decide)⟩,d.set _ o_⟩
 simp only[go_sem,Mj,u,c];exact⟨rfl,rfl,g_,[.agg [.eN a],.I r,.I 0],k_,.tup [.agg [.eN a],.I r,.I 0],_,bF (ae (nL _ _) (ae (aL _ _ _) (ae (aL _ _ _) (aH _)))),⟨a,r,0,rfl,λ_=>⟨m,f,o_,e,i,l,E,D⟩⟩,d.set _ o_⟩
def c1026 [RunsM K](n:Nat)(t:T)(c:List NV)(ts:List T)(hs:aO t<=n)(i:n<=10000000)(tok:TOK t)(bt:BT t)(wf:Wf c ts)(l:∀x∈ts,BT x)(D:c.length+aO t<=90000):
  Ret K (26) [.agg [.eN c],enc t] h λv _=>AddP t c ts v:=by
 refine aV afV ?_;have⟨H,o,s,_,y,g,B⟩:=CX t c h;obtain⟨v,A,p,⟨e,rfl,_⟩,b⟩:=abZ (h:=H) n t hs i bt;obtain⟨_,_,w,⟨a,r,x,rfl,hx⟩,u⟩:=c1051 (h:=A) n t c ts hs tok bt wf l D;have z:=b.z;have m:=b.up y;have d:=b.up g;have f:=b.up B;have j:=u.up f;rw[aJ t]at p w;unfold aG at o g d;rw[aJ t];simp only[go_sem,aB];rw[<-o];simp only[go_sem,g,p];by_cases C:e=0
 ·have k:decide (e=0)=true:=g_;simp only[go_sem,k,m,d,w,j];exact⟨rfl,rfl,g_,[.agg [.eN a],.I r,.I x],k_,.tup [.agg [.eN a],.I r,.I x],_,bF (ae (nL _ _) (ae (aL _ _ _) (ae (aL _ _ _) (aH _)))),⟨a,r,x,rfl,hx⟩,((s.trans b).trans u).set _ o_⟩
 have k:decide (e=0)=false:=g_;simp only[*,go_sem];exact⟨rfl,rfl,g_,[.agg [.nl],.I 0,.I e],k_,.tup [.agg [.eN ([]:List NV)],.I 0,.I e],_,bF (ae (xW _) (ae (aL _ _ _) (ae (aL _ _ _) (aH _)))),⟨[],0,e,rfl,λq=>absurd q C⟩,(s.trans b).set _ o_⟩
def I1041 (a:List NV)(b:Nat)(d:AH)(j:Nat)(c:AF)(h:AH):Prop:=∃tm p,p+j=a.length/\c=F_ 41 tm/\HK d h/\b+1<h.z/\h.get b=some (.box [.eN a])/\h.get (b+1)=some (.box [.eN a])/\nth tm 2=.P b/\nth tm 3=.P (b+1)/\nth tm 5=.I (p:Int)
def c1041 [RunsM K](a:List NV)(J:a.length<1000000)(C:∀x∈a,BN x):
  Ret K (41) [.agg [.eN a],.agg [.eN a]] h λv _=>v=.bool true:=by
 refine aV afL ?_;have⟨H,r⟩:∃H:AH,H=(h.new (.box [.eN a])).new (.box [.eN a]):=⟨_,rfl⟩;have n1:=aB h (.box [.eN a]);have w:HK h H:=by grind [HK.new]
 have E:H.z=h.z+2:=by grind [aB]
 have c:H.get h.z=some (.box [.eN a]):=by grind [aM,aD]
 have g:H.get (h.z+1)=some (.box [.eN a]):=by grind [aD]
 have z:decide ((a.length:Int)=(a.length:Int))=true:=g_;simp only[go_sem,n1];rw[<-r];simp only[go_sem,c,g];refine bo (I1041 a h.z h) a.length o_ ⟨_,0,o_,rfl,w,o_,c,g,k_,k_,y_⟩ ?_;rintro j I y ⟨tm,p,G,rfl,hk,L,c,g,k,m,q⟩;simp only[*,go_sem];refine aU (λD=>?_) (λt=>?_)
 ·have e:a[p]?=some a[p]:=g_;have l:=aR encN_len o_ .i64;have d:∀h:AH,cC (.vp (bU a[p])) h true 5=some (bU a[p]):=λh=>eA rfl rfl h;have f:=C _ (m_ e);have B:=aP p o_;obtain⟨_,_,o,⟨b,rfl,_⟩,u⟩:=WS (h:=y) a[p] a[p] f f;have i:b=true:=g_;subst i;have s:∀n:NV,bU n=.agg (n_ n):=λ_=>rfl;have nx:=u.z;rw[s a[p]]at d o l;simp only[*,go_sem];exact⟨j-1,o_,_,p+1,o_,rfl,g_,o_,g_,g_,q_ k,q_ m,k_⟩
 simp only[go_sem];exact Fr ⟨rfl,hk⟩
end
def zA:AV:=.agg zT
def t0:T:=.mk 0 0 (bs []) [] []
def Xg:∀p:Nat,(AV.ls (List.replicate p zA)).norm=.eT (List.replicate p t0):=by
 intro p;have:AV.norms (List.replicate p zA)=(List.replicate p t0).map enc:=by
  induction p with
  |zero=>rfl
  |succ p a=>
   rw[List.replicate_succ,List.replicate_succ,List.map_cons,AV.norms,a];congr 1
 simp only[AV.norm,this]
def Zs {a p:Nat}{h:AH}{V:AV}(k i:Int)(nm:ByteArray)(ls:List LL)(o:Own a 5 true h V (List.replicate p zA)):
  ∃b,cw (.agg [.I k,.I i,.str nm,.eL ls,V]) h=(enc (.mk k i nm ls (List.replicate p t0)),b)/\b.z=h.z/\∀j,j<a->b.get j=h.get j:=by
 have d:∀x b,dM V h=(x,b)->x.norm=.eT (List.replicate p t0)->cw (.agg [.I k,.I i,.str nm,.eL ls,V]) h=(enc (.mk k i nm ls (List.replicate p t0)),b):=by
  intro x b e hx;have c:cL [.I k,.I i,.str nm,.eL ls,V] h=([.I k,.I i,.str nm,.eL ls,x],b):=by
   simp only[cL,dQ (show(AV.I k).free=true from rfl),dQ (show(AV.I i).free=true from rfl),dQ (show(AV.str nm).free=true from rfl),dQ (show(AV.eL ls).free=true by simp only[AV.free];exact bY jK ls),e]
  show((AV.agg (cL _ h).1).norm,(cL _ h).2)=_;rw[c,iV (dH ls) hx]
 rcases iT o (λh=>by cases h) with⟨rfl,e,c⟩|⟨l,g,f,c,m,n⟩
 ·have:p=0:=by simpa using e
  subst this;exact⟨h,d _ _ c rfl,rfl,λ_ _=>rfl⟩
 exact⟨_,d _ _ c (Xg p),aE _ _ _,λj q=>aA o_⟩
def Yt:NP t0:=.mk t0 ⟨rfl,by simp[t0,T.L],λ_=>⟨by decide,by decide⟩,λ_ _=>rfl,λ_=>rfl,by decide,λq=>absurd q (by decide),λq=>absurd q (by decide),λ_ _=>rfl⟩ (by simp[t0,T.K])
def Ez:BT t0:=.mk t0 (by decide) (by decide) (by simp[t0,T.L]) (by decide) (by decide) (by simp[t0,T.K])
def NOK.np {n:NV}(q:NOK n):NP (.mk n.D n.X n.N n.L (List.replicate n.K.length t0)):=by
 have⟨f,j,c,g,_,i,_,_,h,a,b⟩:=q.nd;refine .mk _ ⟨?_,b,λ_=>⟨g,by show n.X<=2147483647;omega⟩,i,h,by show n.N.size<=65536;omega,a.1,a.2.1,λd e=>by show n.L.length=0;rw[a.2.2 d e];rfl⟩ λx hx=>?_
 ·show pO n.D=((List.replicate n.K.length t0).length:Int);rw[List.length_replicate,OT f j];exact c.symm
 have hx:=hx;rw[List.eq_of_mem_replicate hx];exact Yt
theorem NOK.bt {n:NV}(q:NOK n):BT (.mk n.D n.X n.N n.L (List.replicate n.K.length t0)):=by
 have⟨_,_,_,_,_,_,_,_,_,a,b⟩:=q.nd;refine .mk _ (by show n.N.size<10000000;omega) ?_ (λl e=>by have:=(b l e).len;omega) (by show -9223372036854775808<=n.X;omega) (by show n.X<9223372036854775808;omega) λx hx=>?_
 ·show n.L.length<10000000;by_cases c:n.D=2
  ·rw[a.1 c];decide
  by_cases d:n.D=3
  ·have:=a.2.1 d;omega
  rw[a.2.2 c d];decide
 have hx:=hx;rw[List.eq_of_mem_replicate hx];exact Ez
def Oc (p:Nat):ba (List.replicate p t0)=p:=by
 induction p with
 |zero=>rfl
 |succ p a=>rw[List.replicate_succ,ba,a];simp[t0,aO,ba];omega
section
variable {K:aN}{h:AH}
def I1078 (n:NV)(b:Nat)(c:AH)(j:Nat)(a:AF)(h:AH):Prop:=∃tm p V,p+j=n.K.length/\a=F_ 78 tm/\HK c h/\b+2<=h.z/\h.get b=some (.box (n_ n))/\
 h.get (b+1)=some (.box [.I n.D,.I n.X,.str n.N,.eL n.L,V])/\Own (b+2) 5 true h V (List.replicate p zA)/\nth tm 1=.P b/\nth tm 3=.P (b+1)/\nth tm 4=.I (p:Int)
def c1078 [RunsM K]{n:NV}(q:NOK n):
  Ret K (78) [bU n] h λv _=>v=.bool true:=by
 refine aV afm ?_;have S:n.K.length<=3:=by
  have:=q.nd.K;unfold cN at this;split at this
  ·omega
  split at this
  ·omega
  split at this<;>omega
 have⟨H,w,E,i,d⟩:=nw h (.box (n_ n));have B:(H.new (.box zT)).get (h.z+1)=some (.box zT):=by rw[<-i,aD]
 have⟨c,a⟩:∃c:AH,c=(H.new (.box zT)).set (h.z+1) (.box [.I n.D,.I n.X,.str n.N,.eL n.L,.nl]):=⟨_,rfl⟩;have y:HK h c:=by rw[a];exact(E.add _).set _ o_
 have n1:c.z=h.z+2:=by rw[a,aE,aB,i]
 have b:c.get h.z=some (.box (n_ n)):=by rw[a,aA o_,aM o_];exact d
 have f:c.get (h.z+1)=some (.box [.I n.D,.I n.X,.str n.N,.eL n.L,.nl]):=by rw[a,aF]
 simp only[go_sem];rw[<-w];clear w;simp only[*,go_sem];rw[<-a];clear a;have T:decide ((n.K.length:Int) > 3)=false:=d_;simp only[go_sem,b,T];refine bo (I1078 n h.z h) n.K.length o_ ⟨_,0,.nl,z_ _,rfl,y,o_,b,f,cV _ _ _ _,k_,k_,y_⟩ ?_;clear b f y n1 d B E i c H;rintro j Z H2 ⟨tm,p,V,X,rfl,hk,hn,d,m,o,C,r,x⟩;simp only[*,go_sem];refine aU (λu=>?_) (λN=>?_)
 ·have u:p<n.K.length:=o_;have O:=aP p o_;have⟨J,A,F,z,_,g,_⟩:=eY zA o;have⟨_,_,_⟩:=jD z;have s:=(g (h.z+1) o_).trans m;unfold zA at F;simp only[*,go_sem];refine⟨j-1,o_,_,p+1,J,o_,rfl,⟨by rw[aE];have:=hk.z;omega,λk q=>by rw[aA o_,g k o_];exact hk.kw k q⟩,by rw[aE];omega,by rw[aA o_,g _ o_];exact d,aF _ _ _,?_,q_ C,q_ r,k_⟩;rw[List.replicate_succ'];exact bP z (by rw[aE];exact e_ _) (λk W q2=>aA o_)
 have t:p=n.K.length:=o_;subst t;have⟨A,Q,_,g⟩:=Zs n.D n.X n.N n.L o;have P:aO (.mk n.D n.X n.N n.L (List.replicate n.K.length t0))=1+n.K.length:=by simp only[aO,Oc]
 obtain⟨_,_,G,⟨_,rfl,l⟩,D⟩:=abZ (h:=A) 10 (.mk n.D n.X n.N n.L (List.replicate n.K.length t0)) o_ o_ q.bt;have l:=l o_ q.np;subst l;rw[<-dJ (f:=50) (c:=[]) (ae Q (aH _)) (ae (cJ _ _) (aH _))]at G;have I:decide ((0:Int)=0)=true:=rfl;simp only[*,go_sem];exact Fr ⟨rfl,⟨by have:=hk.z;have:=D.z;omega,λk q=>D.up ((g k o_).trans (hk.kw k q))⟩⟩
end
def NOK.bn {n:NV}(q:NOK n):BN n:=by
 have b:=q.bt;refine⟨b.ln,b.ls,?_⟩;have:=q.nd.K;unfold cN at this;split at this
 ·omega
 split at this
 ·omega
 split at this<;>omega
section
variable {K:aN}{h:AH}
structure Dh (gs:List NV)(b:Nat)(h0 h:AH):Prop where
 hk:HK h0 h
 hn:b<h.z
 hg:h.get b=some (.box [.eN gs])
def Dh.up {a:List NV}{b:Nat}{c h d:AH}(q:Dh a b c h)(k:HK h d):Dh a b c d:=⟨q.hk.trans k,by have:=k.z;have:=q.hn;omega,(k.kw _ q.hn).trans q.hg⟩
def QP (n:NV):List AV:=(n_ n)
def agD (a:List NV)(b:Nat)(d:AH)(j:Nat)(c:AF)(h:AH):Prop:=∃tm i,i+j=a.length/\c=F_ 40 tm/\Dh a b d h/\nth tm 1=.P b/\nth tm 3=.I (i:Int)
def agC (a:List NV)(b c i:Nat)(n:NV)(e:AH)(j:Nat)(d:AF)(h:AH):Prop:=∃tm p,p+j=n.K.length/\d=F_ 40 tm/\Dh a b e h/\c<h.z/\h.get c=some (.box (QP n))/\nth tm 1=.P b/\nth tm 3=.I (i:Int)/\nth tm 4=.P c/\nth tm 5=.I (p:Int)
def agB (a:List NV)(b c i:Nat)(n:NV)(e:AH)(j:Nat)(d:AF)(h:AH):Prop:=∃tm p,p+j=i/\d=F_ 40 tm/\Dh a b e h/\c<h.z/\h.get c=some (.box (QP n))/\nth tm 1=.P b/\nth tm 3=.I (i:Int)/\nth tm 4=.P c/\nth tm 6=.I (p:Int)
def c1040 [RunsM K]{c:List NV}{ts:List T}(g:Wg (Mst c ts)):
  Ret K (40) [.agg [.eN c]] h λv _=>v=.I 0:=by
 refine aV afM ?_;have aa:c.length<=65536:=g.most;have⟨H,S⟩:∃H:AH,H=h.new (.box [.eN c]):=⟨_,rfl⟩;have z:Dh c h.z h H:=by rw[S];exact⟨HK.new _ _,by rw[aB];omega,aD _ _⟩
 have g0:=z.hg;have d3:decide ((c.length:Int) > 65536)=false:=d_;simp only[go_sem];rw[<-S];clear S;simp only[go_sem,d3];refine bo (agD c h.z h) c.length o_ ⟨_,0,z_ _,rfl,z,k_,y_⟩ ?_;clear z g0 H;rintro j fr U ⟨tm,i,hi,rfl,z,f,e⟩;have N:=z.hg;simp only[go_sem,f,e,N];refine aU (λJ=>?_) (λad=>?_)
 ·have J:i<c.length:=o_;have a:=a_ J;have L:=aR encN_len a .i64;have o:=g.notin a;have⟨_,ht,lk,lt⟩:=g.node i _ a;have nok:=g.nok (m_ a);revert a L o ht lk lt nok;generalize c[i]=n;intro a L o ht lk lt nok;have hw:=aP i o_;have F:∀h:AH,cC (.vp (bU n)) h true 5=some (bU n):=λh=>eA rfl rfl h;have V:bU n=.agg (n_ n):=rfl;have⟨H3,G,k3,_,X⟩:=ns U (.box zT) (.box (n_ n));obtain⟨v,D,W,rfl,M⟩:=c1078 (h:=H3) nok;rw[V]at F W L;have C:=M.up X;simp only[go_sem,f,e,N,L,F];rw[<-G];clear G;simp only[go_sem,W];have nb:=nok.bn.ks;refine bo (agC c h.z U.z i n h) n.K.length o_ ⟨_,0,z_ _,rfl,(z.up k3).up M,by have:=M.z;omega,C,q_ f,q_ e,k_,y_⟩ ?_;clear f e tm C W M D X N;rintro j2 fr D ⟨tm,p,hp,rfl,d,k,r,f,e,u,Z⟩;unfold QP at r;simp only[go_sem,u,Z,r];refine aU (λw=>?_) (λab=>?_)
  ·have w:p<n.K.length:=o_;have A:=a_ w;have y:=aP p o_;have⟨_,_,P⟩:=lk.get A;have h0:=P.1;have h1:=lt _ (m_ A);have e1:decide (n.K[p]<0)=false:=d_;have e2:decide (n.K[p]>=(i:Int))=false:=d_;simp only[go_sem,e,u,Z,r,A,AG.bh,e1,e2,y];exact⟨j2-1,o_,_,p+1,o_,rfl,d,k,r,q_ f,q_ e,q_ u,k_⟩
  simp only[go_sem];refine bo (agB c h.z U.z i n h) i o_ ⟨_,0,z_ _,rfl,d,k,r,q_ f,q_ e,q_ u,y_⟩ ?_;clear f e u Z tm r k d D;rintro j3 fr D ⟨tm,p,hp,rfl,d,k,r,f,e,u,t6⟩;have gg:=d.hg;simp only[go_sem,e,t6];refine aU (λt=>?_) (λac=>?_)
  ·have t:p<i:=o_;have m:c[p]?=some (c[p]'o_):=a_ o_;have s:=aR encN_len m .i64;have B:c[p]'o_≠n:=λq=>o (m_ (i:=p) (by rw[List.getElem?_take,P_ t,m,q]));have l:=g.nok (m_ m);revert m s B l;generalize c[p]'o_=x;intro m s B l;have y:=aP p o_;have E:∀h:AH,cC (.vp (bU x)) h true 5=some (bU x):=λh=>eA rfl rfl h;obtain⟨_,_,R,⟨b,rfl,Y⟩,O⟩:=WS (h:=D) x n l.bn nok.bn;have I:∀x:NV,bU x=.agg (n_ x):=λ_=>rfl;rw[I x]at E R s;rw[I n]at R;have Q:b=false:=by
    cases b with
    |true=>cases B (Y.1 rfl)
    |false=>rfl
   subst Q;unfold QP at r;simp only[go_sem,f,u,t6,gg,r,s,E,R,y];exact⟨j3-1,o_,_,p+1,o_,rfl,d.up O,by have:=O.z;omega,(O.kw _ k).trans r,q_ f,q_ e,q_ u,k_⟩
  simp only[go_sem,e,hw];exact⟨j-1,o_,_,i+1,o_,rfl,d,q_ f,k_⟩
 simp only[go_sem];exact Fr ⟨rfl,z.hk⟩
end
theorem NZ (l:List NV){n:Nat}(b:n<=l.length):mO 5 (.ls (l.map bU)) (i_ (n:Int))=some (.ls ((l.take n).map bU)):=by
 show aI (some (len (l.map bU))) (λm=>aI (py (i_ (n:Int)) m) λa=>aI (some 0) λlo=>FG (.ls (l.map bU)) 5 lo a)=_;rw[aK,bT,L_];have e:py (i_ (n:Int)) l.length=some n:=by
  show aI (some n) (λm=>cond (Nat.ble m l.length) (some m) none)=_;rw[aK,fK b];rfl
 rw[e,aK,aK];show cond (fZ 5 (l.map bU)) (some (AV.ls (tke (n-0) (drp 0 (l.map bU))))) none=_;rw[oR encN_len,lu,iC,List.drop_zero,Nat.sub_zero,List.map_take];rfl
section
variable {K:aN}{h:AH}
def c1019 [RunsM K]{a l:List NV}{ts:List T}(g:Wg (Mst (a++l) ts)):
  Ret K (19) [.agg [.eN a],.agg [.eN (a++l)]] h λv _=>v=.bool true:=by
 refine aV afZ ?_;have m:(a++l).length<=65536:=g.most;have s:(a++l).length=a.length+l.length:=g_;have⟨H,o⟩:∃H:AH,H=(h.new (.box [.eN a])).new (.box [.eN (a++l)]):=⟨_,rfl⟩;have n1:=aB h (.box [.eN a]);have p:HK h H:=by grind [HK.new]
 have z:H.z=h.z+2:=by grind [aB]
 have n:H.get h.z=some (.box [.eN a]):=by grind [aM,aD]
 have k:H.get (h.z+1)=some (.box [.eN (a++l)]):=by grind [aD]
 obtain⟨v,u,t,rfl,f⟩:=c1040 (h:=H) g;have b:=f.up n;have c:=f.up k;obtain⟨_,_,w,rfl,d⟩:=c1041 (h:=u) a o_ (λx hx=>(g.nok (show x∈(Mst (a++l) ts).ns from List.mem_append_left _ hx)).bn);have r:decide (((a++l).length:Int)<(a.length:Int))=false:=g_;have q:decide ((0:Int)=0)=true:=rfl;simp only[go_sem,n1];rw[<-o];simp only[go_sem,n,k,r,t,b,c];have i:mO 5 (.eN (a++l)) (.I (a.length:Int))=some (.eN a):=by
  grind [NZ,List.take_left]
 have e:=d.up b;have j:=d.up c;simp only[go_sem,i,w];exact Fr ⟨rfl,(p.trans f).trans d⟩
def Df [RunsM K](n:Nat)(t:T)(hs:aO t<=n)(r:n<=10000000):
  Ret K (129) [enc t] h λv _=>∃b,v=.bool b/\(b=true->aO t<=400):=by
 refine aV aeT ?_;have⟨H,c,i,_,a⟩:=nw h (.box (aG t));obtain⟨v,o,d,rfl,f⟩:=c28 n t H hs o_;obtain⟨_,_,k,⟨e,rfl⟩,m⟩:=c29 n t o hs o_;have l:=f.up a;rw[aJ t]at d k;unfold aG at c a l;rw[aJ t];simp only[go_sem];rw[<-c];clear c;by_cases j:(aO t:Int)<=400
 ·have g:=T_ j;simp only[go_sem,d,g,l,k];exact⟨rfl,rfl,.inr rfl,[.bool (decide (e<=150))],by simp only[go_sem],.bool (decide (e<=150)),_,cv_ (bp _ _),⟨_,rfl,λ_=>by omega⟩,(i.trans f).trans m⟩
 have g:=D_ j;simp only[go_sem,d,g];exact⟨rfl,rfl,.inr rfl,[.bool false],by simp only[go_sem],.bool false,_,cv_ (bp _ _),⟨_,rfl,by simp⟩,i.trans f⟩
def I11 (x y:T)(b:Nat)(c:AH)(j:Nat)(a:AF)(h:AH):Prop:=∃tm p,p+j=x.K.length/\a=F_ 28 tm/\HK c h/\b+1<h.z/\h.get b=some (.box (aG x))/\h.get (b+1)=some (.box (aG y))/\nth tm 2=.P b/\nth tm 3=.P (b+1)/\nth tm 5=.I (p:Int)/\∀(i:Nat),i<p->x.K[i]?=y.K[i]?
def c11 [RunsM K]:∀(n:Nat) (x y:T) (h:AH),aO x<=n->n<=10000000000->aO y<=10000000000->BT x->BT y->
  Ret K (28) [enc x,enc y] h λv _=>∃b,v=.bool b/\(b=true<->x=y):=by
 intro n;induction n with
 |zero=>intro x y h hs;have:=bI x;omega
 |succ n ih=>
  intro x y h hs hn hy S m;have aa:=fk x;have ag:=bO x.K;have ac:=fk y;have af:=bO y.K;refine aV cf11 ?_;have⟨H,r⟩:∃H:AH,H=(h.new (.box (aG x))).new (.box (aG y)):=⟨_,rfl⟩;have n1:=aB h (.box (aG x));have s:HK h H:=by rw[r];exact(HK.new _ _).add _
  have n0:H.z=h.z+2:=by rw[r,aB,n1]
  have d:H.get h.z=some (.box (aG x)):=by rw[r,aM o_,aD]
  have f:H.get (h.z+1)=some (.box (aG y)):=by rw[r,<-n1,aD]
  have ret:∀(tm:Tm) (b:Bool) (H:AH),HK h H->nth tm 4=.bool b->(b=true<->x=y)->Fin r11 (λv' h3=>(∃b,v'=.bool b/\(b=true<->x=y))/\HK h h3) .ret (F_ 28 tm) H:=λtm b H hk t4 hb=>
   Fr ⟨⟨_,rfl,hb⟩,hk⟩
  obtain⟨v,Y,R,⟨b3,rfl,D⟩,u⟩:=c47 (h:=H) x.L y.L S.ln m.ln S.ls m.ls;have g:=u.up d;have e:=u.up f;have o:=g;have k:=e;have ai:=u.z;unfold aG at r d f o k;rw[aJ x,aJ y];simp only[go_sem,aB];rw[<-r];clear r;by_cases I:x.D=y.D
  case neg=>
   simp only[go_sem,d,f,I];exact ret _ false H s k_ ⟨λq=>(by cases q),λq=>absurd (congrArg T.D q) I⟩
  have z:=T_ I;by_cases J:x.X=y.X
  case neg=>
   simp only[go_sem,d,f,z,J];exact ret _ false H s k_ ⟨λq=>(by cases q),λq=>absurd (congrArg T.X q) J⟩
  have F:=T_ J;by_cases G:x.N=y.N
  case neg=>
   simp only[go_sem,d,f,z,F,G];exact ret _ false H s k_ ⟨λq=>(by cases q),λq=>absurd (congrArg T.N q) G⟩
  have N:=T_ G;cases b3 with
  |false=>
   simp only[go_sem,d,f,z,F,N,R];exact ret _ false Y (s.trans u) k_ ⟨λq=>(by cases q),λq=>absurd (D.2 (congrArg T.L q)) (by simp)⟩
  |true=>
   have L:=D.1 rfl;by_cases M:(x.K.length:Int)=(y.K.length:Int)
   case neg=>
    simp only[go_sem,d,f,z,F,N,R,o,k,M];exact ret _ false Y (s.trans u) k_ ⟨λq=>(by cases q),λq=>absurd (congrArg (λt=>(t.K.length:Int)) q) M⟩
   have d4:=T_ M;simp only[go_sem,d,f,z,F,N,R,o,k,d4];refine bo (I11 x y h.z h) x.K.length o_ ⟨_,0,z_ _,rfl,s.trans u,o_,g,e,k_,k_,y_,λi hi=>by omega⟩ ?_;rintro j fr X ⟨tm,p,hp,rfl,l,ad,w,B,P,t3,V,pre⟩;have U:=w;have Z:=B;unfold aG at U Z;simp only[go_sem,P,V,U];refine aU (λE=>?_) (λab=>?_)
   ·have E:p<x.K.length:=o_;have c:=a_ E;have a:y.K[p]?=some (y.K[p]'o_):=a_ o_;have ah:=cH (m_ c);have W:=cH (m_ a);have hw:=aP p o_;obtain⟨_,H5,e5,⟨b5,rfl,C⟩,A⟩:=ih x.K[p] (y.K[p]'o_) X o_ o_ o_ (S.kid _ (m_ c)) (m.kid _ (m_ a));simp only[go_sem,P,t3,V,U,Z,c,a,e5];cases b5 with
    |false=>
     simp only[go_sem];exact ret _ false H5 (l.trans A) k_ ⟨λq=>(by cases q),λq=>absurd (C.2 (Option.some.inj (by rw[<-c,<-a,q]))) (by simp)⟩
    |true=>
     simp only[go_sem,V,hw];refine⟨j-1,o_,_,p+1,o_,rfl,l.trans A,by have:=A.z;omega,A.up w,A.up B,q_ P,q_ t3,k_,λi hi=>?_⟩;by_cases q:i=p
     ·subst q;rw[c,a,C.1 rfl]
     exact pre i o_
   have Q:p=x.K.length:=o_;subst Q;simp only[go_sem];refine ret _ true X l k_ ⟨λ_=>?_,λ_=>rfl⟩;have O:=mf o_ pre;cases x;cases y;simp only[T.D,T.X,T.N,T.L,T.K]at *;subst I J G L O;rfl
def JV [RunsM K](n:Nat)(t:T)(hs:aO t<=n)(k:n<=10000000)(bt:BT t):
  Ret K (166) [enc t] h λv _=>∃b,v=.bool b/\(b=true->t=t0):=by
 refine aV aev ?_;have⟨H,c,f,_,d⟩:=nw h (.box (aG t));obtain⟨_,_,a,⟨b,rfl,g⟩,i⟩:=c11 n t t0 H hs o_ (by decide) bt Ez;have e:cw (.agg zT) H=(enc t0,H):=Vh H;rw[<-dJ (f:=28) (c:=[]) (ae (cJ t H) (ae e (aH _))) (ae (cJ _ _) (ae (cJ _ _) (aH _)))]at a;rw[aJ t]at a;unfold aG at c d;rw[aJ t];simp only[go_sem];rw[<-c];simp only[go_sem,a];exact Fr ⟨⟨b,rfl,g.1⟩,f.trans i⟩
end
def leadN:T->Nat
 |.mk k _ _ _ [_,b]=>if k=6 then leadN b+1 else 0
 |_=>0
section
variable {K:aN}{h:AH}
def I1194 (t:T)(b:Nat)(a:AH)(j:Nat)(c:AF)(h:AH):Prop:=∃tm u x,j=aO u/\c=F_ 194 tm/\HK a h/\b<h.z/\a.z<=b/\h.get b=some (.box (aG u))/\nth tm 1=.P b/\nth tm 3=.I ((x:Nat):Int)/\x+leadN u=leadN t/\x+aO u<=aO t
def abG [RunsM K](t:T)(hs:aO t<=10000000):
  Ret K (194) [enc t] h λv _=>v=.I (leadN t:Int):=by
 refine aV aek ?_;have⟨H,l,p,z,r⟩:=nw h (.box (aG t));unfold aG at l;rw[aJ t];unfold aca;simp only[go_sem];rw[<-l];clear l;simp only[go_sem,Lh,Li];refine bo (I1194 t h.z h) (aO t) o_ ⟨_,t,0,rfl,rfl,p,o_,o_,r,k_,y_,o_,o_⟩ ?_;clear p z r H;rintro j F H ⟨tm,u,x,rfl,rfl,hk,E,n,g,f,c,hx,B⟩;have fin:∀(tm:Tm),nth tm 3=.I ((x:Nat):Int)->leadN u=0->R_ K [.code DM] (Fin VR λs y=>s=.I (leadN t:Int)/\HK h y) .normal (F_ 194 tm) H:=by
  intro tm c G;simp only[go_sem,DM,c];exact Fr (v:=.I ((x:Nat):Int)) g_
 have⟨k,i,nm,ls,d⟩:=u;unfold aG at g;simp only[T.D,T.X,T.N,T.L,T.K]at g;unfold Ng;by_cases J:k=6
 ·have e:decide (k=6)=true:=g_;by_cases C:(d.length:Int)=2
  ·have o:decide ((d.length:Int)=2)=true:=g_
   match d,C with
   |[a,b],_=>
    have q:bW (.ls ([a,b].map enc)) 5 (.I 1)=some (.vp (enc b)):=aR (f:=enc) bH g_ .i64;have m:=bz g b;have A:=aP x o_;have w:decide (((2:Nat):Int)=2)=true:=rfl;simp only[AV.eT,List.map_cons,List.map_nil]at q g;simp only[go_sem,f,c,g,e,w,A,q,m];have I:leadN (.mk k i nm ls [a,b])=leadN b+1:=by grind [leadN]
    have D:aO (.mk k i nm ls [a,b])=1+(aO a+(aO b+0)):=by grind [aO,ba]
    have:=bI a;exact⟨aO b,o_,_,b,x+1,rfl,rfl,hk.set _ n,by grind [aE],n,aF _ _ _,q_ f,k_,o_,o_⟩
  have o:decide ((d.length:Int)=2)=false:=g_;simp only[go_sem,f,g,e,o];refine fin _ (q_ c) ?_;unfold leadN;grind
 have e:decide (k=6)=false:=g_;simp only[go_sem,f,g,e];refine fin _ (q_ c) ?_;unfold leadN;grind
end
structure acv (t:T)(h0 h:AH)(c:T)(V:AV)(out:List T):Prop where
 b1:h.get h0.z=some (.box (aG c))
 b2:h.get (h0.z+1)=some (.box zT)
 own:Own (h0.z+2) 5 true h V (out.map enc)
 kw:HK h0 h
 nx:h0.z+2<=h.z
 sp:fD t=out++fD c/\qv t=qv c
 sz:aO c+out.length<=aO t
def I1189 (t:T)(a:AH)(j:Nat)(b:AF)(h:AH):Prop:=∃tm c V out,j=aO c/\b=F_ 189 tm/\nth tm 1=.P a.z/\nth tm 3=.P (a.z+1)/\nth tm 4=V/\acv t a h c V out
def abI {K:aN}[RunsM K](t:T)(h:AH)(hl:aO t<50000):
  Ret K (189) [enc t] h λv _=>v=.tup [.eT (fD t),enc (qv t)]:=by
 refine aV aen ?_;rw[aJ t];simp only[go_sem];have⟨H,p⟩:∃H:AH,H=((h.new (.box (h_ t))).new (.box zT)):=⟨_,rfl⟩;have n1:=aB h (.box (h_ t));have P:acv t h H t .nl []:=by
  refine⟨?_,?_,cV _ _ _ _,by grind [HK.new],by rw[p,aB,n1];omega,g_,by simp⟩
  ·rw[p,aM o_,aD];rfl
  grind [aD]
 rw[<-p];clear p;simp only[go_sem,n1];refine bo (I1189 t h) (aO t) o_ ⟨_,t,.nl,[],rfl,rfl,k_,k_,k_,P⟩ ?_;rintro j Z B ⟨tm,c,V,out,rfl,rfl,b,g,m,J⟩;have e:=J.b1;have E:=J.b2;have o:=J.own;unfold aG at e;have nx:=J.nx;have U:=J.sz;have d:∀tm,nth tm 1=.P h.z->nth tm 3=.P (h.z+1)->nth tm 4=V->¬(c.D=6/\c.K.length=2)->
   R_ K [.code DN] (Fin VU λG F=>G=.tup [.eT (fD t),enc (qv t)]/\HK h F) .normal (F_ 189 tm) B:=by
  intro tm b g m hs;have u:=J.sp;have z:fD c=[]/\qv c=c:=by cases c;exact DG hs
  rw[z.1,z.2,A_]at u;have I:¬h.z+1=h.z:=o_;simp only[go_sem,DN,b,g,m,e,E];have⟨L,C,N,M⟩:=rQ iU g_ (bP (h':=B.set (h.z+1) (.box (aG c))) o (by grind [aE]) (λa q _=>aA o_));have A:=yY c L;unfold aG at C A;refine⟨rfl,rfl,g_,[V,.agg [_,_,_,_,_]],q_ g,_,_,bF (ae C (ae A (aH _))),?_,?_,?_⟩
  ·grind
  ·rw[N,aE];have:=o_;omega
  intro k hk;rw[M k o_,aA o_];exact J.kw.kw k hk
 simp only[go_sem,b,e];by_cases hk:c.D=6
 ·simp only[go_sem,hk,b,e];by_cases l:c.K.length=2
  ·have⟨k,i,nm,ls,S⟩:=c;simp only[T.K,T.D]at l hk;subst hk
   match S,l with
   |[f,a],_=>
    have O:aO (.mk 6 i nm ls [f,a])=1+(aO f+(aO a+0)):=by grind [aO,ba]
    have X:=bI f;have w:bW (.ls ([f,a].map enc)) 5 (.I 0)=some (.vp (enc f)):=aR (ks:=[f,a]) (m:=0) bH rfl .i64;have x:bW (.ls ([f,a].map enc)) 5 (.I 1)=some (.vp (enc a)):=aR (ks:=[f,a]) (m:=1) bH rfl .i64;simp only[AV.eT,T.D,T.X,T.N,T.L,T.K,List.map_cons,List.map_nil]at w x e;have s:decide (((2:Nat):Int)=2)=true:=rfl;have⟨D,_,Q,_,_,y,_⟩:=eY (enc f) o;have n:=(y h.z o_).trans e;have r:=bz n a;simp only[go_sem,T.K,s,b,m,e,x,Q,n,w,r];have u:=J.sp;rw[fD,qv,P_ rfl,P_ rfl]at u;refine⟨_,o_,_,a,D,out++[f],rfl,rfl,q_ b,q_ g,k_,⟨aF _ _ _,?_,?_,?_,?_,?_,?_⟩⟩
    ·grind [aA]
    ·grind [bP,aE,aA]
    ·have:=o_;exact HK.set ⟨o_,λk hk=>(y k o_).trans (J.kw.kw k hk)⟩ _ o_
    all_goals grind [aE,H_,M_,List.length_nil]
  have:decide ((c.K.length:Int)=2)=false:=by simp;omega
  simp only[go_sem,this];exact d _ (q_ b) (q_ g) (q_ m) o_
 simp only[go_sem,hk];exact d _ (q_ b) (q_ g) (q_ m) o_
mutual
def ts:gK->Nat
 |.mk _ b _ l=>1+aO b+tss l
def tss:List Br->Nat
 |[]=>0
 |.mk _ _ t::l=>1+ts t+tss l
end
mutual
def SmT:gK->Nat->Prop
 |.mk _ b _ l,n=>aO b<=400/\l.length<=40/\SmB l n
def SmB:List Br->Nat->Prop
 |[],_=>True
 |.mk _ _ t::l,n=>(∃k,n=k+1/\SmT t k)/\SmB l n
end
def brT:Br->gK|.mk _ _ t=>t
def Ny {n:Nat}: ∀{l:List Br},(∀b∈l,∃k,n=k+1/\SmT (brT b) k)->SmB l n
 |[],_=>trivial
 |.mk c a t::l,h=>by
  unfold SmB;exact⟨h _ (List.mem_cons_self ..),Ny λb d=>h b (List.mem_cons_of_mem _ d)⟩
def VK {b:Br}: ∀{l:List Br},b∈l->1+ts (brT b)<=tss l
 |.mk c a t::l,h=>by
  unfold tss;rcases X_.1 h with rfl|h
  ·show 1+ts t<=_;omega
  have:=VK h;omega
def DE:∀l:List Br,l.length<=tss l
 |[]=>Nat.zero_le _
 |.mk c a t::l=>by have:=DE l;unfold tss;simp only[M_];omega
def rH (t:gK):ts t=1+aO (fV t)+tss (cm t):=by have⟨_,_,_,_⟩:=t;rw[ts];rfl
section
variable {K:aN}{h:AH}
def I1130 (t:gK)(d e b:Nat)(c:AH)(j:Nat)(a:AF)(h:AH):Prop:=∃tm p,p+j=(cm t).length/\a=F_ 130 tm/\HK c h/\b<h.z/\h.get b=some (.box (bc t))/\nth tm 1=.I (d:Int)/\nth tm 2=.P b/\nth tm 5=.I (p:Int)/\
 ∀(i:Nat) x,i<p->(cm t)[i]?=some x->∃k,e=k+1/\SmT (brT x) k
def c1130 [RunsM K]:∀(n:Nat) (t:gK) (d:Nat) (h:AH),ts t<=n->n<=10000000->d<=41->
  Ret K (130) [fg t,.I (d:Int)] h λv _=>∃b,v=.bool b/\(b=true->∃e,d+e=40/\SmT t e):=by
 intro n;induction n with
 |zero=>intro t d h hs;have:=rH t;omega
 |succ n ih=>
  intro t d h hs hn hd;have hp:=rH t;have hl:=DE (cm t);rw[cj];refine aV aeS ?_;have⟨H,Z,s,n0,m⟩:=nw h (.box (bc t));have ret:∀(tm:Tm) (b:Bool) (H:AH),HK h H->nth tm 4=.bool b->(b=true->∃e,d+e=40/\SmT t e)->Fin Wb (λv' h3=>(∃b,v'=.bool b/\(b=true->∃e,d+e=40/\SmT t e))/\HK h h3) .ret (F_ 130 tm) H:=λtm b H hk t4 Q=>
   Fr ⟨⟨_,rfl,Q⟩,hk⟩
  have D:=m;unfold bc fS at D;obtain⟨v,H1,L,⟨b1,rfl,R⟩,z⟩:=Df n (fV t) (h:=H) o_ o_;rw[aJ]at L;have u:=z.up m;have n1:=z.z;simp only[go_sem];rw[<-Z];clear Z;by_cases G:(d:Int) > 40
  ·have d1:=T_ G;simp only[go_sem,d1];exact ret _ false H s k_ (by simp)
  by_cases J:((cm t).length:Int) > 40
  ·have d2:=T_ J;simp only[go_sem,G,D,d2];exact ret _ false H s k_ (by simp)
  cases b1 with
  |false=>
   simp only[go_sem,G,D,J,L];exact ret _ false H1 (s.trans z) k_ (by simp)
  |true=>
   simp only[go_sem,G,D,J,L];have⟨e,he⟩:∃e,d+e=40:=⟨40-d,o_⟩;refine bo (I1130 t d e h.z h) (cm t).length o_ ⟨_,0,z_ _,rfl,s.trans z,o_,u,k_,k_,y_,λi x hi=>by omega⟩ ?_;clear u L D m s z n0 n1;rintro j fr H2 ⟨tm,p,ac,rfl,M,n2,A,N,y,O,pre⟩;have r:=A;unfold bc fS at r;simp only[go_sem,y,O,r];refine aU (λF=>?_) (λaa=>?_)
   ·have F:p<(cm t).length:=o_;have a:=a_ F;have f:=VK (m_ a);revert a f;generalize (cm t)[p]=b;intro a f;have P:=aR encBr_len a .i64;have⟨c,U,C⟩:=b;have o:cy (.vp (nK (.mk c U C))) 2 8 true=some (.vp (.agg (bc C))):=by rw[jx];rfl
    have E:cy (.vp (nK (.mk c U C))) 0 1 false=some (.vp (.str c)):=by rw[jx];rfl
    obtain⟨v,Y,I,⟨b3,rfl,W⟩,B⟩:=ih C (d+1) H2 (by show ts (brT (.mk c U C))<=n;omega) o_ o_;rw[cj]at I;have n3:=B.z;have w:=B.up A;have V:=w;unfold bc fS at V;have hw:=aP p o_;have g:=aP d o_;cases b3 with
    |false=>
     simp only[go_sem,N,y,O,r,P,o,g,I];exact ret _ false Y (M.trans B) k_ (by simp)
    |true=>
     by_cases X:(c.size:Int) > 200
     ·have S:=T_ X;simp only[go_sem,N,y,O,r,P,o,g,I,V,E,S];exact ret _ false Y (M.trans B) k_ (by simp)
     have S:=D_ X;simp only[go_sem,N,y,O,r,P,o,g,I,V,E,S,hw];refine⟨j-1,o_,_,p+1,o_,rfl,M.trans B,o_,w,q_ N,q_ y,k_,λi x hi hx=>?_⟩;by_cases q:i=p
     ·subst q;rw[a]at hx;cases hx;have⟨e',_,q2⟩:=W rfl;exact⟨e',o_,q2⟩
     exact pre i x o_ hx
   have T:p=(cm t).length:=o_;subst T;simp only[go_sem];refine ret _ true H2 M k_ λ_=>⟨e,he,?_⟩;have⟨_,b,_,_⟩:=t;unfold SmT;refine⟨R rfl,by simp only[cm]at J;omega,Ny λb Q=>?_⟩;have⟨i,hi⟩:=J_ Q;exact pre i b (E_.1 hi).1 hi
end
structure PD (n:Nat)(d:DV):Prop where
 ty:aO d.type<=n
 v:aO d.v<=n
 rty:aO d.rt<=n
 cl:d.C.length<=n
 rl:d.R.length<=n
 fl:d.F.length<=n
 ct:∀c∈d.C,aO c.type<=n
 rr:∀r∈d.R,aO r<=n
 fn:∀f∈d.F,aO f.type<=n/\ts f.tree<=n
structure FD (d:DV):Prop where
 N:d.N.size<=200
 ty:aO d.type<=400
 v:aO d.v<=400
 rty:aO d.rt<=400
 cl:d.C.length<=40
 rl:d.R.length<=40
 fl:d.F.length<=12
 ct:∀c∈d.C,c.N.size<=200/\aO c.type<=400
 rr:∀r∈d.R,aO r<=400
 fn:∀f∈d.F,f.N.size<=200/\aO f.type<=400/\SmT f.tree 40
def lU {a:Type}{l:List a}{P:a->Prop}(h:∀(i:Nat) x,i<l.length->l[i]?=some x->P x):∀x∈l,P x:=λx hx=>by
 have⟨i,hi⟩:=J_ hx;exact h i x (E_.1 hi).1 hi
section
variable {K:aN}{h:AH}
def Xd {a:Type}(d:DV)(b e:Nat)(l:List a)(P:a->Prop)(f:AH)(j:Nat)(c:AF)(h:AH):Prop:=∃tm p,p+j=l.length/\c=F_ 86 tm/\HK f h/\b<h.z/\h.get b=some (.box (aQ d))/\nth tm 1=.P b/\nth tm e=.I (p:Int)/\
 ∀(i:Nat) x,i<p->l[i]?=some x->P x
def c1086 [RunsM K](n:Nat)(d:DV)(G:PD n d)(hn:n<=10000000):
  Ret K (86) [gJ d] h λv _=>∃b,v=.bool b/\(b=true->FD d):=by
 refine aV afk ?_;rw[bX];have⟨H,hH,w,N,s⟩:=nw h (.box (aQ d));have ret:∀(tm:Tm) (b:Bool) (H:AH),HK h H->nth tm 2=.bool b->(b=true->FD d)->Fin Fm (λU W=>(∃b,U=.bool b/\(b=true->FD d))/\HK h W) .ret (F_ 86 tm) H:=λtm b H hk t2 hb=>
  Fr ⟨⟨_,rfl,hb⟩,hk⟩
 have L3:∀(tm:Tm) (H:AH),HK h H->h.z<H.z->H.get h.z=some (.box (aQ d))->nth tm 1=.P h.z->
   ((∀f∈d.F,f.N.size<=200/\aO f.type<=400/\SmT f.tree 40)->FD d)->R_ K [.code Ea] (Fin Fm (λU W=>(∃b,U=.bool b/\(b=true->FD d))/\HK h W)) .normal (F_ 86 tm) H:=by
  intro tm H w N s l hF;simp only[go_sem,Ea];refine bo (Xd d h.z 5 d.F (λf=>f.N.size<=200/\aO f.type<=400/\SmT f.tree 40) h) d.F.length (by have:=G.fl;omega) ⟨_,0,z_ _,rfl,w,N,s,q_ l,y_,λi x hi=>by omega⟩ ?_;clear w N s l H tm;rintro j fr C ⟨tm,p,Z,rfl,o,n2,k,l,D,pre⟩;have m:=k;unfold aQ at m;unfold Nr;simp only[go_sem,l,D,m];refine aU (λz=>?_) (λY=>?_)
  ·have z:p<d.F.length:=o_;have e:=a_ z;have g:=G.fn _ (m_ e);have hl:=G.fl;revert e g;generalize d.F[p]=f;intro e g;have J:=aR encFn_len e .i64;have y:cy (.vp (gk f)) 0 1 false=some (.vp (.str f.N)):=rfl;have F:cy (.vp (gk f)) 1 5 true=some (.vp (.agg (aG f.type))):=rfl;obtain⟨v,L,A,⟨S,rfl,B⟩,t⟩:=Df n f.type (h:=C) g.1 o_;have n3:=t.z;have u:=t.up k;have T:=u;unfold aQ at T;obtain⟨v,H4,e4,⟨b4,rfl,ad⟩,k4⟩:=c1130 n f.tree 0 L g.2 o_ o_;have n4:=k4.z;rw[eM]at A;rw[cj]at e4;have hw:=aP p o_;by_cases E:(f.N.size:Int) > 200
   ·have d3:=T_ E;simp only[go_sem,vL,l,D,m,J,y,d3];exact ret _ false C o k_ (by simp)
   cases S with
   |false=>
    simp only[go_sem,vL,l,D,m,J,y,E,F,A];exact ret _ false L (o.trans t) k_ (by simp)
   |true=>
    cases b4 with
    |false=>
     simp only[go_sem,vL,l,D,m,J,y,E,F,A,T];simp only[Int.natCast_zero]at e4;simp only[go_sem,e4];exact ret _ false H4 ((o.trans t).trans k4) k_ (by simp)
    |true=>
     simp only[go_sem,vL,l,D,m,J,y,E,F,A,T];simp only[Int.natCast_zero]at e4;simp only[go_sem,e4,D,hw];refine⟨j-1,o_,_,p+1,o_,rfl,(o.trans t).trans k4,o_,k4.up u,q_ l,k_,λi x hi hx=>?_⟩;by_cases q:i=p
     ·subst q;rw[e]at hx;cases hx;have⟨e',_,q2⟩:=ad rfl;have:e'=40:=o_;subst this;exact⟨o_,B rfl,q2⟩
     exact pre i x o_ hx
  have I:p=d.F.length:=o_;subst I;simp only[go_sem,LY];exact ret _ true C o k_ λ_=>hF (lU pre)
 have L2:∀(tm:Tm) (H:AH),HK h H->h.z<H.z->H.get h.z=some (.box (aQ d))->nth tm 1=.P h.z->
   ((∀f∈d.F,f.N.size<=200/\aO f.type<=400/\SmT f.tree 40)->(∀r∈d.R,aO r<=400)->FD d)->R_ K [.code DZ] (Fin Fm (λU W=>(∃b,U=.bool b/\(b=true->FD d))/\HK h W)) .normal (F_ 86 tm) H:=by
  intro tm H w N s l hF;simp only[go_sem,DZ];refine bo (Xd d h.z 4 d.R (λr=>aO r<=400) h) d.R.length (by have:=G.rl;omega) ⟨_,0,z_ _,rfl,w,N,s,q_ l,y_,λi x hi=>by omega⟩ ?_;clear w N s l H tm;rintro j fr C ⟨tm,p,Z,rfl,o,n2,k,l,D,pre⟩;have m:=k;unfold aQ at m;unfold Ns;simp only[go_sem,l,D,m];refine aU (λz=>?_) (λY=>?_)
  ·have z:p<d.R.length:=o_;have e:=a_ z;have g:=G.rr _ (m_ e);have hl:=G.rl;revert e g;generalize d.R[p]=f;intro e g;have J:=aR bH e .i64;obtain⟨v,L,A,⟨S,rfl,B⟩,t⟩:=Df n f (h:=C) g o_;have n3:=t.z;have u:=t.up k;have hw:=aP p o_;simp only[go_sem,LZ,l,D,m,J,A];cases S with
   |false=>
    simp only[go_sem];exact ret _ false L (o.trans t) k_ (by simp)
   |true=>
    simp only[go_sem,D,hw];refine⟨j-1,o_,_,p+1,o_,rfl,o.trans t,o_,u,q_ l,k_,λi x hi hx=>?_⟩;by_cases q:i=p
    ·subst q;rw[e]at hx;cases hx;exact B rfl
    exact pre i x o_ hx
  have I:p=d.R.length:=o_;subst I;simp only[go_sem];exact L3 _ C o n2 k (q_ l) λa=>hF a (lU pre)
 have L1:∀(tm:Tm) (H:AH),HK h H->h.z<H.z->H.get h.z=some (.box (aQ d))->nth tm 1=.P h.z->
   ((∀f∈d.F,f.N.size<=200/\aO f.type<=400/\SmT f.tree 40)->(∀r∈d.R,aO r<=400)->(∀c∈d.C,c.N.size<=200/\aO c.type<=400)->FD d)->R_ K [.code DY] (Fin Fm (λU W=>(∃b,U=.bool b/\(b=true->FD d))/\HK h W)) .normal (F_ 86 tm) H:=by
  intro tm H w N s l hF;simp only[go_sem,DY];refine bo (Xd d h.z 3 d.C (λc=>c.N.size<=200/\aO c.type<=400) h) d.C.length (by have:=G.cl;omega) ⟨_,0,z_ _,rfl,w,N,s,q_ l,y_,λi x hi=>by omega⟩ ?_;clear w N s l H tm;rintro j fr C ⟨tm,p,Z,rfl,o,n2,k,l,D,pre⟩;have m:=k;unfold aQ at m;unfold Nt;simp only[go_sem,l,D,m];refine aU (λz=>?_) (λY=>?_)
  ·have z:p<d.C.length:=o_;have e:=a_ z;have g:=G.ct _ (m_ e);have hl:=G.cl;revert e g;generalize d.C[p]=f;intro e g;have J:=aR encCt_len e .i64;have y:cy (.vp (jb f)) 0 1 false=some (.vp (.str f.N)):=rfl;have F:cy (.vp (jb f)) 1 5 true=some (.vp (.agg (aG f.type))):=rfl;obtain⟨v,L,A,⟨S,rfl,B⟩,t⟩:=Df n f.type (h:=C) g o_;have n3:=t.z;have u:=t.up k;rw[eM]at A;have hw:=aP p o_;by_cases E:(f.N.size:Int) > 200
   ·have d3:=T_ E;simp only[go_sem,zp,l,D,m,J,y,d3];exact ret _ false C o k_ (by simp)
   cases S with
   |false=>
    simp only[go_sem,zp,l,D,m,J,y,E,F,A];exact ret _ false L (o.trans t) k_ (by simp)
   |true=>
    simp only[go_sem,zp,l,D,m,J,y,E,F,A,hw];refine⟨j-1,o_,_,p+1,o_,rfl,o.trans t,o_,u,q_ l,k_,λi x hi hx=>?_⟩;by_cases q:i=p
    ·subst q;rw[e]at hx;cases hx;exact⟨o_,B rfl⟩
    exact pre i x o_ hx
  have I:p=d.C.length:=o_;subst I;simp only[go_sem];exact L2 _ C o n2 k (q_ l) λa b=>hF a b (lU pre)
 obtain⟨v,H1,Q,⟨b1,rfl,ac⟩,M⟩:=Df n d.type (h:=H) G.ty o_;have n1:=M.z;have aa:=M.up s;obtain⟨v,C,X,⟨b2,rfl,ab⟩,o⟩:=Df n d.v (h:=H1) G.v o_;have n2:=o.z;have k:=o.up aa;obtain⟨_,L,A,⟨S,rfl,B⟩,t⟩:=Df n d.rt (h:=C) G.rty o_;have n3:=t.z;have u:=t.up k;rw[aJ]at Q X A;have O:=s;have V:=aa;have m:=k;have T:=u;unfold aQ at O V m T;unfold acm;simp only[go_sem];rw[<-hH];clear hH;by_cases P:(d.N.size:Int) > 200
 ·have d1:=T_ P;simp only[go_sem,jY,O,d1];exact ret _ false H w k_ (by simp)
 cases b1 with
 |false=>
  simp only[go_sem,jY,O,P,Q];exact ret _ false H1 (w.trans M) k_ (by simp)
 |true=>
 cases b2 with
 |false=>
  simp only[go_sem,jY,O,P,Q,V,X];exact ret _ false C ((w.trans M).trans o) k_ (by simp)
 |true=>
 by_cases a2:(d.C.length:Int) > 40
 ·have d2:=T_ a2;simp only[go_sem,jY,O,P,Q,V,X,m,d2];exact ret _ false C ((w.trans M).trans o) k_ (by simp)
 by_cases E:(d.F.length:Int) > 12
 ·have d3:=T_ E;simp only[go_sem,jY,O,P,Q,V,X,m,a2,d3];exact ret _ false C ((w.trans M).trans o) k_ (by simp)
 cases S with
 |false=>
  simp only[go_sem,jY,O,P,Q,V,X,m,a2,E,A];exact ret _ false L (((w.trans M).trans o).trans t) k_ (by simp)
 |true=>
 by_cases a4:(d.R.length:Int) > 40
 ·have d4:=T_ a4;simp only[go_sem,jY,O,P,Q,V,X,m,a2,E,A,T,d4];exact ret _ false L (((w.trans M).trans o).trans t) k_ (by simp)
 simp only[go_sem,jY,O,P,Q,V,X,m,a2,E,A,T,a4];exact L1 _ L (((w.trans M).trans o).trans t) o_ u k_ λa b c=>⟨o_,ac rfl,ab rfl,B rfl,o_,o_,o_,c,b,a⟩
def I1046 (a:List DV)(c:AH)(j:Nat)(b:AF)(h:AH):Prop:=∃tm p,p+j=a.length/\b=F_ 46 tm/\HK c h/\nth tm 0=.eD a/\nth tm 3=.I (p:Int)/\∀(i:Nat) x,i<p->a[i]?=some x->FD x
def c1046 [RunsM K](n:Nat)(a:List DV)(z:∀d∈a,PD n d)(M:a.length<=n)(F:n<=10000000):
  Ret K (46) [.eD a] h λv _=>∃b,v=.bool b/\(b=true->(∀d∈a,FD d)/\a.length<=70):=by
 refine aV afK ?_;have ret:∀(tm:Tm) (b:Bool) (H:AH),HK h H->nth tm 2=.bool b->(b=true->(∀d∈a,FD d)/\a.length<=70)->Fin QK (λm l=>(∃b,m=.bool b/\(b=true->(∀d∈a,FD d)/\a.length<=70))/\HK h l) .ret (F_ 46 tm) H:=λtm b H hk G w=>
  Fr ⟨⟨_,rfl,w⟩,hk⟩
 simp only[go_sem];refine bo (I1046 a h) a.length o_ ⟨_,0,o_,rfl,g_,k_,y_,o_⟩ ?_;rintro j L q ⟨tm,p,I,rfl,A,t0,g,pre⟩;have fin:∀(tm:Tm),nth tm 0=.eD a->(p=a.length\/80<=p)->R_ K [.code Ee] (Fin QK (λm l=>(∃b,m=.bool b/\(b=true->(∀d∈a,FD d)/\a.length<=70))/\HK h l)) .normal (F_ 46 tm) q:=by
  intro tm t0 C;simp only[go_sem,Ee,t0];refine ret _ (decide ((a.length:Int)<=70)) q A k_ λe=>?_;have e:=O_ e;have r:p=a.length:=o_;subst r;exact⟨lU pre,o_⟩
 by_cases N:(p:Int)<(a.length:Int)
 ·have k:decide ((p:Int)<(a.length:Int))=true:=g_;by_cases O:(p:Int)<80
  ·have o:decide ((p:Int)<80)=true:=g_;have E:p<a.length:=o_;have c:a[p]?=some a[p]:=g_;have f:=z _ (m_ c);revert c f;generalize a[p]=d;intro c f;have s:=aR encD_len o_ .i64;obtain⟨_,u,B,⟨D,rfl,_⟩,_⟩:=c1086 (h:=q) n d o_ F;have y:=aP p o_;simp only[go_sem,t0,g,k,o,s,B];cases D with
   |false=>
    simp only[go_sem];exact ret _ false u g_ k_ (by simp)
   |true=>
    simp only[go_sem,g,y];refine⟨j-1,o_,_,p+1,o_,rfl,g_,q_ t0,k_,λi x hi hx=>?_⟩;grind
  have o:decide ((p:Int)<80)=false:=g_;simp only[go_sem,t0,g,k,o];exact fin _ (q_ t0) o_
 have k:decide ((p:Int)<(a.length:Int))=false:=g_;simp only[go_sem,t0,g,k];exact fin _ (q_ t0) o_
end
section
variable {K:aN}
structure Ps (K:aN)(fv:AV)(Q:T->Prop)(xs:List T):Prop where
 run:∀x∈xs,∀h,∃v h',cS K fv [enc x] .no h=some (.ret v,.no,h')/\(∃b,v=.bool b/\(b=false->Q x))/\HK h h'
 can:∀h,cw fv h=(fv,h)
def I160 (b:List T)(e:AV)(Q:T->Prop)(d:AH)(j:Nat)(c:AF)(h:AH):Prop:=∃tm i,i+j=b.length/\c=F_ 88 tm/\HK d h/\nth tm 0=.eT b/\nth tm 1=e/\nth tm 7=.I (b.length:Int)/\nth tm 8=.I (i:Int)/\∀(a:Nat) x,a<i->b[a]?=some x->Q x
def c160 [RunsM K]{c:List T}{g:AV}{Q:T->Prop}(n:Ps K g Q c){h:AH}(A:c.length<10000000):
  Ret K (88) [.eT c,g] h λv _=>∃i:Int,v=.I i/\(¬0<=i->∀x∈c,Q x):=by
 refine kK cf160 (ae (mL c h) (ae (n.can h) (aH _))) ?_;simp only[go_sem];refine bo (I160 c g Q h) c.length o_ ⟨_,0,o_,rfl,g_,k_,k_,k_,by rfl,o_⟩ ?_;rintro j y H ⟨tm,i,hi,rfl,hk,t0,m,o,f,r⟩;simp only[go_sem,o,f];refine aU (λd=>?_) (λs=>?_)
 ·have d:i<c.length:=o_;have l:c[i]?=some c[i]:=g_;have p:=aR (f:=enc) (sz:=5) bH o_ .i64;obtain⟨_,_,e,⟨b,rfl,_⟩,k⟩:=n.run _ (List.getElem_mem d) H;have u:=aP i o_;simp only[go_sem,t0,m,f,p,e];cases b with
  |true=>
   simp only[go_sem];exact Fr ⟨⟨_,rfl,λq=>absurd (Int.natCast_nonneg i) q⟩,hk.trans k⟩
  |false=>
   simp only[go_sem,f,u];refine⟨j-1,o_,_,i+1,o_,rfl,g_,q_ t0,q_ m,q_ o,k_,λa x q hx=>?_⟩;grind
 have t:i=c.length:=o_;subst t;simp only[go_sem];exact Fr ⟨⟨_,rfl,λ_=>lU r⟩,hk⟩
def c111 [RunsM K]{a:List T}{d:AV}{Q:T->Prop}(c:Ps K d Q a){h:AH}(f:a.length<10000000):
  Ret K (48) [.eT a,d] h λv _=>∃b,v=.bool b/\(b=false->∀x∈a,Q x):=by
 refine kK cf111 (ae (mL a h) (ae (c.can h) (aH _))) ?_;obtain⟨_,_,e,⟨_,rfl,hi⟩,hk⟩:=c160 (h:=h) c f;simp only[go_sem,e];exact Fr ⟨⟨_,rfl,λq=>hi (U_ q)⟩,hk⟩
end
mutual
def TB:gK->Prop
 |.mk _ b _ l=>TOK b/\TBs l
def TBs:List Br->Prop
 |[]=>True
 |.mk _ _ t::l=>TB t/\TBs l
end
def Nv:∀{l:List Br},(∀b∈l,TB (brT b))->TBs l
 |[],_=>by trivial
 |.mk c a t::l,h=>by
  exact⟨h _ (List.mem_cons_self ..),Nv g_⟩
mutual
def Nu:∀(t:gK) (n a:Nat),SmT t n->TB t->n<=a->Ke t a
 |.mk k b v l,n,a,h,g,le=>by
  unfold SmT at h;unfold TB at g;exact⟨g_,o_,o_,NC l n a g_ g_ le⟩
def NC:∀(l:List Br) (n b:Nat),SmB l n->TBs l->n<=b->VH l b
 |[],_,_,_,_,_=>by trivial
 |.mk c a t::l,n,b,h,g,le=>by
  unfold TBs at g;obtain⟨⟨k,rfl,hk⟩,d⟩:=h;exact⟨⟨b-1,o_,Nu t k (b-1) hk g_ o_⟩,NC l _ b d g_ le⟩
end
def Ap:∀(n:Nat) (t:T),aO t<=n->leadN t=(fD t).length:=by
 intro n;induction n with
 |zero=>intro t h;have:=bI t;omega
 |succ n d=>
  intro t h;have⟨_,_,_,_,c⟩:=t
  match c with
  |[]=>rfl
  |[_]=>rfl
  |[a,b]=>
   grind [aO,ba,bI,leadN,fD]
  |_::_::_::_=>rfl
def FX (d:DV):Prop:=d.f<=(leadN d.type:Int)/\∀c∈d.C,d.f<=(leadN c.type:Int)
structure OD (d:DV):Prop where
 fx0:0<=d.f
 fx1:d.D=3->FX d
 v:d.D=1->TOK d.v
 R:∀r∈d.R,TOK r
 F:∀f∈d.F,1<=f.a/\f.a<=16/\TB f.tree
def Dg.of {d:DV}(f:FD d)(o:OD d):Dg d where
 ds:=⟨by have:=f.cl;omega,by have:=f.fl;omega,by have:=f.N;omega⟩
 fx0:=o.fx0
 fx1:=λq=>by have:=(o.fx1 q).1;rw[Ap _ _ (e_ _)]at this;omega
 fx2:=λq c a=>by have:=(o.fx1 q).2 c a;rw[Ap _ _ (e_ _)]at this;omega
 ty:=by have:=f.ty;omega
 cty:=λc a=>by have:=(f.ct c a).2;have e:=iM _ c.type o_;omega
 v:=λq=>⟨o.v q,by have:=f.v;omega⟩
 R:=λr b=>⟨o.R r b,by have:=f.rr r b;omega⟩
 F:=λx hx=>⟨(o.F x hx).1,(o.F x hx).2.1,Nu _ _ _ (f.fn x hx).2.2 (o.F x hx).2.2 o_⟩
def Eg.of {a:List DV}(f:∀d∈a,FD d)(l:a.length<=70)(o:∀d∈a,OD d):Eg a:=⟨o_,λd b=>.of g_ g_⟩
def af4 (l:List ByteArray)(h:AH):cw (.ls (l.map AV.str)) h=(.ls (l.map AV.str),h):=by
 rw[bQ (show(AV.ls (l.map AV.str)).free=true by simp only[AV.free];exact bY (λ_=>rfl) l)];simp only[AV.norm,bB (f:=AV.str) (λ_=>rfl)]
instance (l:List ByteArray):Can (.ls (l.map AV.str)) (.ls (l.map AV.str)):=⟨af4 l⟩
def OwS (b:Nat)(h:AH)(V:AV)(l:List ByteArray):Prop:=(∃a,V=.clip [.str a]/\l=[a])\/Own b 1 false h V (l.map AV.str)
def ZK {sz a:Nat}{agg:Bool}{h:AH}{v x:AV}{z:List AV}(c:z.length=sz)(hx:x.cells.length=sz)(d:x.lies=true):cI h sz agg z a v (.clip [x])=kO v h sz agg a [x]:=by
 show aI (cond (and (Nat.beq (len x.cells) sz) true) (some [x]) none) (λb=>cond (and (fT b) (Nat.beq (len z) sz)) _ _)=_;rw[bT,hx,fR];show cond (and (and x.lies true) (Nat.beq (len z) sz)) _ _=_;rw[d,bT,c,fR];rfl
def PU (h:AH)(a b:ByteArray):cI h 1 false [.str (bs [])] 16 (.clip [.str a]) (.clip [.str b])=some (.row h.z 0 1 0 2,h.new (.row 0 1 false [.str a,.str b] 0)):=by
 have e:∀n m:Nat,n<=10->m<=10->need n m 16=true:=by
  intro n m j i;show and (Nat.ble ((2*(n+m)+1000)*16) 140737488355328) (Nat.ble (n+m) 9223372036854775807)=true;rw[fK o_,fK o_];rfl
 have g:∀(c d:List AV),kO (.clip c) h 1 false 16 d=cond (and (need (len c) (len d) 16) (and (fZ 1 c) (fT c))) (some (.row h.z 0 1 0 (Nat.add (len c) (len d)),h.new (.row 0 1 false (app (bJ c) (bJ d)) 0))) none:=λ_ _=>rfl;have f:∀x:ByteArray,len [AV.str x]=1:=λx=>by rw[bT];rfl
 rw[ZK (sz:=1) (x:=.str b) (z:=[.str (bs [])]) rfl rfl rfl,g,f,f,e _ _ o_ o_];rfl
theorem OwS.app {b:Nat}{h:AH}{V:AV}{l:List ByteArray}(o:OwS b h V l)(i:b<=h.z)(m:l.length<100000)(s:ByteArray):
  ∃d c,cI h 1 false [.str (bs [])] 16 V (.clip [.str s])=some (d,c)/\OwS b c d (l++[s])/\h.z<=c.z/\∀k,k<b->c.get k=h.get k:=by
 rcases o with⟨a,rfl,rfl⟩|o
 ·refine⟨_,_,PU h a s,.inr ⟨?_,.inr ⟨h.z,0,rfl,aD _ _,by rw[aB];omega,i⟩⟩,by rw[aB];omega,λk hk=>aM o_⟩;intro x hx;obtain⟨_,_,rfl⟩:=List.mem_map.1 hx;exact⟨rfl,rfl⟩
 have⟨d,j,e,o',f,g,_⟩:=eY (.str s) o;exact⟨d,j,e _ _ rfl (by decide),.inr (by rw[List.map_append];exact o'),f,g⟩
def OwS.can {b:Nat}{h:AH}{V:AV}{l:List ByteArray}(o:OwS b h V l):∃c,cw V h=(.ls (l.map AV.str),c)/\c.z=h.z/\∀k,k<b->c.get k=h.get k:=by
 rcases o with⟨a,rfl,rfl⟩|o
 ·exact⟨h,by rw[bQ rfl];rfl,rfl,λ_ _=>rfl⟩
 exact rQ (f:=AV.str) (λ_=>rfl) (λ_=>rfl) o
def Ui {a:Type}{l:List a}{p:Nat}{x:a}(h:l[p]?=some x):l.take (p+1)=l.take p++[x]:=by rw[Z_,h];rfl
section
variable {K:aN}{h:AH}
def I1169 (l:List ByteArray)(s:ByteArray)(b:AH)(j:Nat)(a:AF)(h:AH):Prop:=∃tm p,p+j=l.length/\a=F_ 169 tm/\HK b h/\nth tm 0=.ls (l.map AV.str)/\nth tm 1=.str s/\nth tm 5=.I (p:Int)/\∀(i:Nat) x,i<p->l[i]?=some x->x≠s
def WM [RunsM K](l:List ByteArray)(s:ByteArray)(z:l.length<=10000000):
  Ret K (169) [.ls (l.map AV.str),.str s] h λv _=>∃b,v=.bool b/\(b=true<->s∈l):=by
 refine aV aes ?_;have ret:∀(tm:Tm) (b:Bool) (H:AH),HK h H->nth tm 4=.bool b->(b=true<->s∈l)->Fin VW (λo n=>(∃b,o=.bool b/\(b=true<->s∈l))/\HK h n) .ret (F_ 169 tm) H:=λtm b H hk A t=>
  Fr ⟨⟨_,rfl,t⟩,hk⟩
 simp only[go_sem];refine bo (I1169 l s h) l.length o_ ⟨_,0,z_ _,rfl,HK.refl h,k_,k_,y_,λi x hi=>by omega⟩ ?_;rintro j w m ⟨tm,p,y,rfl,g,t0,k,f,e⟩;simp only[go_sem,t0,f];refine aU (λc=>?_) (λr=>?_)
 ·have c:p<l.length:=o_;have d:=a_ c;have u:=aP p o_;simp only[go_sem,t0,k,f,d];refine aU (λa=>?_) (λa=>?_)
  ·simp only[go_sem];exact ret _ true m g k_ ⟨λ_=>by first|exact a▸List.getElem_mem c|exact a.symm▸List.getElem_mem c,λ_=>rfl⟩
  simp only[go_sem,f,u];exact⟨j-1,o_,_,p+1,o_,rfl,g,q_ t0,q_ k,k_,λi x hi hx=>by
   by_cases q:i=p
   ·subst q;rw[d]at hx;cases hx;first|exact a|exactλx=>a x.symm
   exact e i x o_ hx⟩
 simp only[go_sem];exact ret _ false m g k_ ⟨λq=>(by cases q),λq=>by
  have⟨i,hi⟩:=J_ q;exact absurd rfl (e i s (by have:=(E_.1 hi).1;omega) hi)⟩
def NmB (d:DV)(l:List ByteArray):Prop:=∀n,d.N.size<=n->(∀c∈d.C,c.N.size<=n)->(∀f∈d.F,f.N.size<=n)->∀s∈l,s.size<=n+4
theorem NmB.app {d:DV}{l:List ByteArray}(o:NmB d l){x:ByteArray}(h:∀n,d.N.size<=n->(∀c∈d.C,c.N.size<=n)->(∀f∈d.F,f.N.size<=n)->x.size<=n+4):NmB d (l++[x]):=λn e b a s hs=>by
 rcases List.mem_append.1 hs with hs|hs
 ·exact o n e b a s hs
 rw[W_]at hs;subst hs;exact h n e b a
def NmB.nil (d:DV):NmB d []:=λ_ _ _ _ _ hs=>by cases hs
def NmB.one (d:DV):NmB d [d.N]:=λn a _ _ s hs=>by rw[W_]at hs;subst hs;omega
theorem Sg (a:ByteArray):(BF a).size=a.size+4:=by unfold BF;rw[ByteArray.size_append];rfl
def pM (d:DV):List ByteArray:=if d.D=0\/d.D=1\/d.D=2 then [d.N] else if d.D=3 then d.N::d.C.map (·.N)++[BF d.N] else if d.D=4 then d.F.map (·.N) else []
def UP (d:DV)(v:AV):Prop:=∃l:List ByteArray,v=.ls (l.map AV.str)/\l.length<=2000/\(d.D=3->2<=l.length)/\NmB d l/\l=pM d
def acz (d:DV)(b f c n:Nat)(Z:Nat->List ByteArray->Prop)(a:AH)(j:Nat)(e:AF)(h:AH):Prop:=∃tm p V l,p+j=n/\e=F_ 168 tm/\HK a h/\b<h.z/\a.z<=b/\h.get b=some (.box (aQ d))/\nth tm 1=.P b/\nth tm f=.I (p:Int)/\nth tm c=V/\OwS (b+1) h V l/\l.length<=p+1/\(d.D=3->1<=l.length)/\NmB d l/\Z p l
def QW [RunsM K](d:DV)(ds:DS d):
  Ret K (168) [gJ d] h λv _=>UP d v:=by
 refine aV aet ?_;rw[bX];have⟨H,P,i,D,b⟩:=nw h (.box (aQ d));have f:=b;unfold aQ at f;have cl:=ds.C;have fl:=ds.F;have ret:∀(tm:Tm) (V:AV) (l:List ByteArray) (H:AH),HK h H->nth tm 2=V->h.z+1<=H.z->OwS (h.z+1) H V l->l.length<=2000->(d.D=3->2<=l.length)->NmB d l->l=pM d->Fin VX (λv' x=>UP d v'/\HK h x) .ret (F_ 168 tm) H:=by
  intro tm V l H hk t2 hn o A x h4 h5;have⟨H2,w,_,k2⟩:=o.can;refine⟨rfl,rfl,.inr rfl,[V],q_ t2,.ls (l.map AV.str),H2,?_,⟨l,rfl,A,x,h4,h5⟩,⟨by have:=hk.z;omega,λk O=>(k2 k o_).trans (hk.kw k O)⟩⟩;refine qM ?_ w;rcases o with⟨a,rfl,_⟩|o
  ·intro l e;cases e
  rcases o.2 with⟨rfl,_⟩|⟨kk,g,rfl,_⟩<;>(intro l e;cases e)
 have G:=λ(V:AV) (l:List ByteArray) (H:AH) (o:OwS (h.z+1) H V l) (hb:h.z+1<=H.z) (A:l.length<100000) (s:ByteArray)=>o.app hb A s;have nil:∀H,OwS (h.z+1) H .nl []:=λH=>.inr (cV _ _ _ _);have T:=Gu d.N ds.N;simp only[go_sem,<-P,f];by_cases Q:d.D=0
 ·simp only[go_sem,Q,f];exact ret _ (.clip [.str d.N]) [d.N] H i k_ o_ (.inl ⟨_,rfl,rfl⟩) (by simp) o_ (.one d) (by unfold pM;rw[P_ o_])
 by_cases E:d.D=1
 ·simp only[go_sem,E,f];exact ret _ (.clip [.str d.N]) [d.N] H i k_ o_ (.inl ⟨_,rfl,rfl⟩) (by simp) o_ (.one d) (by unfold pM;rw[P_ o_])
 by_cases N:d.D=2
 ·simp only[go_sem,N,f];exact ret _ (.clip [.str d.N]) [d.N] H i k_ o_ (.inl ⟨_,rfl,rfl⟩) (by simp) o_ (.one d) (by unfold pM;rw[P_ o_])
 by_cases S:d.D=3
 ·have e0:=D_ Q;have C:=D_ E;have w:=D_ N;have r:=T_ S;simp only[go_sem,e0,C,w,r,f];refine bo (acz d h.z 4 3 d.C.length (λp l=>l=d.N::(d.C.take p).map (·.N)) h) d.C.length o_ ⟨_,0,.clip [.str d.N],[d.N],z_ _,rfl,i,o_,e_ _,b,k_,y_,k_,.inl ⟨_,rfl,rfl⟩,by simp,by simp,.one d,rfl⟩ ?_;clear i D f b P H;rintro j fr H ⟨tm,p,V,l,hp,rfl,i,D,_,b,t,t4,Y,o,A,R,m,B⟩;have f:=b;unfold aQ at f;simp only[go_sem,t,t4,f];refine aU (λq=>?_) (λI=>?_)
  ·have q:p<d.C.length:=o_;have c:=a_ q;have F:=aR encCt_len c .i64;have L:cy (.vp (jb d.C[p])) 0 1 false=some (.vp (.str d.C[p].N)):=rfl;have W:=aP p o_;have⟨y,J,r,z,n3,u⟩:=G V l H o o_ o_ d.C[p].N;simp only[go_sem,t,Y,t4,f,F,L,r,W];exact⟨j-1,o_,_,p+1,y,_,o_,rfl,⟨by have:=i.z;omega,λk hk=>(u k o_).trans (i.kw k hk)⟩,o_,e_ _,(u _ o_).trans b,q_ t,k_,k_,z,by simp;omega,by simp,m.app λn _ h2 _=>by have:=h2 _ (m_ c);omega,by rw[B];dsimp only;rw[Ui c,List.map_append];rfl⟩
  have⟨y,J,r,z,n3,u⟩:=G V l H o o_ o_ (BF d.N);simp only[go_sem,t,Y,f,T,r];exact ret _ y _ J ⟨by have:=i.z;omega,λk hk=>(u k o_).trans (i.kw k hk)⟩ k_ o_ z (by simp;omega) (by simp;omega) (m.app λn h1 _ _=>by rw[Sg];omega) (by unfold pM;rw[N_ o_,P_ S,B,l_ o_])
 have e0:=D_ Q;have C:=D_ E;have w:=D_ N;have r:=D_ S;by_cases M:d.D=4
 ·have U:=T_ M;simp only[go_sem,e0,C,w,r,U];refine bo (acz d h.z 6 5 d.F.length (λp l=>l=(d.F.take p).map (·.N)) h) d.F.length o_ ⟨_,0,.nl,[],z_ _,rfl,i,o_,e_ _,b,k_,y_,k_,nil _,by simp,o_,.nil d,rfl⟩ ?_;clear i D f b P H;rintro j fr H ⟨tm,p,V,l,hp,rfl,i,D,_,b,t,X,Z,o,A,R,m,B⟩;have f:=b;unfold aQ at f;simp only[go_sem,t,X,f];refine aU (λq=>?_) (λI=>?_)
  ·have q:p<d.F.length:=o_;have c:=a_ q;have F:=aR encFn_len c .i64;have L:cy (.vp (gk d.F[p])) 0 1 false=some (.vp (.str d.F[p].N)):=rfl;have W:=aP p o_;have⟨y,_,r,z,_,u⟩:=G V l H o o_ o_ d.F[p].N;simp only[go_sem,t,Z,X,f,F,L,r,W];exact⟨j-1,o_,_,p+1,y,_,o_,rfl,⟨by have:=i.z;omega,λk hk=>(u k o_).trans (i.kw k hk)⟩,o_,e_ _,(u _ o_).trans b,q_ t,k_,k_,z,by simp;omega,o_,m.app λn _ _ x=>by have:=x _ (m_ c);omega,by rw[B];dsimp only;rw[Ui c,List.map_append];rfl⟩
  simp only[go_sem,Z];exact ret _ V _ H i k_ o_ o o_ o_ m (by unfold pM;rw[N_ o_,N_ o_,P_ M,B,l_ o_])
 have U:=D_ M;simp only[go_sem,e0,C,w,r,U];exact ret _ .nl [] H i k_ o_ (nil _) (by simp) o_ (.nil d) (by unfold pM;rw[N_ o_,N_ o_,N_ o_])
def LE (d:DV)(a:Int)(nm:ByteArray)(e:EV):Prop:=∀e0,eU nm (gY d a)=some e0->e0=e
def EI (d:DV)(a:Int)(nm:ByteArray)(v:AV):Prop:=∃e:EV,v=uN e/\(e.D=4->e.decl=a/\∃j:Nat,j<d.C.length/\e.item=(j:Int))/\LE d a nm e
structure acB (d:DV)(a:Int)(nm:ByteArray)(b:Nat)(h0:AH)(tm:Tm)(h:AH):Prop where
 hk:HK h0 h
 hn:b+2<h.z
 hb:h0.z=b
 g0:h.get b=some (.box (aQ d))
 g1:∃cs,h.get (b+1)=some (.box cs)/\cs.length=9
 g2:∃k,h.get (b+1+1)=some (.box (aY ⟨k,a,0,d.Q,d.type⟩))/\k≠4
 t1:nth tm 1=.I a
 t2:nth tm 2=.str nm
 t3:nth tm 3=.P b
 t6:nth tm 6=.P (b+1)
 t7:nth tm 7=.P (b+1+1)
def acy (d:DV)(a:Int)(nm:ByteArray)(b e n:Nat)(Z:Nat->Prop)(f:AH)(j:Nat)(c:AF)(h:AH):Prop:=∃tm p,p+j=n/\c=F_ 185 tm/\acB d a nm b f tm h/\nth tm e=.I (p:Int)/\Z p
def kq {h:AH}{b:Nat}{a:List AV}(g:h.get b=some (.box a))(c:a.length=9)(e:EV):cY (.P b) h 9 (uN e)=some (h.set b (.box (aY e))):=aS g c rfl
def abJ [RunsM K](d:DV)(a:Int)(nm:ByteArray)(ds:DS d):
  Ret K (185) [gJ d,.I a,.str nm] h λv _=>EI d a nm v:=by
 refine aV aeo ?_;rw[bX];have⟨H,hH,k0,n0,g0⟩:=nw h (.box (aQ d));have⟨W,u⟩:∃W:AH,W=H.new (.box zE):=⟨_,rfl⟩;have nA:W.z=h.z+1+1:=by rw[u,aB,n0]
 have kA:HK h W:=by rw[u];exact k0.add _
 have ab:W.get h.z=some (.box (aQ d)):=by rw[u,aM o_];exact g0
 have ak:W.get (h.z+1)=some (.box zE):=by rw[u,<-n0,aD]
 have⟨N,t⟩:∃N:AH,N=W.new (.box zE):=⟨_,rfl⟩;have nB:N.z=h.z+1+1+1:=by rw[t,aB,nA]
 have kB:HK h N:=by rw[t];exact kA.add _
 have aj:N.get h.z=some (.box (aQ d)):=by rw[t,aM o_];exact ab
 have ad:N.get (h.z+1)=some (.box zE):=by rw[t,aM o_];exact ak
 have al:N.get (h.z+1+1)=some (.box zE):=by rw[t,<-nA,aD]
 unfold zE at u t;have cl:=ds.C;have fl:=ds.F;have ret:∀(tm:Tm) (e:EV) (H:AH),HK h H->h.z+1<H.z->nth tm 6=.P (h.z+1)->H.get (h.z+1)=some (.box (aY e))->(e.D=4->e.decl=a/\∃j:Nat,j<d.C.length/\e.item=(j:Int))->LE d a nm e->Fin JE (λv' h3=>EI d a nm v'/\HK h h3) .ret (F_ 185 tm) H:=by
  intro tm e H hk Y o g hc I;unfold aY at g;refine Fr ⟨⟨e,rfl,hc,I⟩,hk⟩
 have r:∀(H:AH) (c:List AV),HK h H->HK h (H.set (h.z+1) (.box c)):=λH c k=>k.set _ o_;have fin:∀(tm:Tm) (H:AH),acB d a nm h.z h tm H->(∀k:Int,H.get (h.z+1+1)=some (.box (aY ⟨k,a,0,d.Q,d.type⟩))->LE d a nm ⟨k,a,0,d.Q,d.type⟩)->R_ K [.code zh] (Fin JE (λv' h3=>EI d a nm v'/\HK h h3)) .normal (F_ 185 tm) H:=by
  rintro tm H ⟨hk,Y,_,E,⟨cs,O,n⟩,⟨k,X,z⟩,B,G,w,o,Q⟩ hx;have I:=hx _ X;have ah:=cE X (sz:=9) rfl;have b:=kq O n ⟨k,a,0,d.Q,d.type⟩;rw[hG]at b;simp only[go_sem,zh,Q,o,ah,b];exact ret _ ⟨k,a,0,d.Q,d.type⟩ _ (r _ _ hk) (by rw[aE];omega) (q_ o) (aF _ _ _) (λq=>absurd q z) I
 have hd:=ab;unfold aQ at hd;have hz:=kq (h:=N) al rfl ⟨0,a,0,d.Q,d.type⟩;rw[hG]at hz;unfold aY at hz;have af:=hz;have⟨L,s⟩:∃L:AH,L=N.set (h.z+1+1) (.box (aY ⟨0,a,0,d.Q,d.type⟩)):=⟨_,rfl⟩;have kC:HK h L:=by rw[s];exact kB.set _ o_
 have nC:L.z=h.z+3:=by rw[s,aE,nB]
 have D:L.get h.z=some (.box (aQ d)):=by rw[s,aA o_];exact aj
 have aa:L.get (h.z+1)=some (.box zE):=by rw[s,aA o_];exact ad
 have P:L.get (h.z+1+1)=some (.box (aY ⟨0,a,0,d.Q,d.type⟩)):=by rw[s,aF]
 unfold aY at s;have y:=D;have F:=P;unfold aQ at y;unfold aY at F;unfold acb;simp only[go_sem,<-hH,Lj,n0,<-u,hd,nA,<-t,hz,<-s,Ll,y];clear hH u t s hz af;have st:∀k:Int,k≠4->∀H,H=L.set (h.z+1+1) (.box (aY ⟨k,a,0,d.Q,d.type⟩))->HK h H/\h.z+2<H.z/\H.get h.z=some (.box (aQ d))/\H.get (h.z+1)=some (.box zE)/\H.get (h.z+1+1)=some (.box (aY ⟨k,a,0,d.Q,d.type⟩)):=by
  rintro k hk H rfl;exact⟨kC.set _ o_,by rw[aE];omega,(aA o_).trans D,(aA o_).trans aa,aF _ _ _⟩
 have J:∀(tm:Tm) (k:Int),k≠4->LE d a nm ⟨k,a,0,d.Q,d.type⟩->nth tm 1=.I a->nth tm 2=.str nm->nth tm 3=.P h.z->nth tm 6=.P (h.z+1)->nth tm 7=.P (h.z+1+1)->R_ K [.code zh] (Fin JE (λv' h3=>EI d a nm v'/\HK h h3)) .normal (F_ 185 tm) (L.set (h.z+1+1) (.box (aY ⟨k,a,0,d.Q,d.type⟩))):=by
  intro tm k hk I B G w o Q;have⟨Z,q2,U,q4,q5⟩:=st k hk _ rfl;exact fin _ _ ⟨Z,q2,rfl,U,⟨_,q4,rfl⟩,⟨_,q5,hk⟩,B,G,w,o,Q⟩ (λk' q=>by rw[q5]at q;injection q with q;injection q with q;unfold aY at q;injection q with q _;injection q with _ q;subst q;exact I)
 have S:∀k:Int,d.D=k->k=0\/k=1\/k=2->LE d a nm ⟨k,a,0,d.Q,d.type⟩:=λk hk hq e0 q=>by
  unfold gY at q;rw[P_ o_]at q;unfold eU at q;split at q
  ·cases q;rw[hk]
  cases q
 by_cases m:d.D=0
 ·simp only[go_sem,m,F];exact J _ 0 (by decide) (S 0 m o_) k_ k_ k_ k_ k_
 by_cases Z:d.D=1
 ·simp only[go_sem,Z,F];exact J _ 1 (by decide) (S 1 Z o_) k_ k_ k_ k_ k_
 by_cases q2:d.D=2
 ·simp only[go_sem,q2,F];exact J _ 2 (by decide) (S 2 q2 o_) k_ k_ k_ k_ k_
 by_cases U:d.D=3
 ·have e3:=T_ U;have⟨s1,s2,T,s4,s5⟩:=st 3 (by decide) _ rfl;have⟨HD,M⟩:∃HD:AH,HD=L.set (h.z+1+1) (.box (aY ⟨3,a,0,d.Q,d.type⟩)):=⟨_,rfl⟩;rw[<-M]at s1 s2 T s4 s5;unfold aY at M;have s3:=T;have ai:=s5;unfold aQ at s3;unfold aY at s5;simp only[go_sem,m,Z,q2,e3,F,<-M,s3];clear M;refine aU (λi=>?_) (λi=>?_)
  ·have b:=kq s4 rfl ⟨3,a,0,d.Q,d.type⟩;rw[hG]at b;unfold aY at b;simp only[go_sem,s5,b];exact ret _ ⟨3,a,0,d.Q,d.type⟩ _ (r _ _ s1) (by rw[aE];omega) k_ (aF _ _ _) (λq=>by simp only[]at q;omega) (λm q=>by unfold gY at q;rw[N_ o_,P_ U,eU,P_ (by first|exact i|exact i.symm)]at q;cases q;rfl)
  simp only[go_sem];have ag:gY d a=(d.N,⟨3,a,0,d.Q,d.type⟩)::(rq d a d.C 0++[(BF d.N,⟨5,a,0,d.rp,d.rt⟩)]):=by unfold gY;rw[N_ o_,P_ U]
  refine bo (acy d a nm h.z 8 d.C.length (λp=>∀m,eU nm (gY d a)=some m->eU nm (rq d a (d.C.drop p) p++[(BF d.N,⟨5,a,0,d.rp,d.rt⟩)])=some m) h) d.C.length o_ ⟨_,0,z_ _,rfl,⟨s1,s2,rfl,T,⟨_,s4,rfl⟩,⟨_,ai,by decide⟩,k_,k_,k_,k_,k_⟩,y_,λm q=>by rw[ag,eU,N_ (by first|exact i|exactλx=>i x.symm)]at q;exact q⟩ ?_;rintro j fr H2 ⟨tm,p,hp,rfl,⟨hk,Y,_,A,⟨cs,O,n⟩,⟨k,X,z⟩,B,G,w,o,Q⟩,t8,V⟩;have E:=A;unfold aQ at E;unfold Ni;simp only[go_sem,w,t8,E];refine aU (λl=>?_) (λac=>?_)
  ·have l:p<d.C.length:=o_;have f:=a_ l;revert f;generalize d.C[p]=c;intro f;have ha:=aR encCt_len f .i64;have hf:cy (.vp (jb c)) 0 1 false=some (.vp (.str c.N)):=rfl;have C:cy (.vp (jb c)) 1 5 true=some (.vp (.agg (aG c.type))):=rfl;have b:=kq O n ⟨4,a,p,d.Q,c.type⟩;rw[hG]at b;unfold aY at b;unfold aG at C;have hw:=aP p o_;simp only[go_sem,Ln,G,w,t8,E,ha,hf];refine aU (λi=>?_) (λi=>?_)
   ·simp only[go_sem,B,w,o,t8,E,ha,C,b];exact ret _ ⟨4,a,p,d.Q,c.type⟩ _ (r _ _ hk) (by rw[aE];omega) (q_ o) (aF _ _ _) (λq=>⟨rfl,p,l,rfl⟩) (λm q=>by have:=V m q;rw[List.drop_eq_getElem_cons l,rq,Q_,eU,(show d.C[p]=c from Option.some.inj ((a_ l).symm.trans f)),P_ (by first|exact i|exact i.symm)]at this;cases this;rfl)
   simp only[go_sem,t8,hw];exact⟨j-1,o_,_,p+1,o_,rfl,⟨hk,Y,rfl,A,⟨cs,O,n⟩,⟨k,X,z⟩,q_ B,q_ G,q_ w,q_ o,q_ Q⟩,k_,λm q=>by have:=V m q;rw[List.drop_eq_getElem_cons l,rq,Q_,eU,(show d.C[p]=c from Option.some.inj ((a_ l).symm.trans f)),N_ (by first|exact i|exactλx=>i x.symm)]at this;exact this⟩
  have b:=kq O n ⟨5,a,0,d.rp,d.rt⟩;rw[hG]at b;unfold aY at b;simp only[go_sem,B,w,o,E,b];exact ret _ ⟨5,a,0,d.rp,d.rt⟩ _ (r _ _ hk) (by rw[aE];omega) (q_ o) (aF _ _ _) (λq=>by simp only[]at q;omega) (λm q=>by have:=V m q;rw[List.drop_eq_nil_of_le o_,rq,List.nil_append,eU]at this;split at this<;>cases this;rfl)
 simp only[go_sem,m,Z,q2,U];refine bo (acy d a nm h.z 9 d.F.length (λp=>∀m,eU nm (gY d a)=some m->eU nm (sY d a (d.F.drop p) p)=some m) h) d.F.length o_ ⟨_,0,z_ _,rfl,⟨kC,o_,rfl,D,⟨_,aa,rfl⟩,⟨_,P,by decide⟩,k_,k_,k_,k_,k_⟩,y_,λm q=>by unfold gY at q;rw[N_ o_,N_ U]at q;split at q;exact q;cases q⟩ ?_;rintro j fr H2 ⟨tm,p,hp,rfl,⟨hk,Y,_,A,⟨cs,O,n⟩,⟨k,X,z⟩,B,G,w,o,Q⟩,t9,V⟩;have E:=A;unfold aQ at E;unfold Nh;simp only[go_sem,w,t9,E];refine aU (λl=>?_) (λac=>?_)
 ·have l:p<d.F.length:=o_;have f:=a_ l;revert f;generalize d.F[p]=c;intro f;have ha:=aR encFn_len f .i64;have hf:cy (.vp (gk c)) 0 1 false=some (.vp (.str c.N)):=rfl;have C:cy (.vp (gk c)) 1 5 true=some (.vp (.agg (aG c.type))):=rfl;have b:=kq O n ⟨6,a,p,d.Q,c.type⟩;rw[hG]at b;unfold aY at b;unfold aG at C;have hw:=aP p o_;simp only[go_sem,Lm,G,w,t9,E,ha,hf];refine aU (λi=>?_) (λi=>?_)
  ·simp only[go_sem,B,w,o,t9,E,ha,C,b];exact ret _ ⟨6,a,p,d.Q,c.type⟩ _ (r _ _ hk) (by rw[aE];omega) (q_ o) (aF _ _ _) (λq=>by simp only[]at q;omega) (λm q=>by have:=V m q;rw[List.drop_eq_getElem_cons l,sY,eU,(show d.F[p]=c from Option.some.inj ((a_ l).symm.trans f)),P_ (by first|exact i|exact i.symm)]at this;cases this;rfl)
  simp only[go_sem,t9,hw];exact⟨j-1,o_,_,p+1,o_,rfl,⟨hk,Y,rfl,A,⟨cs,O,n⟩,⟨k,X,z⟩,q_ B,q_ G,q_ w,q_ o,q_ Q⟩,k_,λm q=>by have:=V m q;rw[List.drop_eq_getElem_cons l,sY,eU,(show d.F[p]=c from Option.some.inj ((a_ l).symm.trans f)),N_ (by first|exact i|exactλx=>i x.symm)]at this;exact this⟩
 simp only[go_sem];exact fin _ _ ⟨hk,Y,rfl,A,⟨cs,O,n⟩,⟨k,X,z⟩,q_ B,q_ G,q_ w,q_ o,q_ Q⟩ (λ_ _ m q=>by have:=V m q;rw[List.drop_eq_nil_of_le o_,sY,eU]at this;cases this)
def eZ:EV:=⟨0,0,0,0,t0⟩
def Zq (h:AH):cw (.agg zE) h=(uN eZ,h):=Ve h
def xr (d:DV)(a:Int):∀(l:List CtV) (i:Nat),(rq d a l i).map (·.1)=l.map (·.N)
 |[],_=>rfl
 |c::l,i=>by simp only[rq,List.map_cons,xr d a l (i+1)]
def xq (d:DV)(a:Int):∀(l:List FnV) (i:Nat),(sY d a l i).map (·.1)=l.map (·.N)
 |[],_=>rfl
 |c::l,i=>by simp only[sY,List.map_cons,xq d a l (i+1)]
def yS (d:DV)(a:Int):(gY d a).map (·.1)=pM d:=by
 unfold gY pM;split
 ·rfl
 split
 ·simp[xr]
 split
 ·exact xq _ _ _ _
 rfl
theorem wF {nm:ByteArray}: ∀{l:List (ByteArray×EV)},(∃e,eU nm l=some e)<->nm∈l.map (·.1)
 |[]=>by simp[eU]
 |x::l=>by
  unfold eU;by_cases q:x.1=nm
  ·rw[P_ q];simp[q]
  rw[N_ q,wF (l:=l),List.map_cons,X_];exact⟨.inr,λh=>h.elim (λe=>absurd e.symm q) id⟩
def adK (a:List DV)(nm:ByteArray)(v:AV):Prop:=∃(e:EV) (f:Int),v=.tup [uN e,.I f]/\(f=0/\fG nm a 0=some e\/f=9/\e=eZ/\fG nm a 0=none)/\(f=0->e.D=4->∃(n j:Nat) (d:DV),a[n]?=some d/\e.decl=(n:Int)/\j<d.C.length/\e.item=(j:Int))
def I1150 (a:List DV)(nm:ByteArray)(b:Nat)(d:AH)(j:Nat)(c:AF)(h:AH):Prop:=∃tm p,p+j=a.length/\c=F_ 150 tm/\HK d h/\b<h.z/\h.get b=some (.box zE)/\nth tm 0=.eD a/\nth tm 1=.str nm/\nth tm 4=.P b/\nth tm 6=.I (p:Int)/\fG nm a 0=fG nm (a.drop p) p
def QX [RunsM K](a:List DV)(nm:ByteArray)(ds:∀d∈a,DS d)(x:a.length<1000):
  Ret K (150) [.eD a,.str nm] h λv _=>adK a nm v:=by
 refine aV aeE ?_;have⟨H,w,G,Q,L⟩:=nw h (.box zE);unfold zE at w;simp only[go_sem,<-w];clear w;refine bo (I1150 a nm h.z h) a.length o_ ⟨_,0,z_ _,rfl,G,o_,L,k_,k_,k_,y_,rfl⟩ ?_;clear G Q L H;rintro j fr J ⟨tm,p,hp,rfl,N,n2,M,t0,u,r,t,k⟩;simp only[go_sem,t0,t];refine aU (λi=>?_) (λS=>?_)
 ·have i:p<a.length:=o_;have c:=a_ i;have f:=ds _ (m_ c);rw[List.drop_eq_getElem_cons i,fG]at k;revert c f k;generalize a[p]=d;intro k c f;have hw:=aP p o_;obtain⟨v,R,B,⟨l,rfl,_,_,_,n⟩,y⟩:=QW (h:=J) d f;obtain⟨v,E,I,⟨b,rfl,o⟩,z⟩:=WM (h:=R) l nm o_;have n4:h.z<E.z:=by have:=y.z;have:=z.z;omega
  have F:=z.up (y.up M);have s:=(N.trans y).trans z;cases b with
  |true=>
   obtain⟨_,V,X,⟨e,rfl,T,A⟩,C⟩:=abJ (h:=E) d (p:Int) nm f;have U:=C.up F;have g:=kq U rfl e;simp only[go_sem,t0,u,r,t,c,B,I,X,g];have m:=aF V h.z (.box (aY e));unfold aY at m;refine⟨rfl,rfl,.inr rfl,[uN e,.I 0],by simp only[go_sem,r];rfl,_,_,bF (ae (JT _ _) (ae (aL _ _ _) (aH _))),⟨e,0,rfl,.inl ⟨rfl,?_⟩,λ_ q=>?_⟩,(s.trans C).set _ o_⟩
   ·have⟨e0,q⟩:=wF.2 ((yS d p).symm▸n▸o.1 rfl);rw[k,q,A e0 q]
   have⟨P,O,W,Z⟩:=T q;exact⟨p,O,d,c,P,W,Z⟩
  |false=>
   simp only[go_sem,t0,u,t,c,B,I,hw];refine⟨j-1,o_,_,p+1,o_,rfl,s,n4,F,q_ t0,q_ u,q_ r,k_,?_⟩;cases x:eU nm (gY d p) with
   |none=>rw[k,x]
   |some e0=>exact absurd (o.2 (n▸yS d p▸wF.1 ⟨e0,x⟩)) (by simp)
 have D:lT zE []=some (.agg zE):=rfl;have g:=aS M (sz:=9) (vs:=zE) rfl rfl;unfold zE at D g;simp only[go_sem,r,D,g];have m:=aF J h.z (.box zE);unfold zE at m;refine⟨rfl,rfl,.inr rfl,[.agg zE,.I 9],by simp only[go_sem,r,m];rfl,_,_,bF (ae (Zq _) (ae (aL _ _ _) (aH _))),⟨eZ,9,rfl,.inr ⟨rfl,rfl,by rw[k,List.drop_eq_nil_of_le o_,fG]⟩,λq=>by omega⟩,N.set _ o_⟩
def GA {l:List T}{p:Nat}{x:T}(h:l[p]?=some x):aO x<=ba l:=by
 induction l generalizing p with
 |nil=>cases h
 |cons a l b=>
  cases p with
  |zero=>cases h;rw[ba];omega
  |succ p=>have:=b (p:=p) h;rw[ba];omega
def mr (b:List DV)(a:List ByteArray)(d:DV):AV:=.agg (.eD b :: .ls (a.map AV.str)::aQ d)
def dO (b:List DV)(a:List ByteArray)(d:DV):List AV:=.eD b :: .ls (a.map AV.str)::aQ d
def KI (b:List DV)(a:List ByteArray)(d:DV)(h:AH):cw (mr b a d) h=(mr b a d,h):=by
 have f:=lp d;have n:=lj d;rw[bX]at f n;simp only[AV.free,AV.norm]at f n;have n:AV.norms (aQ d)=aQ d:=by injection n
 have c:=bY lp b;have fo:AV.frees (a.map AV.str)=true:=bY (λ_=>rfl) a;rw[bQ (by simp only[mr,AV.free,AV.frees,f,c,fo,Bool.and_self])];simp only[mr,AV.norm,AV.norms,n,bB lj,bB (f:=AV.str) (λ_=>rfl)]
instance (b:List DV) (a:List ByteArray) (d:DV):Can (mr b a d) (mr b a d):=⟨KI b a d⟩
structure SC (env:List DV)(own:List ByteArray)(d:DV):Prop where
 ds:∀d∈env,DS d
 d:DS d
 len:env.length<1000
 own:own.length<=10000
structure AY (env:List DV)(own:List ByteArray)(d:DV)(t:T)(b:Nat)(h0:AH)(h:AH):Prop where
 hk:HK h0 h
 hb:h0.z<=b
 hn:b+1<h.z
 g0:h.get b=some (.box (dO env own d))
 g1:h.get (b+1)=some (.box (aG t))
def AY.up {c:List DV}{a:List ByteArray}{d:DV}{t:T}{b:Nat}{f h e:AH}(q:AY c a d t b f h)(k:HK h e):AY c a d t b f e:=
 ⟨q.hk.trans k,q.hb,by have:=k.z;have:=q.hn;omega,(k.kw _ (by have:=q.hn;omega)).trans q.g0,(k.kw _ q.hn).trans q.g1⟩
def I1195 (c:List DV)(a:List ByteArray)(d:DV)(t:T)(b:Nat)(f:AH)(j:Nat)(e:AF)(h:AH):Prop:=∃tm p,p+j=t.K.length/\e=F_ 195 tm/\AY c a d t b f h/\nth tm 2=.P b/\nth tm 3=.P (b+1)/\nth tm 7=.I (p:Int)
def c1195 [RunsM K](a:List DV)(c:List ByteArray)(d:DV)(P:SC a c d):∀(n:Nat) (t:T) (h:AH),aO t<=n->n<=10000000->
  Ret K (195) [mr a c d,enc t] h λv _=>∃e:Int,v=.I e:=by
 intro n;induction n with
 |zero=>intro t h hs;have:=bI t;omega
 |succ n ih=>
  intro t h hs hn;refine aV aej ?_;have ab:=fk t;have ac:=bO t.K;have o:=vW (h:=h) (dO a c d) 25 rfl;have n1:=aB h (.box (dO a c d));have⟨H,D,_,_,_⟩:=n2 h (.box (dO a c d)) (.box (aG t));have m:AY a c d t h.z h H:=⟨by rw[D];exact(HK.new _ _).add _,e_ _,o_,by rw[D,aM o_,aD],by rw[D,<-n1,aD]⟩;have ret:∀(tm:Tm) (e:Int) (H:AH),HK h H->nth tm 4=.I e->Fin Qs (λZ Y=>(∃e:Int,Z=.I e)/\HK h Y) .ret (F_ 195 tm) H:=λtm e H hk E=>
   Fr ⟨⟨_,rfl⟩,hk⟩
  have loop:∀(tm:Tm) (H:AH),AY a c d t h.z h H->nth tm 2=.P h.z->nth tm 3=.P (h.z+1)->R_ K [.code DL] (Fin Qs (λZ Y=>(∃e:Int,Z=.I e)/\HK h Y)) .normal (F_ 195 tm) H:=by
   intro tm H q E C;simp only[go_sem,DL];refine bo (I1195 a c d t h.z h) t.K.length o_ ⟨_,0,z_ _,rfl,q,q_ E,q_ C,y_⟩ ?_;clear q E C H tm;rintro j fr H2 ⟨tm,p,hp,rfl,q,E,C,X⟩;have F:=q.g0;have r:=q.g1;unfold dO aQ at F;unfold aG at r;simp only[go_sem,C,X,r];refine aU (λL=>?_) (λaa=>?_)
   ·have L:p<t.K.length:=o_;have g:=a_ L;have O:=GA g;revert g O;generalize t.K[p]=x;intro g O;have hw:=aP p o_;obtain⟨v,k,Q,⟨e,rfl⟩,s⟩:=ih x H2 o_ o_;unfold mr aQ at Q;simp only[go_sem,E,C,X,F,r,g,Q];by_cases qe:e=0
    ·subst qe;simp only[go_sem,X,hw];exact⟨j-1,o_,_,p+1,o_,rfl,q.up s,q_ E,q_ C,k_⟩
    have de:=D_ qe;simp only[go_sem,de];exact ret _ e k (q.hk.trans s) k_
   simp only[go_sem];exact ret _ 0 H2 q.hk k_
  have F:=m.g0;have r:=m.g1;unfold dO at o;unfold dO aQ at F;unfold aG at r;rw[aJ t];unfold mr ab9;unfold aG dO at D;unfold dO at n1;simp only[go_sem,o,n1,<-D,r];clear D o n1;by_cases a1:t.D=3
  case neg=>
   simp only[go_sem,a1];exact loop _ _ m k_ k_
  have d1:=T_ a1;obtain⟨v,k,Q,⟨e,f,rfl,_⟩,s⟩:=QX (h:=H) a t.N P.ds P.len;have q3:=m.up s;have⟨HA,l,kA,_⟩:=ns k (.box zE) (.box (aY e));have B:=q3.up kA;have nA:k.z<HA.z:=by rw[l,aE,aB];omega
  have gA:HA.get k.z=some (.box (aY e)):=by rw[l,aF]
  have w:=kq (aD k (.box zE)) rfl e;rw[<-l]at w;unfold zE at w;clear l;have y:=B.g0;have i:=B.g1;have N:=gA;unfold dO aQ at y;unfold aG at i;unfold aY at N;simp only[go_sem,d1,F,r,Q,w];by_cases qf:f=0
  ·subst qf;simp only[go_sem,i,N];by_cases ql:(t.L.length:Int)=e.Q
   ·have u:=T_ ql;simp only[go_sem,u];exact loop _ _ B k_ k_
   have u:=D_ ql;simp only[go_sem,u];exact ret _ 15 _ B.hk k_
  obtain⟨v,H4,e4,⟨b,rfl,_⟩,U⟩:=WM (h:=HA) c t.N (by have:=P.own;omega);have A:=B.up U;cases b with
  |false=>
   simp only[go_sem,qf,y,i,e4];exact ret _ 9 _ A.hk k_
  |true=>
   have G:=A.g0;have J:=A.g1;unfold dO aQ at G;unfold aG at J;obtain⟨_,W,e5,⟨z,rfl,_⟩,I⟩:=abJ (h:=H4) d (a.length:Int) t.N P.d;have g5:=((U.trans I).kw _ nA).trans gA;have S:=kq g5 rfl z;have n5:=(U.trans I).z;have k6:HK h (W.set k.z (.box (aY z))):=(A.hk.trans I).set _ (by have:=m.hk.z;have:=s.z;omega);have V:AY a c d t h.z h (W.set k.z (.box (aY z))):=⟨k6,e_ _,by rw[aE];have:=B.hn;omega,by rw[aA (by have:=m.hn;have:=s.z;omega)];exact(A.up I).g0,by rw[aA (by have:=m.hn;have:=s.z;omega)];exact(A.up I).g1⟩;have g6:=aF W k.z (.box (aY z));have M:=V.g1;unfold aY at g6;unfold aY aG at M;rw[bX]at e5;unfold aQ aY at *;simp only[go_sem,qf,y,i,e4,G,J,e5,S,g6,M];by_cases ql:(t.L.length:Int)=z.Q
   ·have u:=T_ ql;simp only[go_sem,u];exact loop _ _ V k_ k_
   have u:=D_ ql;simp only[go_sem,u];exact ret _ 15 _ V.hk k_
def abK [RunsM K](b:List DV)(a:List ByteArray)(d:DV)(w:SC b a d)(n:Nat)(t:T)(j s:Int)(hs:aO t<=n)(z:n<=10000000)(bt:BT t)(I:j<=60000):
  Ret K (170) [mr b a d,enc t,.I j,.I s] h λv _=>∃e:Int,v=.I e/\(e=0->TOK t):=by
 refine aV aer ?_;have n1:=aB h (.box (dO b a d));have⟨H,p,_,_,_⟩:=n2 h (.box (dO b a d)) (.box (aG t));have k:AY b a d t h.z h H:=⟨o_,o_,o_,by grind,by grind⟩;have ret:∀(tm:Tm) (e:Int) (H:AH),HK h H->nth tm 8=.I e->(e=0->TOK t)->Fin VV (λD C=>(∃e:Int,D=.I e/\(e=0->TOK t))/\HK h C) .ret (F_ 170 tm) H:=λtm e H hk J i=>
  Fr ⟨⟨_,rfl,i⟩,hk⟩
 obtain⟨v,m,o,⟨e,rfl,i⟩,F⟩:=c7 (h:=H) j s 0 0 n t hs o_ bt;have r:=k.up F;obtain⟨_,E,l,⟨B,rfl⟩,_⟩:=c1195 b a d w n t m hs z;have A:=k.g0;have u:=k.g1;have g:=r.g0;have f:=r.g1;unfold dO aQ at A g;unfold aG at u f;unfold dO at n1;unfold aG dO at p;rw[aJ t]at o l ⊢;unfold mr ace;unfold mr aQ at l;simp only[go_sem,n1,<-p,u,o];by_cases q:e=0
 ·have G:TOK t:=by
   have⟨c,x⟩:=i q;exact c.tok o_ 4096 t 0 x o_
  subst q;simp only[go_sem,g,f,l];exact ret _ B E g_ k_ g_
 have y:decide (e=0)=false:=g_;simp only[go_sem,y];exact ret _ e m g_ k_ o_
def abH [RunsM K](d:DV)(j:Nat)(c:CtV)(t:d.C[j]?=some c)(B:0<=d.f)(x:d.f<=50000)(A:aO c.type<50000):
  Ret K (190) [gJ d,.I (j:Int)] h λv _=>∃f:Int,v=.I f/\0<=f/\f=max 0 (((fD c.type).length:Int)-d.f):=by
 refine aV aem ?_;rw[bX];have⟨H,q,s,_,g⟩:=nw h (.box (aQ d));have p:=g;unfold aQ at p;have r:=aR encCt_len t .i64;have a:cy (.vp (jb c)) 1 5 true=some (.vp (.agg (aG c.type))):=rfl;unfold aG at a;obtain⟨_,l,m,rfl,n⟩:=abI c.type H o_;rw[aJ c.type]at m;have k:=n.up g;unfold aQ at k;have⟨_,i,o,_⟩:=ns l (.box zT) (.box (aG (qv c.type)));have u:=o.up k;have b:=bz (aD l (.box zT)) (qv c.type);rw[<-i]at b;have w:=iM _ c.type (e_ _);have e:IntKind.wrap .i64 (((fD c.type).length:Int)-d.f)=((fD c.type).length:Int)-d.f:=aW _ o_ o_;simp only[go_sem,<-q,p,r,a,m,b,u,e];exact Fr ⟨⟨_,rfl,o_,rfl⟩,(s.trans n).trans o⟩
end
mutual
def BTr:gK->Prop
 |.mk _ b _ l=>BT b/\Qp l
def Qp:List Br->Prop
 |[]=>True
 |.mk _ _ t::l=>BTr t/\Qp l
end
def Ik {b:Br}: ∀{l:List Br},b∈l->Qp l->BTr (brT b)
 |.mk c a t::l,h,g=>by
  unfold Qp at g;rcases X_.1 h with rfl|h
  ·exact g.1
  exact Ik h g.2
def Nw {b:Br}{n:Nat}: ∀{l:List Br},b∈l->SmB l n->∃k,n=k+1/\SmT (brT b) k
 |.mk c a t::l,h,g=>by
  unfold SmB at g;rcases X_.1 h with rfl|h
  ·exact g.1
  exact Nw h g.2
def Xb {t:gK}(c:TOK (fV t))(a:∀b∈cm t,TB (brT b)):TB t:=by
 have⟨_,_,_,_⟩:=t;unfold TB;exact⟨c,Nv a⟩
def Da {t:gK}(h:BTr t):BT (fV t)/\Qp (cm t):=by have⟨_,_,_,_⟩:=t;unfold BTr at h;exact h
def Qb {t:gK}{n:Nat}(h:SmT t n):aO (fV t)<=400/\(cm t).length<=40/\SmB (cm t) n:=by have⟨_,_,_,_⟩:=t;unfold SmT at h;exact h
def Gb:gK:=.mk 0 t0 0 []
def Uh:TOK t0:=vC (by decide) (by decide)
section
variable {K:aN}{h:AH}
def I1196 (b:Nat)(x:gK)(a:AH)(_j:Nat)(c:AF)(h:AH):Prop:=∃tm,c=F_ 196 tm/\HK a h/\h.get b=some (.box (bc x))/\nth tm 2=.P b/\nth tm 5=.I 0
def c1196 [RunsM K](n:Nat)(x:gK)(hs:ts x<=n)(U:n<=10000000)(bt:BT (fV x)):
  Ret K (196) [fg x,fg Gb] h λv _=>∃b,v=.bool b/\(b=true->TB x):=by
 have S:=rH x;rw[cj,cj];refine aV aei ?_;have n1:=aB h (.box (bc x));have⟨H,A,k,_,i,f⟩:=n2 h (.box (bc x)) (.box (bc Gb));have ret:∀(tm:Tm) (b:Bool) (H:AH),HK h H->nth tm 4=.bool b->(b=true->TB x)->Fin VQ (λE D=>(∃b,E=.bool b/\(b=true->TB x))/\HK h D) .ret (F_ 196 tm) H:=λtm b H hk W I=>
  Fr ⟨⟨_,rfl,I⟩,hk⟩
 obtain⟨_,y,o,⟨P,rfl,u⟩,m⟩:=c11 n (fV x) t0 H o_ o_ (by decide) bt Ez;have g:=m.up i;have l:=m.up f;have d:=i;have c:=f;have r:=g;have a:=l;rw[aJ,aJ]at o;have G:lV Gb=0:=rfl;have C:eW Gb=0:=rfl;have L:fV Gb=t0:=rfl;have M:cm Gb=[]:=rfl;unfold bc fS at d c r a;rw[G,C,L,M]at c a;simp only[go_sem,n1,<-A,d,c];clear A;by_cases B:lV x=0
 case neg=>
  simp only[go_sem,B];exact ret _ false H k k_ (by simp)
 have p:=T_ B;by_cases z:eW x=0
 case neg=>
  simp only[go_sem,p,d,c,z];exact ret _ false H k k_ (by simp)
 have t:=T_ z;cases P with
 |false=>
  simp only[go_sem,p,d,c,t,o];exact ret _ false y (k.trans m) k_ (by simp)
 |true=>
  by_cases q:cm x=[]
  case neg=>
   have s:decide (((cm x).length:Int)=((0:Nat):Int))=false:=D_ (by
    have:(cm x).length≠0:=λe=>q (List.eq_nil_of_length_eq_zero e);omega)
   simp only[go_sem,p,d,c,t,o,r,a,s];exact ret _ false y (k.trans m) k_ (by simp)
  have s:decide (((cm x).length:Int)=((0:Nat):Int))=true:=by rw[q];rfl
  simp only[go_sem,p,d,c,t,o,r,a,s];refine bo (I1196 h.z x h) 0 o_ ⟨_,rfl,k.trans m,g,k_,k_⟩ ?_;rintro j V Q ⟨tm,rfl,R,w,O,J⟩;unfold bc fS at w;rw[q]at w;simp only[go_sem,O,J,w];refine aU (λN=>?_) (λF=>?_)
  ·omega
  simp only[go_sem];exact ret _ true Q R k_ λ_=>Xb (by rw[u.1 rfl];exact Uh) (by rw[q];simp)
structure SE (env:List DV):Prop where
 f:∀d∈env,0<=d.f/\d.f<=400/\∀c∈d.C,aO c.type<=400
structure FY (env:List DV)(own:List ByteArray)(d:DV)(t:gK)(b:Nat)(h0:AH)(h:AH):Prop where
 hk:HK h0 h
 hb:h0.z<=b
 hn:b+1<h.z
 g0:h.get b=some (.box (dO env own d))
 g1:h.get (b+1)=some (.box (bc t))
def FY.up {c:List DV}{a:List ByteArray}{d:DV}{t:gK}{b:Nat}{f h e:AH}(q:FY c a d t b f h)(k:HK h e):FY c a d t b f e:=
 ⟨q.hk.trans k,q.hb,by have:=k.z;have:=q.hn;omega,(k.kw _ (by have:=q.hn;omega)).trans q.g0,(k.kw _ q.hn).trans q.g1⟩
def I1171 (c:List DV)(a:List ByteArray)(d:DV)(t:gK)(f e:Int)(b:Nat)(k:AH)(j:Nat)(g:AF)(h:AH):Prop:=∃tm p,p+j=(cm t).length/\g=F_ 171 tm/\FY c a d t b k h/\nth tm 2=.I f/\nth tm 3=.I e/\nth tm 4=.P b/\nth tm 5=.P (b+1)/\nth tm 9=.I (p:Int)/\
 ∀(i:Nat) x,i<p->(cm t)[i]?=some x->TB (brT x)
def c1171 [RunsM K](a:List DV)(l:List ByteArray)(d:DV)(sc:SC a l d)(se:SE a):∀(n:Nat) (t:gK) (k:Nat) (s D:Int) (h:AH),ts t<=n->n<=10000000->SmT t k->BTr t->-1000<=s->s+400*k<=60000->
  Ret K (171) [mr a l d,fg t,.I s,.I D] h λv _=>∃e:Int,v=.I e/\(e=0->TB t):=by
 intro n;induction n with
 |zero=>intro t k s D h hs;have:=rH t;omega
 |succ n ih=>
  intro t k s D h hs hn sm av v0 hv;have hp:=rH t;have hl:=DE (cm t);have⟨bt,ao⟩:=Da av;have⟨_,_,sb⟩:=Qb sm;rw[cj];refine aV aeq ?_;have M:=vW (h:=h) (dO a l d) 25 rfl;have n1:=aB h (.box (dO a l d));have⟨H,hH,_,_,_⟩:=n2 h (.box (dO a l d)) (.box (bc t));have z:FY a l d t h.z h H:=⟨by rw[hH];exact(HK.new _ _).add _,e_ _,o_,by rw[hH,aM o_,aD],by rw[hH,<-n1,aD]⟩;have ret:∀(tm:Tm) (e:Int) (H:AH),HK h H->nth tm 8=.I e->(e=0->TB t)->Fin Qt (λv' h3=>(∃e:Int,v'=.I e/\(e=0->TB t))/\HK h h3) .ret (F_ 171 tm) H:=λtm e H hk w he=>
   Fr ⟨⟨_,rfl,he⟩,hk⟩
  have loop:∀(tm:Tm) (H:AH),FY a l d t h.z h H->TOK (fV t)->nth tm 2=.I s->nth tm 3=.I D->nth tm 4=.P h.z->nth tm 5=.P (h.z+1)->R_ K [.code pE] (Fin Qt (λv' h3=>(∃e:Int,v'=.I e/\(e=0->TB t))/\HK h h3)) .normal (F_ 171 tm) H:=by
   intro tm H q tb w t3 Q u;have m:=q.g1;unfold bc fS at m;by_cases c1:eW t<0
   ·have d1:=T_ c1;simp only[go_sem,pE,u,m,d1];exact ret _ 24 H q.hk k_ o_
   by_cases c2:eW t>=s
   ·have E:=T_ c2;simp only[go_sem,pE,w,u,m,c1,E];exact ret _ 24 H q.hk k_ o_
   by_cases c3:((cm t).length:Int) > 32
   ·have d3:=T_ c3;simp only[go_sem,pE,w,u,m,c1,c2,d3];exact ret _ 6 H q.hk k_ o_
   simp only[go_sem,pE,w,u,m,c1,c2,c3];refine bo (I1171 a l d t s D h.z h) (cm t).length o_ ⟨_,0,z_ _,rfl,q,q_ w,q_ t3,q_ Q,q_ u,y_,λi x hi=>by omega⟩ ?_;clear q w t3 Q u m H tm;rintro j fr H2 ⟨tm,p,a9,rfl,q,w,t3,Q,u,t9,pre⟩;have g0:=q.g0;have m:=q.g1;unfold dO aQ at g0;unfold bc fS at m;simp only[go_sem,u,t9,m];refine aU (λag=>?_) (λa5=>?_)
   ·have ag:p<(cm t).length:=o_;have g:=a_ ag;have y:=m_ g;have ac:=VK y;have C:=Ik y ao;have V:=Nw y sb;revert g ac C V;generalize (cm t)[p]=b;intro g ac C V;obtain⟨k',rfl,a4⟩:=V;have⟨c,P,r⟩:=b;have am:∀h,cC (.vp (nK (.mk c P r))) h true 10=some (.agg (.str c :: .bool P::bc r)):=λh=>by rw[jx];exact eA (v:=.agg (.str c :: .bool P::bc r)) (sz:=10) rfl rfl h
    have hw:=aP p o_;have ah:=(Da C).1;have⟨HA,B,kA,_⟩:=ns H2 (.box [.str (bs []),.bool false,.I 0,.I 0,.I 0,.str (bs []),.nl,.nl,.I 0,.nl]) (.box (.str c :: .bool P::bc r));have nA:H2.z<HA.z:=by rw[B,aE,aB];omega
    have ad:HA.get H2.z=some (.box (.str c :: .bool P::bc r)):=by rw[B,aF]
    have W:=aS (h:=H2.new (.box [.str (bs []),.bool false,.I 0,.I 0,.I 0,.str (bs []),.nl,.nl,.I 0,.nl])) (vs:=.str c :: .bool P::bc r) (sz:=10) (aD _ _) rfl rfl;rw[<-B]at W;clear B;have qA:=q.up kA;obtain⟨v,I,G,⟨e,f,rfl,_,ap⟩,Z⟩:=QX (h:=HA) a c sc.ds sc.len;have⟨o,A,kB,_⟩:=ns I (.box zE) (.box (aY e));have nB:I.z<o.z:=by rw[A,aE,aB];omega
    have au:o.get I.z=some (.box (aY e)):=by rw[A,aF]
    have X:=kq (aD I (.box zE)) rfl e;rw[<-A]at X;unfold zE at X;clear A;have aj:=Z.trans kB;have J:=qA.up aj;have ai:=(aj.kw _ nA).trans ad;have ak:=qA.g0;have gA:=ad;have af:=J.g0;have gB:=ai;have gE:=au;unfold dO aQ at ak af;unfold bc fS at gA gB W am;unfold aY at gE;simp only[go_sem,Q,u,t9,m,g,am,W,ak,gA,G,X];by_cases qf:f=0
    case neg=>
     simp only[go_sem,qf];exact ret _ 9 o J.hk k_ o_
    subst qf;by_cases qk:e.D=4
    case neg=>
     simp only[go_sem,gE,qk];exact ret _ 9 o J.hk k_ o_
    have dk:=T_ qk;have⟨_,j5,d5,al,N,ar,O⟩:=ap rfl qk;simp only[go_sem,gE,dk,gB];cases P with
    |true=>
     obtain⟨v,H4,L,⟨b4,rfl,aq⟩,U⟩:=c1196 (h:=o) n r (by show ts (brT (.mk c true r))<=n;omega) o_ ah;have hz:cw (.agg [.I 0,.I 0,.I 0,.str (bs []),.nl,.nl,.I 0,.nl]) o=(fg Gb,o):=by
      rw[bQ (by simp[AV.free,AV.frees])];rw[cj];simp[AV.norm,AV.norms,Gb,bc,fS,lV,fV,eW,cm,t0,T.D,T.X,T.N,T.L,T.K]
     rw[<-dJ (f:=196) (c:=[]) (ae (show cw (fg r) o=_ from by rw[cj];exact oL r o) (ae hz (aH _))) (ae (show cw (fg r) o=(fg r,o) from by rw[cj];exact oL r o) (ae (show cw (fg Gb) o=(fg Gb,o) from by rw[cj];exact oL Gb o) (aH _)))]at L;rw[cj]at L;unfold bc fS at L;simp only[go_sem,gB,L];cases b4 with
     |false=>
      simp only[go_sem];exact ret _ 3 H4 (J.hk.trans U) k_ o_
     |true=>
      simp only[go_sem,t9,hw];refine⟨j-1,o_,_,p+1,o_,rfl,J.up U,q_ w,q_ t3,q_ Q,q_ u,k_,λi x hi hx=>?_⟩;by_cases qi:i=p
      ·subst qi;rw[g]at hx;cases hx;exact aq rfl
      exact pre i x o_ hx
    |false=>
     have an:=m_ al;have⟨f0,_,fc⟩:=se.f d5 an;have ay:bW (.eD a) 23 (.I e.decl)=some (.vp (gJ d5)):=by rw[N];exact aR encD_len al .i64
     have S:=a_ ar;obtain⟨v,H4,L,⟨f4,rfl,_,_⟩,U⟩:=abH (h:=o) d5 j5 _ S f0 o_ (by have:=fc _ (m_ S);omega);have a8:f4<=400:=by have:=C_ (iM _ _ (e_ _)) (fc _ (m_ S));omega
     rw[<-O]at L;have az:=aW (s+f4) o_ o_;obtain⟨v,H5,e5,⟨e',rfl,aw⟩,k5⟩:=ih r k' (s+f4) (IntKind.wrap .i64 (D+1)) H4 (by show ts (brT (.mk c false r))<=n;omega) o_ a4 C o_ o_;rw[cj]at e5;unfold mr aQ bc fS at e5;have F:=(J.up U).g0;have aa:=U.up ai;unfold dO aQ at F;unfold bc fS at aa;simp only[go_sem,w,t3,Q,af,gB,gE,ay,L,az,F,aa,e5];by_cases qe:e'=0
     ·subst qe;simp only[go_sem,t9,hw];refine⟨j-1,o_,_,p+1,o_,rfl,(J.up U).up k5,q_ w,q_ t3,q_ Q,q_ u,k_,λi x hi hx=>?_⟩;by_cases qi:i=p
      ·subst qi;rw[g]at hx;cases hx;exact aw rfl
      exact pre i x o_ hx
     have de:=D_ qe;simp only[go_sem,de];exact ret _ e' H5 ((J.hk.trans U).trans k5) k_ (λq=>absurd q qe)
   simp only[go_sem];exact ret _ 0 H2 q.hk k_ λ_=>Xb tb (lU λi x hi hx=>pre i x o_ hx)
  have g0:=z.g0;have m:=z.g1;unfold dO at M;unfold dO aQ at g0;unfold bc fS at m;unfold mr acd;unfold dO at hH n1;simp only[go_sem,M,n1,<-hH];clear hH M n1;by_cases Y:D>=200
  ·have d0:=T_ Y;simp only[go_sem,d0];exact ret _ 7 H z.hk k_ o_
  by_cases a1:lV t=0
  ·have d1:=T_ a1;by_cases a2:eW t=0
   case neg=>
    simp only[go_sem,Y,m,d1,a2];exact ret _ 3 H z.hk k_ o_
   have E:=T_ a2;by_cases a3:((cm t).length:Int) > 0
   ·have d3:=T_ a3;simp only[go_sem,Y,m,d1,E,d3];exact ret _ 3 H z.hk k_ o_
   obtain⟨v,I,G,⟨e,rfl,he⟩,Z⟩:=abK (h:=H) a l d sc n (fV t) s d.Q o_ o_ bt o_;rw[aJ]at G;unfold mr aQ at G;simp only[go_sem,Y,g0,m,d1,E,a3,G];exact ret _ e I (z.hk.trans Z) k_ λq=>Xb (he q) (by
    have:cm t=[]:=List.eq_nil_of_length_eq_zero o_;rw[this];simp)
  by_cases a2:lV t=1
  ·have E:=T_ a2;obtain⟨_,I,G,⟨b3,rfl,ax⟩,Z⟩:=JV (h:=H) n (fV t) o_ o_ bt;rw[aJ]at G;simp only[go_sem,Y,m,a1,E,G];cases b3 with
   |false=>
    simp only[go_sem];exact ret _ 3 I (z.hk.trans Z) k_ o_
   |true=>
    simp only[go_sem];exact loop _ _ (z.up Z) (by rw[ax rfl];exact Uh) k_ k_ k_ k_
  have E:=D_ a2;simp only[go_sem,Y,m,a1,E];exact ret _ 3 H z.hk k_ o_
end
structure BD (d:DV):Prop where
 ty:BT d.type
 v:BT d.v
 rty:BT d.rt
 ct:∀c∈d.C,BT c.type
 rr:∀r∈d.R,BT r
 fn:∀f∈d.F,BT f.type/\BTr f.tree/\ts f.tree<=9000000
structure UN (d:DV):Prop where
 a:d.D≠3->d.f=0/\d.C=[]/\d.R=[]
 f:d.D≠4->0<=d.D->d.D<=4->d.F=[]
def Kr {a:Type}{l:List a}(h:(l.length:Int)=0):l=[]:=List.eq_nil_of_length_eq_zero o_
section
variable {K:aN}{h:AH}
structure pz (d:DV)(b:Nat)(h0 h:AH):Prop where
 hk:HK h0 h
 hn:b<h.z
 g:h.get b=some (.box (aQ d))
def pz.up {d:DV}{b:Nat}{a h c:AH}(q:pz d b a h)(k:HK h c):pz d b a c:=⟨q.hk.trans k,by have:=k.z;have:=q.hn;omega,(k.kw _ q.hn).trans q.g⟩
def c1131 [RunsM K](d:DV)(D:FD d)(B:BD d):
  Ret K (131) [gJ d] h λv _=>∃b,v=.bool b/\(b=true->UN d):=by
 refine aV aeR ?_;rw[bX];have⟨H,y⟩:∃H:AH,H=h.new (.box (aQ d)):=⟨_,rfl⟩;have G:pz d h.z h H:=⟨by rw[y];exact HK.new _ _,by rw[y,aB];omega,by rw[y,aD]⟩;have ret:∀(tm:Tm) (b:Bool) (H:AH),HK h H->nth tm 2=.bool b->(b=true->UN d)->Fin JF (λt s=>(∃b,t=.bool b/\(b=true->UN d))/\HK h s) .ret (F_ 131 tm) H:=λtm b H hk r A=>
  Fr ⟨⟨_,rfl,A⟩,hk⟩
 have w:∀(tm:Tm) (H:AH) (m:Bool),pz d h.z h H->nth tm 1=.P h.z->nth tm 4=.bool m->(m=true->d.f=0/\d.C=[]/\d.R=[])->R_ K [.code qG] (Fin JF (λt s=>(∃b,t=.bool b/\(b=true->UN d))/\HK h s)) .normal (F_ 131 tm) H:=by
  intro tm H m q j r I;have f:=q.g;unfold aQ at f;obtain⟨v,T,p,⟨C,rfl,_⟩,J⟩:=JV (h:=H) 400 d.v D.v o_ B.v;rw[aJ]at p;have l:=q.up J;have o:=l.g;unfold aQ at o;have⟨z,c⟩:∃x,decide (d.D=0)=x:=⟨_,rfl⟩;have⟨u,a⟩:∃x,decide (d.D=1)=x:=⟨_,rfl⟩;have⟨x2,g⟩:∃x,decide (d.D=2)=x:=⟨_,rfl⟩;have⟨x3,k⟩:∃x,decide (d.D=3)=x:=⟨_,rfl⟩;have⟨xf,i⟩:∃x,decide ((d.F.length:Int)=0)=x:=⟨_,rfl⟩;have un:∀b:Bool,(d.D≠3->b=true->m=true)->(d.D≠4->0<=d.D->d.D<=4->b=true->xf=true)->(b=true->UN d):=λb S Q A=>
   ⟨λq=>I (S q A),λq P q2=>Kr (O_ (i.trans (Q q P q2 A)))⟩
  cases z
  case true=>
   have hk:=O_ c;cases C<;>cases m<;>cases xf<;>simp only[go_sem,qG,j,r,f,c,p,o,i]<;>
    first|(refine ret _ false _ l.hk ?_ (λe=>nomatch e);simp only[go_sem];done)|(refine ret _ true _ l.hk ?_ (un true ?_ ?_)<;>first|(simp only[go_sem];done)|(simp;done)|omega)
  have ab:=U_ c;cases u
  case true=>
   have hk:=O_ a;cases m<;>cases xf<;>simp only[go_sem,qG,j,r,f,c,a,i]<;>
    first|(refine ret _ false _ q.hk ?_ (λe=>nomatch e);simp only[go_sem];done)|(refine ret _ true _ q.hk ?_ (un true ?_ ?_)<;>first|(simp only[go_sem];done)|(simp;done)|omega)
  have W:=U_ a;cases x2
  case true=>
   have hk:=O_ g;cases m<;>cases xf<;>simp only[go_sem,qG,j,r,f,c,a,g,i]<;>
    first|(refine ret _ false _ q.hk ?_ (λe=>nomatch e);simp only[go_sem];done)|(refine ret _ true _ q.hk ?_ (un true ?_ ?_)<;>first|(simp only[go_sem];done)|(simp;done)|omega)
  have aa:=U_ g;cases x3
  case true=>
   have hk:=O_ k;cases C<;>cases xf<;>simp only[go_sem,qG,j,f,c,a,g,k,p,o,i]<;>
    first|(refine ret _ false _ l.hk ?_ (λe=>nomatch e);simp only[go_sem];done)|(refine ret _ true _ l.hk ?_ (un true ?_ ?_)<;>first|(simp only[go_sem];done)|(simp;done)|omega)
  have U:=U_ k;have⟨xn,E⟩:∃x,decide (d.N=bs [])=x:=⟨_,rfl⟩;obtain⟨v,H4,N,⟨X,rfl,_⟩,k4⟩:=JV (h:=H) 400 d.type D.ty o_ B.ty;rw[aJ]at N;have F:=q.up k4;have M:=F.g;unfold aQ at M;obtain⟨v,_,L,⟨Y,rfl,_⟩,Z⟩:=JV (h:=H4) 400 d.v D.v o_ B.v;rw[aJ]at L;have O:=F.up Z;cases xn<;>cases X<;>cases Y<;>cases m<;>simp only[go_sem,qG,j,r,f,c,a,g,k,E,N,M,L]<;>
   first|(refine ret _ false _ O.hk ?_ (λe=>nomatch e);simp only[go_sem];done)|(refine ret _ false _ F.hk ?_ (λe=>nomatch e);simp only[go_sem];done)|(refine ret _ false _ q.hk ?_ (λe=>nomatch e);simp only[go_sem];done)|(refine ret _ true _ O.hk ?_ (un true ?_ ?_)<;>first|(simp only[go_sem];done)|(simp;done)|omega)
 have n:∀(tm:Tm) (H:AH) (c3:Bool),pz d h.z h H->nth tm 1=.P h.z->nth tm 3=.bool c3->(c3=true->d.R=[])->R_ K [.code DU] (Fin JF (λt s=>(∃b,t=.bool b/\(b=true->UN d))/\HK h s)) .normal (F_ 131 tm) H:=by
  intro tm H c3 q j V I;have f:=q.g;unfold aQ at f;have⟨z,c⟩:∃x,decide (d.f=0)=x:=⟨_,rfl⟩;have⟨u,a⟩:∃x,decide ((d.C.length:Int)=0)=x:=⟨_,rfl⟩;cases z<;>cases u<;>cases c3<;>simp only[go_sem,DU,j,V,f,c,a]<;>
   first|(refine w _ _ false q ?_ ?_ (λe=>nomatch e)<;>simp only[go_sem,j]<;>done)|exact w _ _ true q (by simp only[go_sem,j];done) (by simp only[go_sem];done) (λ_=>⟨O_ c,Kr (O_ a),I rfl⟩)
 have f:=G.g;unfold aQ at f;obtain⟨_,_,p,⟨C,rfl,_⟩,J⟩:=JV (h:=H) 400 d.rt D.rty o_ B.rty;rw[aJ]at p;have l:=G.up J;have o:=l.g;unfold aQ at o;have⟨z,c⟩:∃x,decide (d.rp=0)=x:=⟨_,rfl⟩;have⟨u,a⟩:∃x,decide ((d.R.length:Int)=0)=x:=⟨_,rfl⟩;simp only[go_sem,<-y];clear y;cases z<;>cases u<;>cases C<;>simp only[go_sem,f,c,a,p,o]<;>
  first|(refine n _ _ false l ?_ ?_ (λe=>nomatch e)<;>simp only[go_sem]<;>done)|(refine n _ _ false G ?_ ?_ (λe=>nomatch e)<;>simp only[go_sem]<;>done)|exact n _ _ true l (by simp only[go_sem];done) (by simp only[go_sem];done) (λ_=>Kr (O_ a))
end
