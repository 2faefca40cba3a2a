/- Lemmas for MachineOrders (no condition). -/
import Derived.Test.YtocdlbblemjabaaGreatDoorBj
set_option linter.defProp false
namespace Go.Proofs.YtocdlbblemjabaaGreatDoor
open Go.AG Go.AG.MK
variable {e:Type}{L:Es}{l r:LL}{b:List LL}{d a:List NV}{ts:List T}{n:NV}{p:Nat}{t:T}
theorem ML (f:(L.map (·.1)).Nodup):(fA L).Pairwise (· < ·):=by
 have p:=List.mergeSort_perm (L.map (·.1)) λx y=>decide (x<=y);have e:(fA L).Pairwise (λa b=>decide (a<=b)=true):=List.pairwise_mergeSort (λa b c e d=>by simp at *;omega) (λa b=>by simp;omega) _;have d:=p.nodup_iff.2 f;exact(e.and d).imp λh=>by
  have:=h.1;have:=h.2;simp at *;omega
theorem YB (g:0<=l.c)(e:∀(i:Nat) x,l.V[i]?=some x->-65536<=x.X/\x.X<=7/\0<=x.P)(ho:∀(i:Nat) x y,l.V[i]?=some x->l.V[i+1]?=some y->x.X<y.X)(h:Im l=some r):VL r:=by
 unfold Im at h;cases c:Qo l with
 |true=>rw[c]at h;cases h
 |false=>
  rw[c,N_ (by decide)]at h;by_cases f:100<l.c
  ·rw[P_ f]at h;cases h
  rw[N_ f]at h;cases h;have d:∀(i:Nat) x,l.V[i]?=some x->x.P<=100:=by
   intro i x hx;unfold Qo at c;have:=List.any_eq_false.1 c x (m_ hx);simp at this;omega
  refine⟨by show 0<=(if Gf l then 0 else l.c);split<;>omega,by show(if Gf l then 0 else l.c)<=100;split<;>omega,λi x hx=>⟨(e i x hx).1,(e i x hx).2.1,(e i x hx).2.2,d i x hx⟩,ho,λa i x hx=>?_⟩;cases b:Gf l with
  |true=>rw[b]at a;simp at a
  |false=>
   show x.P<(if false=true then 0 else l.c);unfold Gf at b;have:=List.any_eq_false.1 b x (m_ hx);simp at this ⊢;omega
def adI (g:GE L){k v:Int}(h:lkg L k=some v):(-65536<=k/\k<=7)/\0<=v/\v<=200:=⟨g.kr _ (qH h),g.pr _ (qH h)⟩
theorem YD {s:Int×Es}(j:0<=s.1)(g:GE s.2)(h:Qj s=some r):VL r:=by
 refine YB j (λi x hx=>?_) (λi x y hx e=>?_) h
 ·unfold lvs at hx;rw[List.getElem?_map]at hx;cases hk:(fA s.2)[i]? with
  |none=>rw[hk]at hx;cases hx
  |some z=>
   rw[hk]at hx;cases hx;have⟨_,ho⟩:=ve (L:=s.2) (i:=z) ((List.mergeSort_perm _ _).mem_iff.1 (m_ hk));have⟨⟨a,b⟩,c,_⟩:=adI g ho;show -65536<=z/\z<=7/\0<=(lkg s.2 z).getD 0;rw[ho];exact⟨a,b,c⟩
 unfold lvs at hx e;rw[List.getElem?_map]at hx e;cases hk:(fA s.2)[i]? with
 |none=>rw[hk]at hx;cases hx
 |some z=>
  cases d:(fA s.2)[i+1]? with
  |none=>rw[d]at e;cases e
  |some w=>
   rw[hk]at hx;rw[d]at e;cases hx;cases e;show z<w;have⟨f,k⟩:=E_.1 hk;have⟨l,m⟩:=E_.1 d;have:=List.pairwise_iff_getElem.1 (ML g.nd) i (i+1) f l o_;rw[k,m]at this;exact this
def US (c:∀l∈b,VL l):∀(a:List LV) (s:Int×Es),0<=s.1->0<=(a.foldl (iY b) s).1
 |[],_,h=>h
 |x::a,s,h=>by
  refine US c a _ ?_;unfold iY;split
  ·exact h
  split
  ·show 0<=max s.1 _;omega
  exact h
def SQ (a:VL l)(vp:∀l∈b,VL l)(h:jM l b=some r):VL r:=by
 unfold jM at h;split at h
 ·cases h
 exact YD (US vp _ _ a.c0) (GE.fold vp _ GE.nil (Em a)) h
theorem Hi {d:Type}{f:e->Option d}: ∀{l:List e} {r:List d},mapG f l=some r->∀y∈r,∃x∈l,f x=some y
 |[],r,h,y,a=>by cases h;cases a
 |t::l,r,h,y,a=>by
  rw[mapG]at h;cases b:f t with
  |none=>rw[b]at h;cases h
  |some x=>
   rw[b]at h;simp only at h;cases c:mapG f l with
   |none=>rw[c]at h;cases h
   |some s=>
    rw[c]at h;cases h;rcases X_.1 a with rfl|a
    ·exact⟨t,by simp,b⟩
    have⟨z,g,i⟩:=Hi c y a;exact⟨z,by simp[g],i⟩
mutual
theorem rU {j:List LL}(vp:∀l∈j,VL l):∀(t u:T),TOK t->ja j t=some u->TOK u/\aO u=aO t
 |.mk k i nm ls p,u,tok,h=>by
  rw[ja]at h;rw[TOK]at tok;cases g:mapG (λl=>jM l j) ls with
  |none=>rw[g]at h;cases h
  |some r=>
   rw[g]at h;simp only at h;cases o:pP j p with
   |none=>rw[o]at h;cases h
   |some m=>
    rw[o]at h;cases h;have⟨a,b,c⟩:=Cy vp p m tok.2 o;have f:=Hj g;refine⟨?_,by simp only[aO,b]⟩;rw[TOK];have⟨n1,n2,A,s,y,C,w,D,z,d,n⟩:=tok.1;refine⟨⟨n1,n2,by rw[c];exact A,s,y,C,w,D,z,⟨λq=>by rw[f];exact d.1 q,λq=>by rw[f];exact d.2.1 q,λv B=>List.eq_nil_of_length_eq_zero (by rw[f,d.2.2 v B];rfl)⟩,λl f=>?_⟩,a⟩;have⟨x,hx,e⟩:=Hi g l f;exact SQ (n x hx) vp e
theorem Cy {g:List LL}(vp:∀l∈g,VL l):∀(i f:List T),gO i->pP g i=some f->gO f/\ba f=ba i/\f.length=i.length
 |[],f,_,h=>by rw[pP]at h;cases h;exact⟨by rw[gO];trivial,rfl,rfl⟩
 |t::l,f,tok,h=>by
  rw[pP]at h;rw[gO]at tok;cases j:ja g t with
  |none=>rw[j]at h;cases h
  |some y=>
   rw[j]at h;simp only at h;cases k:pP g l with
   |none=>rw[k]at h;cases h
   |some r=>
    rw[k]at h;cases h;have⟨a,b⟩:=rU vp t y tok.1 j;have⟨c,d,e⟩:=Cy vp l r tok.2 k;exact⟨by rw[gO];exact⟨a,c⟩,by simp only[ba,b,d],by simp[e]⟩
end
section
variable {K:aN}{A:Ma}{B B1:Nat}{E:AV}
def inst (t:T)(ls:List LL):Option T:=ja ls t
def c1104 [RunsM K][Z:KM K][ks:KS K]:Ci K A B B1 E inst:=by
 intro M D I h t ls s g tok hs G hl;refine iW ae6 ?_;have Y:=s.b1;have⟨H,c⟩:∃H:AH,H=h.new (.box (aG t)):=⟨_,rfl⟩;have R:HK h H:=by subst c;exact HK.new _ _
 have W:H.z=h.z+1:=by subst c;rw[aB]
 have J:H.get h.z=some (.box (aG t)):=by subst c;rw[aD]
 have⟨v,d,z,ho,C⟩:=c316 G o_ t H o_ tok;obtain⟨w,e,rfl,Q,P⟩:=Mq ho;have S:=C.z;have j:=bz (h:=d.new (.box zT)) (k:=d.z) (aD _ _) w;have⟨i,b⟩:∃i:AH,i=(d.new (.box zT)).set d.z (.box (aG w)):=⟨_,rfl⟩;have T:HK d i:=by subst b;exact HK.new_set _ _ _
 have y:i.get d.z=some (.box (aG w)):=by subst b;exact aF _ _ _
 rw[<-b]at j;clear b;have a:=(R.trans C).trans T;have F:=s.hk a;unfold aG at c J y;rw[aJ t]at z ⊢;simp only[go_sem];rw[<-c];clear c;simp only[go_sem,z,j];by_cases k:e=0
 ·subst k;have hi:=Q rfl;have⟨tw,_⟩:=rU G t w tok hi;have L:decide ((0:Int)=0)=true:=rfl;have⟨_,_,x,f,O⟩:=c1144 (aO w) w M D I i (e_ _) tw F g;rw[aJ w]at x;simp only[go_sem,y];rcases O with⟨v,rfl,U,l,p,n,o,m,u,r,rfl,N⟩|rfl
  ·simp only[go_sem,x];refine oB (vs:=[.I r,.bool true]) (.inr rfl) k_ (bF (ae (aL _ _ _) (ae (bp _ _) (aH _)))) ((HK.m a).trans f) ⟨U,l,p,n,o,m,u,?_⟩;unfold inV inst;rw[hi];exact⟨r,rfl,N⟩
  simp only[go_sem,x];exact cP ((HK.m a).trans f)
 have q:=D_ k;have hi:=P k;simp only[go_sem,q];refine oB (vs:=[.I 0,.bool false]) (.inr rfl) k_ (bF (ae (aL _ _ _) (ae (bp _ _) (aH _)))) (HK.m a) ⟨M,D,I,F,g,Le.refl M,Sm.refl M,?_⟩;unfold inV inst;rw[hi]
end
section
variable {K:aN}{h:AH}
def nL (l:List NV)(h:AH):cw (.agg [.eN l]) h=(.agg [.eN l],h):=by
 rw[bQ (show(AV.agg [.eN l]).free=true by simp only[AV.free,AV.frees,Bool.and_true];exact bY sM l)];grind [AV.norm,AV.norms,bB,ph]
instance (l:List NV):Can (.agg [.eN l]) (.agg [.eN l]):=⟨nL l⟩
def abT [RunsM K]{k:Nat}(x:Int)(g:h.get k=some (.box [.eN a]))(_c:a.length<=65536):
  ∃v b,cS K (.fn 95 [] [.P k]) [.I x] .no h=some (.ret v,.no,b)/\v=.bool (decide (x<0\/(a.length:Int)<=x))/\b=h:=by
 refine zN afe ?_;by_cases hx:x<0
 ·have d:decide (x<0)=true:=g_;simp only[go_sem,d];exact Fr (v:=.bool true) g_
 have d:decide (x<0)=false:=g_;simp only[go_sem,d,g];exact Fr (v:=.bool (decide (x>=(a.length:Int)))) g_
def c1056 [RunsM K]{gs:List NV}(x:Int)(d:gs.length<=65536):
  Ret K (56) [.agg [.eN gs],.ls ([x].map AG.bh)] h λv _=>v=.bool (decide (0<=x/\x<(gs.length:Int))):=by
 refine aV Vb ?_;have b:Pr K (.fn 95 [] [.P h.z]) AG.bh (λx=>decide (x<0\/(gs.length:Int)<=x)) [x] (λa=>a.get h.z=some (.box [.eN gs])/\h.z<a.z):=
  ⟨g_,λx _ a ⟨f,k⟩=>by obtain⟨v,_,e,rfl,rfl⟩:=abT x f d;exact⟨_,e,g_⟩,λh=>by rw[jd];rfl⟩
 obtain⟨_,_,e,rfl,c⟩:=c193 (h:=h.new (.box [.eN gs])) b ⟨aD _ _,by rw[aB];omega⟩ (by simp);have g:(!([x].any λx=>decide (x<0\/(gs.length:Int)<=x)))=decide (0<=x/\x<(gs.length:Int)):=by
  grind
 simp only[go_sem,e];exact Fr ⟨rfl,(HK.new _ _).trans c⟩
def c1058 [RunsM K]:cS K (.fn 58 [] []) [pv] .no h=some (.ret (.I 11),.no,h):=by
 obtain⟨v,a,_,rfl,rfl⟩:=aV (a:=[pv]) (h:=h) (P:=λv a=>v=.I 11/\a=h) afC (by
  simp only[go_sem];exact Fr ⟨rfl,rfl⟩)
 omega
def agi [RunsM K](a b c:Nat){x y z:AV}(l:h.get a=some (.box [x]))(j:h.get b=some (.box [y]))(k:h.get c=some (.box [z]))(n1:a≠b)(n2:a≠c)(m:b≠c):
  cS K (.fn 57 [] [.P a,.P b,.P c]) [] (.pend pv) h=some (.ret (.tup []),.done,((h.set a (.box [.nl])).set b (.box [.I 0])).set c (.box [.I 11])):=by
 have r:Rn (cS K) 57:=lW;obtain⟨o,i,g,_,rfl,rfl,rfl⟩:=r [.P a,.P b,.P c] _ _ (.pend pv) h _ _ _ _ (λo i g=>o=.ret (.tup [])/\i=.done/\g=((h.set a (.box [.nl])).set b (.box [.I 0])).set c (.box [.I 11])) Va (aH _) (by
  have d:=λh:AH=>c1058 (h:=h);have e:(h.set a (.box [.nl])).get b=some (.box [y]):=(aA o_).trans j;have f:((h.set a (.box [.nl])).set b (.box [.I 0])).get c=some (.box [z]):=(aA o_).trans ((aA o_).trans k);unfold pv at d ⊢;simp only[go_sem,d,l,e,f];exact jl g_ rfl ⟨.tup [],_,bF (aH _),rfl,rfl,rfl⟩)
 omega
def agh [RunsM K](a b c:Nat):cS K (.fn 57 [] [.P a,.P b,.P c]) [] .ret h=some (.ret (.tup []),.ret,h):=by
 have r:Rn (cS K) 57:=lW;obtain⟨o,d,e,_,rfl,rfl,rfl⟩:=r [.P a,.P b,.P c] _ _ .ret h _ _ _ _ (λo d e=>o=.ret (.tup [])/\d=.ret/\e=h) Va (aH _) (by
  simp only[go_sem];exact jl g_ rfl ⟨.tup [],_,bF (aH _),rfl,rfl,rfl⟩)
 omega
end
section
variable {K:aN}{E:AV}{h:AH}
structure S0 (B a kI kW kM kU kS:Nat)(E:AV)(h:AH):Prop where
 gA:h.get a=some (.box [.nl,E,.map kI,.nl,.map kW,.map kM,.map kU,.map kS,.I 0,.I 0])
 gI:h.get kI=some (.map [])
 gW:h.get kW=some (.map [])
 gM:h.get kM=some (.map [])
 nd:[a,kI,kW,kM].Nodup
 lo:B<=a/\B<=kI/\B<=kW/\B<=kM
 us:kU=B+4/\kS=B+5/\B+5<h.z/\∀k∈[a,kI,kW,kM],k≠B+4/\k≠B+5
 hi:a<h.z/\kI<h.z/\kW<h.z/\kM<h.z
def M1 (n:NV):Ms:=⟨[n],[ndT n []],[fp (ndT n [])],[],[],0,0⟩
def agc [RunsM K][km:KM K]{B a m u w U S:Nat}(s:S0 B a m u w U S E h)(n:NV)(o:n.K=[])(ht:TOK (ndT n [])):
  Rt K (96) [.ptr a 0 0,bU n] h λ_ C=>(∃A x O,A.a=a/\St A B C.z E (M1 n) x O C)/\h.z<=C.z/\∀k,k<B\/k=B+4\/k=B+5->C.get k=h.get k:=by
 refine aV UZ ?_;have l:NOK n:=by
  unfold ndT TOK at ht;exact⟨by rw[o];exact ht.1,λc hc=>by rw[o]at hc;cases hc⟩
 have r:∀h,cS K (.fn 138 [] []) [bU n] .no h=some (.ret (.str (bs (dN n))),.no,h):=λh=>vz (ae (wi _ _) (aH _)) (km.key n l h) (cv_ (rX _ _));obtain⟨x1,x2,x3,x4⟩:=s.hi;obtain⟨y1,y2,y3,y4⟩:=s.lo;have nd:=s.nd;obtain⟨z1,z2,z3,z4⟩:=s.us;simp only[X_,List.not_mem_nil,or_false,forall_eq_or_imp,forall_eq]at z4;simp only[List.nodup_cons,X_,List.not_mem_nil,or_false,not_or,List.nodup_nil,and_true,not_false_eq_true]at nd;obtain⟨⟨n1,n2,n3⟩,⟨n4,n5⟩,n6⟩:=nd;obtain⟨H,hH,M,nx,D⟩:=nw h (.box [i_ n.D,i_ n.X,.str n.N,.ls (n.L.map cB),.ls (n.K.map AG.bh)]);have gA:=(M.kw _ x1).trans s.gA;have gI:=(M.kw _ x2).trans s.gI;have gW:=(M.kw _ x3).trans s.gW;have gM:=(M.kw _ x4).trans s.gM;have hk:=λz=>ki (kf:=kfS) (t:=2) AG.bh nV (L:=[]) gI (dN n) z true;have ai:∀z,iq H 2 z true (.map m) (.str (bs (dN n)))=_:=hk;have y:iR H 2 (.map m) (.str (bs (dN n))) (i_ 0)=_:=lS (kf:=kfS) (t:=2) AG.bh nV (L:=[]) gI (dN n) 0;have i0:=l.nd.i0;have i1:=l.nd.i1;unfold bU at r;simp only[go_sem,bU];rw[<-hH];clear hH;simp only[go_sem,r,gA,ai,lkg,cond_true];have d0:decide ((65536:Int)<=((0:Nat):Int))=false:=by decide
 have fin:∀tm,nth tm 0=.ptr a 0 0->nth tm 3=.ptr h.z 0 0->nth tm 5=.str (bs (dN n))->nth tm 8=i_ (if n.D=0 then n.X+1 else 0)->
   R_ K [.code vK] (Fin QH λv' T=>(∃A x O,A.a=a/\St A B T.z E (M1 n) x O T)/\h.z<=T.z/\∀(k:Nat),k<B\/k=B+4\/k=B+5->T.get k=h.get k) .normal (F_ 96 tm) H:=by
  intro tm t0 I W G;rw[o,List.map_nil]at D;simp only[go_sem,vK,I,D];refine bo (λj fr C=>∃tm,fr=F_ 96 tm/\C=H/\nth tm 0=.ptr a 0 0/\nth tm 3=.ptr h.z 0 0/\nth tm 5=.str (bs (dN n))/\nth tm 8=i_ (if n.D=0 then n.X+1 else 0)/\nth tm 41=i_ ((0:Nat):Int)/\nth tm 42=i_ 0) 1 o_ ⟨_,rfl,rfl,q_ t0,q_ I,q_ W,q_ G,k_,k_⟩ ?_;clear t0 I W G tm;rintro j fr q ⟨tm,rfl,rfl,t0,I,W,G,X,ah⟩;have d1:decide ((0:Int)<((0:Nat):Int))=false:=by decide
  obtain⟨d,b⟩:∃d:AH,d=q.set m (.map (mpg kfS AG.bh (idx [n]))):=⟨_,rfl⟩;have y:iR q 2 (.map m) (.str (bs (dN n))) (i_ ((0:Nat):Int))=some d:=y.trans (by rw[b];rfl);have q1:d.z=q.z:=by rw[b,aE]
  have F:=(show d.get a=q.get a by rw[b,aA n1]).trans gA;have ac:=(show d.get h.z=q.get h.z by rw[b,aA o_]).trans D;have ad:d.get m=some (.map (mpg kfS AG.bh (idx [n]))):=by rw[b,aF]
  have af:=(show d.get u=q.get u by rw[b,aA (λe=>n4 e.symm)]).trans gW;have aa:=(show d.get w=q.get w by rw[b,aA (λe=>n5 e.symm)]).trans gM;have N:∀k,k<B\/k=B+4\/k=B+5->d.get k=h.get k:=λk hk=>(show d.get k=q.get k by rw[b,aA o_]).trans (M.kw k o_);clear b;obtain⟨V,Z,Q,o2,ak,i,_,kN,x,hV,t,_⟩:=eY (bU n) (cV d.z 5 true d);have t:=t rfl;subst hV;obtain⟨kk,gg,e1,e2,e3,e4⟩:=vP o2 (by simp);cases e1;subst t;unfold bU at Q;rw[o,AV.eI,List.map_nil]at Q;have ab:=(i a o_).trans F;obtain⟨p,g⟩:∃p:AH,p=Z.set a (.box [.row d.z x 5 0 1,E,.map m,.nl,.map u,.map w,.map U,.map S,i_ 0,i_ 0]):=⟨_,rfl⟩;have q3:p.z=Z.z:=by rw[g,aE]
  have J:p.get a=some (.box [.row d.z x 5 0 1,E,.map m,.nl,.map u,.map w,.map U,.map S,i_ 0,i_ 0]):=by rw[g,aF]
  have L:∀k,k≠a->p.get k=Z.get k:=λk hk=>by rw[g,aA hk]
  obtain⟨V2,P,eb,o4,aj,f,_,kF,O,Y,v,_⟩:=eY (AG.bh (fp (ndT n []))) (cV p.z 1 false p);have v:=v rfl;subst Y;obtain⟨kk,gg,f1,f2,f3,f4⟩:=vP o4 (by simp);cases f1;subst v;have e8:AG.bh (fp (ndT n []))=i_ (if n.D=0 then n.X+1 else 0):=by unfold ndT fp gj;rfl
  rw[e8]at eb;have ag:=(f a o_).trans J;simp only[List.length_nil,z_]at Q eb;simp only[go_sem,X,ah,d1,t0,I,W,G,gA,y,F,ac,Q,ab];rw[<-g];clear g;simp only[go_sem,eb,ag];refine⟨rfl,rfl,.inr rfl,[i_ ((0:Nat):Int)],k_,i_ ((0:Nat):Int),_,cv_ (aL _ _ _),⟨⟨a,m,d.z,p.z,u,w,U,S⟩,x,O,rfl,⟨⟨?_,?_,⟨z1,z2,by rw[aE];omega⟩⟩,?_,?_,?_,?_,?_,?_,e_ _⟩⟩,?_,?_⟩
  ·simp only[List.nodup_cons,X_,List.not_mem_nil,or_false,not_or,List.nodup_nil,and_true,not_false_eq_true];omega
  ·simp only[X_,List.not_mem_nil,or_false,aE];intro k hk;rcases hk with rfl|rfl|rfl|rfl|rfl|rfl<;>omega
  ·rw[aF];rfl
  ·show((P.set a _).get m)=_;rw[aA (λe=>n1 e.symm),f _ o_,L _ (λe=>n1 e.symm),i _ o_];exact ad
  ·show((P.set a _).get d.z)=_;rw[aA o_,f _ o_,L _ o_];exact e2
  ·show((P.set a _).get p.z)=_;rw[aA o_];exact f2
  ·show((P.set a _).get u)=_;rw[aA (λe=>n2 e.symm),f _ o_,L _ (λe=>n2 e.symm),i _ o_];exact af
  ·show((P.set a _).get w)=_;rw[aA (λe=>n3 e.symm),f _ o_,L _ (λe=>n3 e.symm),i _ o_];exact aa
  ·rw[aE];omega
  intro k hk;rw[aA o_,f _ o_,L _ o_,i _ o_];exact N k hk
 simp only[go_sem,d0,D];refine aU (λhk=>?_) (λhk=>?_)
 ·have hw:=aW (n.X+1) o_ o_;simp only[go_sem,D,hw];exact fin _ k_ k_ k_ (by simp only[go_sem,hk,if_true])
 simp only[go_sem];exact fin _ k_ k_ k_ (by simp only[go_sem,hk,if_false])
end
def Mst (a:List NV)(ts:List T):Ms:=⟨a,ts,ts.map fp,[],[],0,0⟩
def At.take {x:Int}(h:At ts x t)(a:x<p):At (ts.take p) x t:=by
 refine⟨h.1,?_⟩;have:=h.1;rw[List.getElem?_take,P_ o_];exact h.2
def Lk.takeT: ∀{l:List Int} {m:List T},Lk ts l m->(∀c∈l,c<(p:Int))->Lk (ts.take p) l m
 |[],[],_,_=>trivial
 |c::l,t::m,h,q=>⟨h.1.take (q c (by simp)),Lk.takeT h.2 λx hx=>q x (by simp[hx])⟩
def Wg.take (g:Wg (Mst d ts))(p:Nat):Wg (Mst (d.take p) (ts.take p)) where
 len:=by have:=g.len;show(ts.take p).length=(d.take p).length;rw[Y_,Y_,show ts.length=d.length from this]
 lenF:=by have:=g.len;show((ts.take p).map fp).length=(d.take p).length;rw[L_,Y_,Y_,show ts.length=d.length from this]
 most:=by have:=g.most;show(d.take p).length<=65536;rw[Y_];have:d.length<=65536:=this;omega
 node i n h:=by
  have h:(d.take p)[i]?=some n:=h;rw[List.getElem?_take]at h;by_cases hi:i<p
  ·rw[P_ hi]at h;have⟨e,a,b,c⟩:=g.node i n h;refine⟨e,?_,Lk.takeT b λx hx=>by have:=c x hx;omega,c⟩;show(ts.take p)[i]?=_;rw[List.getElem?_take,P_ hi];exact a
  rw[N_ hi]at h;cases h
 free i t h:=by
  have h:(ts.take p)[i]?=some t:=h;show((ts.take p).map fp)[i]?=_;rw[List.getElem?_map,h];rfl
 tok t h:=g.tok t (List.mem_of_mem_take h)
 nd:=g.nd.sublist (List.take_sublist p ts)
def Wg.notin (g:Wg (Mst a ts))(h:a[p]?=some n):n ∉ a.take p:=by
 intro hm;have⟨i,hi⟩:=J_ hm;rw[List.getElem?_take]at hi;by_cases q:i<p
 ·rw[P_ q]at hi;have⟨_,b,c,_⟩:=g.node i n hi;have⟨_,e,f,_⟩:=g.node p n h;have:=c.det f;subst this;have d:=(E_.1 b).1;have:=(List.getElem?_inj d g.nd).1 (b.trans e.symm);omega
 rw[N_ q]at hi;cases hi
def Ij (_g:Wg (Mst a ts))(h:a[p]?=some n)(b:ts[p]?=some t):
  Mst (a.take (p+1)) (ts.take (p+1))={Mst (a.take p) (ts.take p) with ns:=(Mst (a.take p) (ts.take p)).ns++[n],ts:=(Mst (a.take p) (ts.take p)).ts++[t],fr:=(Mst (a.take p) (ts.take p)).fr++[fp t]}:=by
 unfold Mst;simp only;rw[Z_,Z_,h,b];simp
section
variable {K:aN}{E:AV}{h:AH}
def I1059 (E:AV)(b:List NV)(ts:List T)(a:Nat)(c g:AH)(j:Nat)(d:AF)(h:AH):Prop:=∃tm p,p+j=b.length/\d=F_ 59 tm/\nth tm 5=.P a/\nth tm 17=.eN b/\nth tm 18=.I (b.length:Int)/\nth tm 19=.I (p:Int)/\
 ((p=0/\h=g)\/(0<p/\HK c h/\(h.get (c.z+4)=some (.map [])/\h.get (c.z+5)=some (.map []))/\∃A B1 f e,A.a=a/\St A c.z B1 E (Mst (b.take p) (ts.take p)) f e h))
def c1059 [RunsM K][km:KM K](g:Wg (Mst a ts))(am:0<a.length)(hE:∀h,cw E h=(E,h))(ai:E.cells=[E])(ab:E.lies=true):
  ∃o m,cS K (.fn 59 [] []) [E,.agg [.eN a]] .no h=some (o,.no,m)/\HK h m/\((∃A B1 C B,o=.ret (.P A.a)/\St A h.z B1 E (Mst a ts) C B m/\m.get (h.z+4)=some (.map [])/\m.get (h.z+5)=some (.map []))\/o=.pan pv):=by
 have hr:Rn (cS K) 59:=lW;have al:a.length<=65536:=g.most;have ah:=hr [] _ _ .no h _ _ _ _ (λo rc m=>rc=.no/\HK h m/\((∃A B1 C B,o=.ret (.P A.a)/\St A h.z B1 E (Mst a ts) C B m/\m.get (h.z+4)=some (.map [])/\m.get (h.z+5)=some (.map []))\/o=.pan pv)) afB (ae (hE h) (ae (nL a h) (aH _))) (by
  simp only[A_];obtain⟨H,s⟩:∃H:AH,H=(((((((h.new (.box [.eN a])).new (.map [])).new (.map [])).new (.map [])).new (.map [])).new (.map [])).new (.box [.nl,E,.map (h.z+1),.nl,.map (h.z+1+1),.map (h.z+1+1+1),.map (h.z+1+1+1+1),.map (h.z+1+1+1+1+1),.I 0,.I 0])):=⟨_,rfl⟩;have k0:HK h H:=by rw[s];exact((((((HK.new _ _).add _).add _).add _).add _).add _).add _
  have n0:H.z=h.z+7:=by rw[s];simp only[aB]
  have g3:H.get h.z=some (.box [.eN a]):=by
   rw[s,aM (by simp only[aB];omega),aM (by simp only[aB];omega),aM (by simp only[aB];omega),aM (by simp only[aB];omega),aM (by simp only[aB];omega),aM (by simp only[aB];omega),aD]
  have gA:H.get (h.z+6)=some (.box [.nl,E,.map (h.z+1),.nl,.map (h.z+1+1),.map (h.z+1+1+1),.map (h.z+1+1+1+1),.map (h.z+1+1+1+1+1),.I 0,.I 0]):=by
   rw[s];have:h.z+6=((((((h.new (.box [.eN a])).new (.map [])).new (.map [])).new (.map [])).new (.map [])).new (.map [])).z:=by simp only[aB]
   rw[this,aD]
  have gI:H.get (h.z+1)=some (.map []):=by
   rw[s,aM (by simp only[aB];omega),aM (by simp only[aB];omega),aM (by simp only[aB];omega),aM (by simp only[aB];omega),aM (by simp only[aB];omega)];have:h.z+1=(h.new (.box [.eN a])).z:=by simp only[aB]
   rw[this,aD]
  have gW:H.get (h.z+1+1)=some (.map []):=by
   rw[s,aM (by simp only[aB];omega),aM (by simp only[aB];omega),aM (by simp only[aB];omega),aM (by simp only[aB];omega)];have:h.z+1+1=((h.new (.box [.eN a])).new (.map [])).z:=by simp only[aB]
   rw[this,aD]
  have gM:H.get (h.z+1+1+1)=some (.map []):=by
   rw[s,aM (by simp only[aB];omega),aM (by simp only[aB];omega),aM (by simp only[aB];omega)];have:h.z+1+1+1=(((h.new (.box [.eN a])).new (.map [])).new (.map [])).z:=by simp only[aB]
   rw[this,aD]
  have gU:H.get (h.z+4)=some (.map []):=by
   rw[s,aM (by simp only[aB];omega),aM (by simp only[aB];omega)];have:h.z+4=((((h.new (.box [.eN a])).new (.map [])).new (.map [])).new (.map [])).z:=by simp only[aB]
   rw[this,aD]
  have gS:H.get (h.z+5)=some (.map []):=by
   rw[s,aM (by simp only[aB];omega)];have:h.z+5=(((((h.new (.box [.eN a])).new (.map [])).new (.map [])).new (.map [])).new (.map [])).z:=by simp only[aB]
   rw[this,aD]
  have s0:S0 h.z (h.z+6) (h.z+1) (h.z+1+1) (h.z+1+1+1) (h.z+1+1+1+1) (h.z+1+1+1+1+1) E H:=
   ⟨gA,gI,gW,gM,by simp only[List.nodup_cons,X_,List.not_mem_nil,or_false,not_or,List.nodup_nil,and_true,not_false_eq_true];omega,o_,⟨o_,o_,o_,by simp only[X_,List.not_mem_nil,or_false,forall_eq_or_imp,forall_eq];omega⟩,o_⟩
  simp only[go_sem,aB,ai,ab];rw[<-s];clear s;simp only[go_sem,g3];refine bo (I1059 E a ts (h.z+6) h H) a.length o_ ⟨_,0,z_ _,rfl,k_,k_,k_,by simp only[go_sem];rfl,.inl ⟨rfl,rfl⟩⟩ ?_;rintro j fr H2 ⟨tm,p,hp,rfl,X,D,F,w,O⟩;simp only[go_sem,F,w];refine aU (λU=>?_) (λan=>?_)
  ·have U:p<a.length:=o_;have b:=a_ U;have Y:=aR encN_len b .i64;have hw:=aP p o_;obtain⟨u,S,lk,lt⟩:=g.node p _ b;have y:=g.tok _ (m_ S);revert b Y lk lt S y;generalize a[p]=n;intro b Y S lk lt y;have M:bU n=.agg (n_ n):=rfl;obtain⟨H3,R,d,_,g7⟩:=ns H2 (.box zT) (.box (n_ n));simp only[go_sem,D,w,Y,M];rw[<-R];clear R;simp only[go_sem,X];rw[<-M];have aa:∀x:Nat×Nat,True:=λ_=>trivial;rcases O with⟨rfl,rfl⟩|⟨L,f,V,A,B1,C,B,I,st⟩
   ·have N:n.K=[]:=by
     cases Q:n.K with
     |nil=>rfl
     |cons c l=>
      have h1:=lt c (by rw[Q];simp);rw[Q]at lk
      match u,lk with
      |t::_,lk=>have:=lk.1.1;omega
    have J:u=[]:=by
     rw[N]at lk;cases u with
     |nil=>rfl
     |cons _ _=>exact lk.elim
    subst J;have s3:S0 h.z (h.z+6) (h.z+1) (h.z+1+1) (h.z+1+1+1) (h.z+1+1+1+1) (h.z+1+1+1+1+1) E H3:=by
     obtain⟨a1,a2,a3,a4,a5,a6,G,a7,a8,a9,ag⟩:=s0;exact⟨(d.kw _ a7).trans a1,(d.kw _ a8).trans a2,(d.kw _ a9).trans a3,(d.kw _ ag).trans a4,a5,a6,⟨G.1,G.2.1,by have:=d.z;omega,G.2.2.2⟩,by have:=d.z;omega⟩
    obtain⟨v,H4,P,⟨A,C,B,I,st⟩,ao,i⟩:=agc s3 n N y;have ak:Mst (a.take (0+1)) (ts.take (0+1))=M1 n:=by
     rw[Ij g b S];rfl
    simp only[go_sem,P,w,hw];refine⟨j-1,o_,_,1,o_,rfl,q_ X,q_ D,q_ F,k_,.inr ⟨o_,⟨by have:=d.z;omega,λk hk=>(i k (.inl hk)).trans ((d.kw k o_).trans (k0.kw k hk))⟩,⟨(i _ o_).trans ((d.kw _ o_).trans gU),(i _ o_).trans ((d.kw _ o_).trans gS)⟩,A,H4.z,C,B,I,by rw[show Mst (a.take 1) (ts.take 1)=M1 n from ak];exact st⟩⟩
   have gp:=g.take p;have ad:=Lk.takeT lk lt;obtain⟨o4,H4,P,z,q4⟩:=Vs (st.hk d) gp n u ad y;rw[I]at P;have i:HK h H4:=⟨by have:=z.z;have:=d.z;have:=f.z;omega,λk hk=>(z.kw k (by have:=d.z;have:=f.z;omega) (.inl hk)).trans ((d.kw k (by have:=f.z;omega)).trans (f.kw k hk))⟩;rcases q4 with⟨v,rfl,M',af,ac,Z,g',aq,ap,W,r,rfl,ar⟩|rfl
   ·have W:=W (g.notin b);rw[<-Ij g b S]at W;subst W;simp only[go_sem,P,w,hw];exact⟨j-1,o_,_,p+1,o_,rfl,q_ X,q_ D,q_ F,k_,.inr ⟨o_,i,⟨(z.kw _ (by have:=d.z;have:=st.b1;have:=st.ok.us;omega) o_).trans ((d.kw _ (by have:=st.b1;have:=st.ok.us;omega)).trans V.1),(z.kw _ (by have:=d.z;have:=st.b1;have:=st.ok.us;omega) o_).trans ((d.kw _ (by have:=st.b1;have:=st.ok.us;omega)).trans V.2)⟩,A,B1,af,ac,I,Z⟩⟩
   simp only[go_sem,P];exact jE ⟨rfl,i,.inr rfl⟩
  have aj:p=a.length:=o_;subst aj;rcases O with⟨h0,_⟩|⟨L,f,V,A,B1,C,B,I,st⟩
  ·omega
  rw[K_,l_ (show ts.length<=a.length from Nat.le_of_eq g.len)]at st;simp only[go_sem,X];exact jl (.inr rfl) (vs:=[.P (h.z+6)]) k_ ⟨_,_,qM (by intro l e;cases e) (bS _ _ _ _),rfl,f,.inl ⟨A,B1,C,B,by rw[I],st,V⟩⟩)
 obtain⟨o,rc,m,e,rfl,q⟩:=ah;exact⟨o,m,e,q⟩
end
def Wg.std {M:Ms}(g:Wg M):Wg (Mst M.ns M.ts) where
 len:=g.len
 lenF:=by show(M.ts.map fp).length=_;rw[L_];exact g.len
 most:=g.most
 node:=g.node
 free i t h:=by
  have h:M.ts[i]?=some t:=h;show(M.ts.map fp)[i]?=_;rw[List.getElem?_map,h];rfl
 tok:=g.tok
 nd:=g.nd
def mem0 {C:MK.Cx}(b:List NV)(ts:List T):Mem C (Mst b ts):=⟨λe a=>(by cases a),λe a=>(by cases a)⟩
def ct0 (a:List NV)(ts:List T):Ct (Mst a ts):=⟨by show(0:Int)<=0;omega,by show(0:Int)<=4000000;omega,by show(0:Int)<=0;omega,by show(0:Int)<=20000;omega⟩
def TQ {H:AH}{a g:Nat}{ns:List NV}(hk:H.get a=some (.row g 5 true (bJ (ns.map bU)) 0))(c:a<H.z):
  ∃b,cw (.agg [.row a g 5 0 ns.length]) H=(.agg [.eN ns],b)/\b.z=H.z/\∀j,j≠a->b.get j=H.get j:=by
 have o:Own 0 5 true H (.row a g 5 0 ns.length) (ns.map bU):=⟨λx hx=>by obtain⟨_,_,rfl⟩:=List.mem_map.1 hx;exact⟨rfl,rfl⟩,.inr ⟨a,g,by rw[L_],hk,c,Nat.zero_le _⟩⟩;rcases iT o (λe=>by cases e) with⟨e,_,_⟩|⟨k,l,d,i,_,_⟩
 ·cases e
 rw[L_]at d;cases d;refine⟨H.set a (.row g 5 true (bJ (ns.map bU)) ((ns.map bU).length*5)),?_,aE _ _ _,λj h=>aA h⟩;show((AV.agg (cL _ H).1).norm,(cL _ H).2)=_;have f:cL [.row a g 5 0 ns.length] H=([.eN ns],H.set a (.row g 5 true (bJ (ns.map bU)) ((ns.map bU).length*5))):=by
  show((dM (.row a g 5 0 ns.length) H).1 :: [],(dM (.row a g 5 0 ns.length) H).2)=_;rw[i]
 rw[f];simp[AV.norm,AV.norms,bB ph]
section
variable {K:aN}{env:List DV}{h:AH}
def xW (h:AH):cw (.agg [.nl]) h=(.agg [.ls []],h):=by
 rw[bQ (by simp[AV.free,AV.frees])];simp[AV.norm,AV.norms]
def Cq (K:aN)(E:AV)(h:List NV)(ts:List T)(c:AH)(O:Nat->Prop)(f:AV)(Q:Ms->Int->AH->Prop):Prop:=∀(A:Ma) (B g j i:Nat) (H:AH),c.z<=B->(∀k,k<c.z->H.get k=c.get k)->St A B g E (Mst h ts) j i H->H.get (B+4)=some (.map [])->H.get (B+5)=some (.map [])->
 ∃o a,cS K f [.P A.a] .no H=some (o,.no,a)/\H.z<=a.z/\(∀k,k<B->¬O k->a.get k=H.get k)/\((∃v,o=.ret v/\∃r b d e,v=.I r/\St A B g E b d e a/\Wg b/\Le (Mst h ts) b/\Q b r a)\/o=.pan pv/\∀k,k<B->a.get k=H.get k)
def agW (c:List NV)(x:Int)(Q:Ms->Int->AH->Prop)(h:AH)(v:AV)(b:AH):Prop:=
 (¬(0<=x/\x<(c.length:Int))/\v=.tup [.agg [.ls []],.I 0,.I 2]/\HK h b)\/
 (v=.tup [.agg [.ls []],.I 0,.I 11]/\HK h b)\/
 ∃a r,v=.tup [.agg [.eN a.ns],.I r,.I 0]/\Wg (Mst a.ns a.ts)/\(∃l,a.ns=c++l)/\Q a r b
def c1029 [RunsM K][km:KM K]{c:List NV}(g:Wg (Mst c ts))(x:Int){O:Nat->Prop}(hO:∀k,O k->k<h.z){fid:Nat}{caps:List AV}(Y:∀h,cw (.fn fid [] caps) h=(.fn fid [] caps,h)){Q:Ms->Int->AH->Prop}(hQ:∀M r h3 f,(∀k,k<h.z->f.get k=h3.get k)->Q M r h3->Q M r f)
  (cq:0<=x/\x<(c.length:Int)->Cq K (.eD env) c ts h O (.fn fid [] caps) Q) :
  Rt K (29) [.eD env,.agg [.eN c],.I x,.fn fid [] caps] h λv f=>(h.z<=f.z/\∀k,k<h.z->¬O k->f.get k=h.get k)/\agW c x Q h v f:=by
 have hr:Rn (cS K) 29:=lW;have L:=g.most;have ag:=hr [] _ _ .no h _ _ _ _ (λo Z f=>Z=.no/\(h.z<=f.z/\∀k,k<h.z->¬O k->f.get k=h.get k)/\∃v,o=.ret v/\agW c x Q h v f) afT (ae (uT env h) (ae (nL c h) (ae (aL .i64 x h) (ae (Y h) (aH _))))) (by
  simp only[A_];have⟨H,B⟩:∃H:AH,H=(((h.new (.box [.eN c])).new (.box [.nl])).new (.box [.I 0])).new (.box [.I 0]):=⟨_,rfl⟩;have k0:HK h H:=by rw[B];exact(((HK.new _ _).add _).add _).add _
  have n0:H.z=h.z+4:=by rw[B];simp only[aB]
  have g5:H.get h.z=some (.box [.eN c]):=by rw[B,aM (by simp only[aB];omega),aM (by simp only[aB];omega),aM (by simp only[aB];omega),aD]
  have g8:H.get (h.z+1)=some (.box [.nl]):=by
   rw[B,aM (by simp only[aB];omega),aM (by simp only[aB];omega)];have:h.z+1=(h.new (.box [.eN c])).z:=by simp only[aB]
   rw[this,aD]
  have g9:H.get (h.z+1+1)=some (.box [.I 0]):=by
   rw[B,aM (by simp only[aB];omega)];have:h.z+1+1=((h.new (.box [.eN c])).new (.box [.nl])).z:=by simp only[aB]
   rw[this,aD]
  have ad:H.get (h.z+1+1+1)=some (.box [.I 0]):=by
   rw[B];have:h.z+1+1+1=(((h.new (.box [.eN c])).new (.box [.nl])).new (.box [.I 0])).z:=by simp only[aB]
   rw[this,aD]
  obtain⟨v,P,e1,rfl,G⟩:=c1056 (h:=H) (gs:=c) x L;rw[<-dJ (f:=56) (c:=[]) (ae (nL c H) (ae (mC x H) (aH _))) (ae (nL _ _) (ae (eQ _ _) (aH _)))]at e1;have aq:=G.z;have S:=G.up g5;have D:=G.up g8;have F:=G.up g9;have l:=G.up ad;have i:=k0.trans G;have J:¬h.z+1=h.z+1+1:=o_;have I:¬h.z+1=h.z+1+1+1:=o_;have c3:¬h.z+1+1=h.z+1+1+1:=o_;have u:¬h.z+1+1=h.z+1:=o_;have y:¬h.z+1+1+1=h.z+1:=o_;have s:¬h.z+1+1+1=h.z+1+1:=o_;simp only[go_sem,aB];rw[<-B];clear B;simp only[go_sem,g5,e1];by_cases j:0<=x/\x<(c.length:Int)
  ·have hd:=T_ j;have hx:(Mst c ts).ts[x.toNat]?=some (ts[x.toNat]'(by have:=g.len;have:ts.length=c.length:=this;omega)):=a_ _;generalize (ts[x.toNat]'(by have:=g.len;have:ts.length=c.length:=this;omega))=t at hx;have ax:At (Mst c ts).ts x t:=⟨j.1,hx⟩;have C:∀(tm:Tm) (H':AH),nth tm 8=.P (h.z+1)->nth tm 9=.P (h.z+1+1)->nth tm 10=.P (h.z+1+1+1)->HK P H'->
     XQ (cS K) Fq (mD λo Z f=>Z=RC.no/\(h.z<=f.z/\∀k,k<h.z->¬O k->f.get k=h.get k)/\∃v,o=ep.ret v/\agW c x Q h v f) (.panic pv) ⟨tm,⟨[.call (.fn 57 [] [.P (h.z+1),.P (h.z+1+1),.P (h.z+1+1+1)]) []],.no,none,29⟩⟩ H':=by
    intro tm H' t8 t9 aa k;have q8:=k.up D;have q9:=k.up F;have ai:=k.up l;have ed:=agi (h.z+1) (h.z+1+1) (h.z+1+1+1) q8 q9 ai J I c3;have E:=(((i.trans k).set (.box [.nl]) (j:=h.z+1) o_).set (.box [.I 0]) (j:=h.z+1+1) o_).set (.box [.I 11]) (j:=h.z+1+1+1) o_;refine Vz (vs:=[.agg [.nl],.I 0,.I 11]) ed ?_ ⟨_,_,bF (ae (xW _) (ae (aL _ _ _) (ae (aL _ _ _) (aH _)))),rfl,⟨E.z,λk a _=>E.kw k a⟩,_,rfl,.inr (.inl ⟨rfl,E⟩)⟩;simp only[go_sem,Fq,t8,t9,aa,J,I,c3]
   have⟨_,H2,e2,W,q2⟩:=c1059 (E:=.eD env) (h:=P) g o_ (λh=>uT env h) rfl rfl;rcases q2 with⟨A,B1,gN,gF,rfl,st,N⟩|rfl
   ·have⟨_,R,e3,_,ak,q3⟩:=cq j A P.z B1 gN gF H2 i.z (λk hk=>W.up (i.kw k hk)) st N.1 N.2;have ap:=W.z;have p:∀k,k<P.z->¬O k->R.get k=P.get k:=λk a b=>(ak k a b).trans (W.kw k a);simp only[go_sem,hd,S,e2];rcases q3 with⟨v,rfl,r,V,m,ao,rfl,n,g3,ah,qq⟩|⟨rfl,U⟩
    ·have rng:=n.ok.rng;have al:=i.z;have an:=n.b1;have af:=(p (h.z+1+1) o_ (λw=>by have:=hO _ w;omega)).trans F;have ab:=(p (h.z+1) o_ (λw=>by have:=hO _ w;omega)).trans D;have X:=(p (h.z+1+1+1) o_ (λw=>by have:=hO _ w;omega)).trans l;have gA:=n.gA;have aj:=n.gN;unfold kj at gA;have a1:¬A.a=h.z+1+1:=o_;have a2:¬A.a=h.z+1:=o_;simp only[go_sem,e3,af,gA,a1,ab,X,J,c3,u,y,s];have⟨z,d⟩:∃z:AH,z=(((R.set (h.z+1+1) (.box [.I r])).set (h.z+1) (.box [.row A.kN m 5 0 V.ns.length])).set (h.z+1+1) (.box [.I r])).set (h.z+1+1+1) (.box [.I 0]):=⟨_,rfl⟩;have r8:z.get (h.z+1)=some (.box [.row A.kN m 5 0 V.ns.length]):=by rw[d,aA I,aA J,aF]
     have r9:z.get (h.z+1+1)=some (.box [.I r]):=by rw[d,aA c3,aF]
     have ac:z.get (h.z+1+1+1)=some (.box [.I 0]):=by rw[d,aF]
     have rN:z.get A.kN=some (.row m 5 true (bJ (V.ns.map bU)) 0):=by
      rw[d,aA o_,aA o_,aA o_,aA o_];exact aj
     have n4:z.z=R.z:=by rw[d];simp only[aE]
     have o4:∀k,k<h.z->z.get k=R.get k:=λk hk=>by rw[d,aA o_,aA o_,aA o_,aA o_]
     rw[<-d];clear d;have⟨_,ec,_,o5⟩:=TQ rN o_;refine VA (.inr rfl) (agh _ _ _) (vs:=[.agg [.row A.kN m 5 0 V.ns.length],.I r,.I 0]) ?_ ⟨_,_,bF (ae ec (ae (aL _ _ _) (ae (aL _ _ _) (aH _)))),rfl,⟨o_,λk hk hn=>(o5 k o_).trans ((o4 k hk).trans ((p k o_ hn).trans (i.kw k hk)))⟩,_,rfl,.inr (.inr ⟨V,r,rfl,g3.std,ah.ns,hQ _ _ _ _ (λk hk=>(o5 k o_).trans (o4 k hk)) qq⟩)⟩;simp only[go_sem,r8,r9,ac]
    simp only[go_sem,e3];exact C _ R k_ k_ k_ ⟨o_,λk hk=>(U k hk).trans (W.kw k hk)⟩
   simp only[go_sem,hd,S,e2];exact C _ H2 k_ k_ k_ W
  have hd:=D_ j;have E:=((i.set (.box [.nl]) (j:=h.z+1) o_).set (.box [.I 0]) (j:=h.z+1+1) o_).set (.box [.I 2]) (j:=h.z+1+1+1) o_;simp only[go_sem,hd,D,F,l,u,y,s];refine jl (.inr rfl) (vs:=[.agg [.nl],.I 0,.I 2]) ?_ ⟨_,_,bF (ae (xW _) (ae (aL _ _ _) (ae (aL _ _ _) (aH _)))),rfl,⟨E.z,λk a _=>E.kw k a⟩,_,rfl,.inl ⟨j,rfl,E⟩⟩;simp only[go_sem,J,I,c3])
 obtain⟨_,_,f,e,rfl,k,v,rfl,q⟩:=ag;exact⟨v,f,e,k,q⟩
end
section
variable {K:aN}{h:AH}
def c116 [RunsM K](k:Int):cS K (.fn 164 [] []) [.I k] .no h=some (.ret (.I (cN k)),.no,h):=by
 obtain⟨v,a,e,rfl,rfl⟩:=aV (a:=[.I k]) (h:=h) (P:=λv a=>v=.I (cN k)/\a=h) cf116 (by
  repeat' (first|simp only[go_sem, *]|refine pC (λ_=>?_) λ_=>?_|refine qE (λ_=>?_) λ_=>?_|refine pD (λ_=>?_) λ_=>?_|refine tn (λ_=>?_) λ_=>?_|refine pH (λ_=>?_) λ_=>?_|refine tG (λ_=>?_) λ_=>?_)
  all_goals (refine⟨by rfl,by rfl,.inr rfl,[_],y_,_,_,cv_ (aL _ _ _),?_,rfl⟩;simp_all [cN]))
 exact e
def c72 [RunsM K](k j:Int):cS K (.fn 128 [] []) [.I k,.I j] .no h=some (.ret (.I (bK k j)),.no,h):=by
 obtain⟨v,a,e,rfl,rfl⟩:=aV (a:=[.I k,.I j]) (h:=h) (P:=λv a=>v=.I (bK k j)/\a=h) cf72 (by
  repeat' (first|simp only[go_sem, *]|refine pC (λ_=>?_) λ_=>?_|refine qE (λ_=>?_) λ_=>?_|refine pD (λ_=>?_) λ_=>?_|refine tn (λ_=>?_) λ_=>?_|refine pH (λ_=>?_) λ_=>?_|refine tG (λ_=>?_) λ_=>?_)
  all_goals (refine⟨by rfl,by rfl,.inr rfl,[_],y_,_,_,cv_ (aL _ _ _),?_,rfl⟩;simp_all [bK]))
 exact e
def c117 [RunsM K](c:Int):cS K (.fn 165 [] []) [.int .u8 c] .no h=some (.ret (.bool (pN c)),.no,h):=by
 obtain⟨v,a,e,rfl,rfl⟩:=aV (a:=[.int .u8 c]) (h:=h) (P:=λv a=>v=.bool (pN c)/\a=h) cf117 (by
  repeat' (first|simp only[go_sem, *]|refine pC (λ_=>?_) λ_=>?_|refine qE (λ_=>?_) λ_=>?_|refine pD (λ_=>?_) λ_=>?_|refine tn (λ_=>?_) λ_=>?_|refine pH (λ_=>?_) λ_=>?_|refine tG (λ_=>?_) λ_=>?_)
  all_goals (refine⟨by rfl,by rfl,.inr rfl,[_],y_,_,_,cv_ (bp _ _),?_,rfl⟩;first|(simp_all [pN];done)|(simp_all [pN];omega)))
 exact e
structure PreV (l:LL)(p:Nat):Prop where
 rng:∀(i:Nat) x,i<p->l.V[i]?=some x->Rng x
 ord:∀(i:Nat) x y,i+1<p->l.V[i]?=some x->l.V[i+1]?=some y->x.X<y.X
 cov:0<l.c->∀(i:Nat) x,i<p->l.V[i]?=some x->x.P<l.c
def I21 (l:LL)(b:Nat)(c:AH)(j:Nat)(a:AF)(h:AH):Prop:=∃tm p,p+j=l.V.length/\a=F_ 163 tm/\HK c h/\b<h.z/\h.get b=some (.box [.I l.c,.eV l.V])/\
  nth tm 1=.P b/\nth tm 3=.I (p:Int)/\PreV l p
def c21 [RunsM K](l:LL)(hl:l.V.length<10000000):
  Ret K (163) [cB l] h λv _=>∃b,v=.bool b/\(b=true<->VL l):=by
 refine aV cf21 ?_;have⟨H,hH,S,_,N⟩:=nw h (.box [.I l.c,.eV l.V]);have no:∀(tm:Tm) (T:AH),HK h T->¬VL l->nth tm 2=.bool false->Fin r21 (λY Z=>(∃b,Y=.bool b/\(b=true<->VL l))/\HK h Z) .ret (F_ 163 tm) T:=by
  intro tm T hk g t2;exact Fr ⟨⟨false,rfl,by simp[g]⟩,hk⟩
 simp only[go_sem];rw[<-hH];clear hH;by_cases hc:l.c<0\/l.c > 100
 ·have g:¬VL l:=λv=>by have:=v.c0;have:=v.c1;omega
  by_cases h1:l.c<0
  ·have B:=T_ h1;simp only[go_sem,B];exact no _ H S g k_
  have B:=D_ h1;have Q:decide (l.c > 100)=true:=t_;simp only[go_sem,N,B,Q];exact no _ H S g k_
 have B:decide (l.c<0)=false:=d_;have Q:decide (l.c > 100)=false:=d_;simp only[go_sem,N,B,Q];refine bo (I21 l h.z h) l.V.length o_ ⟨_,0,z_ _,rfl,S,o_,N,k_,y_,⟨o_,o_,o_⟩⟩ ?_;rintro j fr H2 ⟨tm,p,hp,rfl,D,U,w,f,n,pre⟩;simp only[go_sem,f,n,w];refine aU (λI=>?_) (λaa=>?_)
 ·have I:p<l.V.length:=o_;have a:=a_ I;have hw:=aP p o_;have⟨z,G,k3,_,m⟩:=ns H2 (.box [.I 0,.I 0]) (.box [.I l.V[p].X,.I l.V[p].P]);have d:=(k3.kw _ U).trans w;have g:cQ l.V[p]=.agg [.I l.V[p].X,.I l.V[p].P]:=rfl;simp only[go_sem,f,n,w,a,g];rw[<-G];clear G;have c:=D.trans k3;by_cases hr:Rng l.V[p]
  ·have⟨r1,r2,r3,r4⟩:=hr;have t:decide (l.V[p].X < -65536)=false:=d_;have u:decide (l.V[p].X>=8)=false:=d_;have A:decide (l.V[p].P<0)=false:=d_;have F:decide (l.V[p].P > 100)=false:=d_;have fin:∀(k:Tm),nth k 1=.P h.z->nth k 3=.I (p:Int)->nth k 4=.P H2.z->(∀(i:Nat) x y,i+1<p+1->l.V[i]?=some x->l.V[i+1]?=some y->x.X<y.X)->
     R_ K [.code JC,.out 1,.code (.region [⟨some 18,.mv (.t 3),none⟩,⟨some 19,.bin .add .num (.t 18) (.c (.I 1)),none⟩,⟨some 3,.mv (.t 19),none⟩])] (LQ (cS K) 1000000000000 (I21 l h.z h) j [.out 0,.code VO] (Fin r21 λY Z=>(∃b,Y=.bool b/\(b=true<->VL l))/\HK h Z)) .normal (F_ 163 k) z:=by
    intro k f n V ho;have nxt:(0<l.c->l.V[p].P<l.c)->PreV l (p+1):=λr=>⟨λi x hi hx=>by
      by_cases q:i=p
      ·subst q;rw[a]at hx;cases hx;exact⟨r1,r2,r3,r4⟩
      ·exact pre.rng i x o_ hx,ho,λJ i x hi hx=>by
      by_cases q:i=p
      ·subst q;rw[a]at hx;cases hx;exact r J
      exact pre.cov J i x o_ hx⟩
    by_cases o:l.c > 0
    ·have L:=T_ o;by_cases r:l.V[p].P>=l.c
     ·have P:=T_ r;simp only[go_sem,JC,f,V,d,m,L,P];exact no _ z c (λv=>by have:=v.cov o p _ a;omega) k_
     have P:=D_ r;simp only[go_sem,JC,f,V,d,m,L,P,n,hw];exact⟨j-1,o_,_,p+1,o_,rfl,c,o_,d,q_ f,k_,nxt λ_=>by omega⟩
    have L:=D_ o;simp only[go_sem,JC,f,d,L,n,hw];exact⟨j-1,o_,_,p+1,o_,rfl,c,o_,d,q_ f,k_,nxt λh=>absurd h o⟩
   cases p with
   |zero=>
    have M:decide (((0:Nat):Int) > 0)=false:=by simp
    simp only[go_sem,m,t,u,A,F,n,M];exact fin _ (q_ f) (q_ n) k_ (λi x y hi=>by omega)
   |succ q=>
    have s:l.V[q]?=some l.V[q]:=a_ o_;have E:cQ l.V[q]=.agg [.I l.V[q].X,.I l.V[q].P]:=rfl;have C:IntKind.wrap .i64 (((q+1:Nat):Int)-1)=(q:Int):=by rw[aW _ o_ o_];omega
    have M:decide (((q+1:Nat):Int) > 0)=true:=t_;by_cases ho:l.V[q].X>=l.V[q+1].X
    ·have W:=T_ ho;simp only[go_sem,m,d,f,t,u,A,F,n,M,C,s,E,W];exact no _ z c (λv=>by have:=v.ord q _ _ s a;omega) k_
    have W:=D_ ho;simp only[go_sem,m,d,f,t,u,A,F,n,M,C,s,E,W];refine fin _ (q_ f) (q_ n) k_ (λi x y hi hx O=>?_);by_cases qi:i=q
    ·subst qi;rw[s]at hx;rw[a]at O;cases hx;cases O;omega
    exact pre.ord i x y o_ hx O
  have g:¬VL l:=λv=>hr (v.rng p _ a);by_cases q1:l.V[p].X < -65536
  ·have t:=T_ q1;simp only[go_sem,t];exact no _ z c g k_
  have t:=D_ q1;by_cases q2:l.V[p].X>=8
  ·have u:=T_ q2;simp only[go_sem,m,t,u];exact no _ z c g k_
  have u:=D_ q2;by_cases q3:l.V[p].P<0
  ·have A:=T_ q3;simp only[go_sem,m,t,u,A];exact no _ z c g k_
  have A:=D_ q3;have F:decide (l.V[p].P > 100)=true:=T_ (by unfold Rng at hr;omega);simp only[go_sem,m,t,u,A,F];exact no _ z c g k_
 have X:p=l.V.length:=o_;subst X;simp only[go_sem,VO];have lt:∀{i:Nat} {x},l.V[i]?=some x->i<l.V.length:=λe=>(E_.1 e).1;have vl:VL l:=⟨o_,o_,λi x e=>pre.rng i x (lt e) e,λi x y e e'=>pre.ord i x y (lt e') e e',λJ i x e=>pre.cov J i x (lt e) e⟩;exact Fr ⟨⟨true,rfl,by simp[vl]⟩,D⟩
end
def xS (s:ByteArray):Prop:=(∀c∈s.data.toList,wb c)/\s.size<=64
def SO {c:UInt8}(h:pN (c.toNat:Int)=true\/(c.toNat:Int)=46\/(c.toNat:Int)=39\/(48<=(c.toNat:Int)/\(c.toNat:Int)<=57)):wb c:=by
 rcases h with h|h|h|h
 ·exact .inl h
 ·exact .inr (.inl (UInt8.toNat_inj.1 (by show c.toNat=46;omega)))
 ·exact .inr (.inr (.inl (UInt8.toNat_inj.1 (by show c.toNat=39;omega))))
 refine .inr (.inr (.inr ⟨?_,?_⟩))
 ·rw[UInt8.le_iff_toNat_le];show 48<=c.toNat;omega
 rw[UInt8.le_iff_toNat_le];show c.toNat<=57;omega
def NL (s:ByteArray)(m:Nat)(hm:m<s.data.toList.length):vg (.str s) (.I (m:Int))=some (.int .u8 ((s.data.toList[m]'hm).toNat:Int)):=by
 show aI (xF m s.data.toList) _=_;rw[jQ,a_ hm];rfl
section
variable {K:aN}{h:AH}
def isNm (s:ByteArray)(a:AH)(v:AV)(c:AH):Prop:=(∃b,v=.bool b/\(b=true->xS s))/\c=a
def I70 (s:ByteArray)(d:AH)(j:Nat)(a:AF)(h:AH):Prop:=∃tm m b,m+j=s.size/\a=F_ 126 tm/\h=d/\nth tm 0=.str s/\nth tm 3=.bool b/\nth tm 4=.I (m:Int)/\∀(i:Nat) c,i<m->s.data.toList[i]?=some c->wb c
def c70 [RunsM K](s:ByteArray)(hs:s.size<10000000):
  Rt K (126) [.str s] h λv Q=>isNm s h v Q:=by
 refine aV cf70 ?_;have no:∀(tm:Tm),nth tm 2=.bool false->Fin r70 (λJ I=>isNm s h J I) .ret (F_ 126 tm) h:=by
  intro tm S;exact Fr ⟨⟨false,rfl,by simp⟩,rfl⟩
 have z:=λc h=>c117 (h:=h) c;by_cases u:(s==bs [])=true
 ·simp only[go_sem,u];exact no _ k_
 have u:(s==bs [])=false:=by simpa using u
 by_cases G:(s.size:Int) > 64
 ·have C:=T_ G;simp only[go_sem,u,C];exact no _ k_
 have C:=D_ G;simp only[go_sem,u,C];refine bo (I70 s h) s.size o_ ⟨_,0,true,z_ _,rfl,rfl,k_,k_,y_,λi c hi=>by omega⟩ ?_;rintro j U H ⟨tm,p,b,T,rfl,rfl,t0,o,l,g⟩;simp only[go_sem,t0,l];refine aU (λn=>?_) (λN=>?_)
 ·have n:p<s.data.toList.length:=by
   have:s.data.toList.length=s.size:=by simp
   omega
  have B:=NL s p n;have d:=a_ n;have t:=aP p o_;revert B d;generalize s.data.toList[p]=c;intro B d;have nxt:∀(a:Tm) (A:Bool),nth a 0=.str s->nth a 3=.bool A->nth a 4=.I ((p+1:Nat):Int)->(pN (c.toNat:Int)=true\/(c.toNat:Int)=46\/(c.toNat:Int)=39\/(48<=(c.toNat:Int)/\(c.toNat:Int)<=57))->
    ∃F,F<j/\I70 s H F (F_ 126 a) H:=λa A M O P R=>⟨j-1,o_,a,p+1,A,o_,rfl,rfl,M,O,P,λi x hi hx=>by
     by_cases q:i=p
     ·subst q;rw[d]at hx;cases hx;exact SO R
     exact g i x o_ hx⟩
  simp only[go_sem,t0,l,B,o];cases b with
  |true=>
   simp only[go_sem,z];cases D:pN (c.toNat:Int) with
   |true=>
    simp only[go_sem,l,t];exact nxt _ false (q_ t0) k_ k_ (.inl D)
   |false=>
    simp only[go_sem];exact no _ k_
  |false=>
   simp only[go_sem];refine aU (λr=>?_) (λr=>?_)
   ·simp only[go_sem,l,t];exact nxt _ true (q_ t0) k_ k_ (.inr (.inl r))
   simp only[go_sem,z];cases D:pN (c.toNat:Int) with
   |true=>
    simp only[go_sem,l,t];exact nxt _ false (q_ t0) (q_ o) k_ (.inl D)
   |false=>
    by_cases k:(c.toNat:Int)=39
    ·have e:=T_ k;simp only[go_sem,e,l,t];exact nxt _ false (q_ t0) (q_ o) k_ (.inr (.inr (.inl k)))
    have e:=D_ k;by_cases y:(c.toNat:Int)<48
    ·have f:=T_ y;simp only[go_sem,e,f];exact no _ k_
    have f:=D_ y;by_cases w:(c.toNat:Int) > 57
    ·have m:=T_ w;simp only[go_sem,e,f,m];exact no _ k_
    have m:=D_ w;simp only[go_sem,e,f,m,l,t];exact nxt _ false (q_ t0) (q_ o) k_ (.inr (.inr (.inr ⟨o_,o_⟩)))
 have E:p=s.size:=o_;subst E;simp only[go_sem,o];refine⟨rfl,rfl,.inr rfl,[.bool (!b)],k_,.bool (!b),_,cv_ (bp _ _),⟨⟨!b,rfl,λ_=>⟨λc z=>?_,o_⟩⟩,rfl⟩⟩;have⟨i,hi⟩:=J_ z;have L:=(E_.1 hi).1;exact g i c (by
   have:s.data.toList.length=s.size:=by simp
   omega) hi
def abx (l:LL)(a:AH)(v:AV)(b:AH):Prop:=(∃e:Int,v=.I e/\(e=0->VL l))/\HK a b
def I71a (l:LL)(b:Nat)(e d:Int)(c:AH)(j:Nat)(a:AF)(h:AH):Prop:=∃tm p,p+j=l.V.length/\a=F_ 127 tm/\h=c/\nth tm 1=.I e/\nth tm 2=.I d/\nth tm 3=.P b/\nth tm 7=.I (p:Int)
def I71b (l:LL)(b:Nat)(e d:Int)(c:AH)(j:Nat)(a:AF)(h:AH):Prop:=∃tm p,p+j=l.V.length/\a=F_ 127 tm/\h=c/\nth tm 1=.I e/\nth tm 2=.I d/\nth tm 3=.P b/\nth tm 8=.I (p:Int)
def c71 [RunsM K](l:LL)(q r:Int)(P:l.V.length<10000000):
  Rt K (127) [cB l,.I q,.I r] h λv O=>abx l h v O:=by
 refine aV cf71 ?_;have⟨H,C,A,_,D⟩:=nw h (.box [.I l.c,.eV l.V]);obtain⟨_,s,_,⟨b,rfl,L⟩,t⟩:=c21 (h:=H) l P;have k:=t.up D;have ret:∀(tm:Tm) (e:Int) (s:AH),HK h s->nth tm 6=.I e->(e=0->VL l)->Fin r71 (λG F=>abx l h G F) .ret (F_ 127 tm) s:=λtm e s hk R E=>
  Fr ⟨⟨e,rfl,E⟩,hk⟩
 simp only[go_sem];rw[<-C];clear C;simp only[*,go_sem,mZ];cases b with
 |false=>
  simp only[go_sem];exact ret _ 3 s (A.trans t) k_ o_
 |true=>
  have N:=L.1 rfl;simp only[go_sem];refine bo (I71a l h.z q r s) l.V.length o_ ⟨_,0,z_ _,rfl,rfl,k_,k_,k_,y_⟩ ?_;rintro j M Q ⟨tm,p,J,rfl,rfl,g,f,a,x⟩;simp only[*,go_sem];refine aU (λd=>?_) (λB=>?_)
  ·have d:p<l.V.length:=o_;have c:=a_ d;have m:=aR gG c .i64;have n:cQ l.V[p]=.agg [.I l.V[p].X,.I l.V[p].P]:=rfl;have u:=aP p o_;by_cases w:l.V[p].X>=0
   ·have i:=T_ w;by_cases y:l.V[p].X>=q
    ·have o:=T_ y;simp only[*,go_sem];exact ret _ 15 _ (A.trans t) k_ o_
    have o:=D_ y;simp only[*,go_sem];exact⟨j-1,o_,_,p+1,o_,rfl,rfl,q_ g,q_ f,q_ a,k_⟩
   have i:=D_ w;simp only[*,go_sem];exact⟨j-1,o_,_,p+1,o_,rfl,rfl,q_ g,q_ f,q_ a,k_⟩
  simp only[go_sem];refine bo (I71b l h.z q r Q) l.V.length o_ ⟨_,0,z_ _,rfl,rfl,q_ g,q_ f,q_ a,y_⟩ ?_;clear g f a x tm;rintro j M T ⟨tm,p,J,rfl,rfl,g,f,a,z⟩;simp only[*,go_sem];refine aU (λd=>?_) (λB=>?_)
  ·have d:p<l.V.length:=o_;have c:=a_ d;have m:=aR gG c .i64;have n:cQ l.V[p]=.agg [.I l.V[p].X,.I l.V[p].P]:=rfl;have u:=aP p o_;by_cases w:l.V[p].X<0
   ·have i:=T_ w;by_cases y:IntKind.wrap .i64 (-1-l.V[p].X)>=r
    ·have o:=T_ y;simp only[*,go_sem];exact ret _ 23 _ (A.trans t) k_ o_
    have o:=D_ y;simp only[*,go_sem];exact⟨j-1,o_,_,p+1,o_,rfl,rfl,q_ g,q_ f,q_ a,k_⟩
   have i:=D_ w;simp only[*,go_sem];exact⟨j-1,o_,_,p+1,o_,rfl,rfl,q_ g,q_ f,q_ a,k_⟩
  simp only[go_sem];exact ret _ 0 _ (A.trans t) k_ (λ_=>N)
structure uv (t:T):Prop where
 k0:0<=t.D
 k1:t.D<13
 K:(t.K.length:Int)=cN t.D
 X:t.D≠0->t.D≠12->t.X=0
 N:t.D≠3->t.N=bs []
 l2:t.D=2->t.L.length=1
 l0:t.D≠2->t.D≠3->t.L=[]
def WL {s:ByteArray}(h:(s==bs [])=true):s=bs []:=by rw[bneq_str]at h;exact O_ h
def c69 [RunsM K](t:T):
  Ret K (125) [enc t] h λv _=>∃b,v=.bool b/\(b=true->uv t):=by
 refine aV cf69 ?_;have⟨H,u,A,_,c⟩:=nw h (.box (aG t));have no:∀(tm:Tm),nth tm 2=.bool false->Fin r69 (λl k=>(∃b,l=.bool b/\(b=true->uv t))/\HK h k) .ret (F_ 125 tm) H:=λtm B=>
  Fr ⟨⟨false,rfl,by simp⟩,A⟩
 have n:∀(tm:Tm) (b:Bool),nth tm 2=.bool b->(b=true->uv t)->Fin r69 (λl k=>(∃b,l=.bool b/\(b=true->uv t))/\HK h k) .ret (F_ 125 tm) H:=λtm b B p=>
  Fr ⟨⟨b,rfl,p⟩,A⟩
 have z:=c116 (h:=H) t.D;unfold aG at u c;rw[aJ t];simp only[go_sem];rw[<-u];clear u;by_cases s:t.D<0
 ·have E:=T_ s;simp only[*,go_sem];exact no _ k_
 by_cases y:t.D>=13
 ·have C:=T_ y;simp only[*,go_sem];exact no _ k_
 by_cases r:(t.K.length:Int)=cN t.D
 case neg=>
  simp only[*,go_sem];exact no _ k_
 have D:=T_ r;have o:∀(tm:Tm),nth tm 1=.P h.z->(t.D≠0->t.D≠12->t.X=0)->R_ K [.code JA] (Fin r69 (λl k=>(∃b,l=.bool b/\(b=true->uv t))/\HK h k)) .normal (F_ 125 tm) H:=by
  intro tm g e;have j:∀(tm:Tm),nth tm 1=.P h.z->(t.D≠3->t.N=bs [])->R_ K [.code JB] (Fin r69 (λl k=>(∃b,l=.bool b/\(b=true->uv t))/\HK h k)) .normal (F_ 125 tm) H:=by
   intro tm g m;by_cases a:t.D=2
   ·have f:=T_ a;simp only[*,go_sem,JB];refine n _ (decide ((t.L.length:Int)=1)) k_ λp=>?_;have p:=O_ p;exact⟨o_,o_,r,e,m,λ_=>by omega,λq=>absurd a q⟩
   have f:=D_ a;by_cases i:t.L.length=0
   ·have d:decide ((t.L.length:Int)=0)=true:=t_;simp only[go_sem,JB,g,c,f,d];exact n _ true k_ λ_=>⟨o_,o_,r,e,m,λq=>absurd q a,λ_ _=>List.eq_nil_of_length_eq_zero i⟩
   have d:decide ((t.L.length:Int)=0)=false:=d_;simp only[*,go_sem,JB];exact n _ (decide (t.D=3)) k_ λp=>⟨o_,o_,r,e,m,λq=>absurd q a,λ_ q=>absurd (O_ p) q⟩
  by_cases a:(t.N==bs [])=true
  ·simp only[*,go_sem,JA];exact j _ (q_ g) λ_=>WL a
  have a:(t.N==bs [])=false:=by simpa using a
  by_cases i:t.D=3
  ·have d:=T_ i;simp only[*,go_sem,JA];exact j _ (q_ g) λq=>absurd i q
  have d:=D_ i;simp only[*,go_sem,JA];exact no _ k_
 simp only[*,go_sem];by_cases a:t.X=0
 ·have f:=T_ a;simp only[*,go_sem];exact o _ k_ λ_ _=>a
 have f:=D_ a;by_cases i:t.D=0
 ·have d:=T_ i;simp only[*,go_sem];exact o _ k_ λq=>absurd i q
 have d:=D_ i;by_cases x:t.D=12
 ·have w:=T_ x;simp only[*,go_sem];exact o _ k_ λ_ q=>absurd x q
 have w:=D_ x;simp only[*,go_sem];exact no _ k_
end
inductive BT:T->Prop
 |mk (t:T):t.N.size<10000000->t.L.length<10000000->(∀l∈t.L,l.V.length<10000000)->-9223372036854775808<=t.X->t.X<9223372036854775808->(∀x∈t.K,BT x)->BT t
def BT.nm (b:BT t):t.N.size<10000000:=by cases b;assumption
def BT.ln (b:BT t):t.L.length<10000000:=by cases b;assumption
def BT.ls (b:BT t):∀l∈t.L,l.V.length<10000000:=by cases b;assumption
theorem BT.i0 (b:BT t): -9223372036854775808<=t.X:=by cases b;assumption
def BT.i1 (b:BT t):t.X<9223372036854775808:=by cases b;assumption
def BT.kid (b:BT t):∀x∈t.K,BT x:=by cases b;assumption
inductive CK (vars metas:Int):T->Int->Prop
 |mk (t:T) (d:Int):uv t->(t.D=3->xS t.N)->t.L.length<=8->(∀l∈t.L,VL l)->(t.D=0->0<=t.X/\t.X<vars+d)->(t.D=12->0<=t.X/\t.X<metas)->
   (∀(a:Nat) x,t.K[a]?=some x->CK vars metas x (d+bK t.D a))->CK vars metas t d
def fk (t:T):aO t=1+ba t.K:=by cases t;simp[aO,T.K]
def qX {a:List T}{i:Nat}(h:a[i]?=some t):ba (a.take (i+1))=ba (a.take i)+aO t:=by
 induction a generalizing i with
 |nil=>simp at h
 |cons x l b=>
  cases i with
  |zero=>simp at h;subst h;simp[ba]
  |succ i=>simp only[List.take_succ_cons,ba];rw[b (by simpa using h)];omega
section
variable {K:aN}
def I28 (t:T)(b:Nat)(c:AH)(j:Nat)(a:AF)(h:AH):Prop:=∃tm p,p+j=t.K.length/\a=F_ 85 tm/\HK c h/\b<h.z/\h.get b=some (.box (aG t))/\nth tm 1=.P b/\nth tm 3=.I ((1+ba (t.K.take p):Nat):Int)/\nth tm 4=.I (p:Int)
def c28 [RunsM K]:∀(n:Nat) (t:T) (h:AH),aO t<=n->n<=500000000000->
  Ret K (85) [enc t] h λv _=>v=.I (aO t:Int):=by
 intro n;induction n with
 |zero=>intro t h hs;have:=bI t;omega
 |succ n w=>
  intro t h hs O;have i:=fk t;have E:=bO t.K;refine aV cf28 ?_;have⟨_,l,A,_,G⟩:=nw h (.box (aG t));unfold aG at l;rw[aJ t];unfold b28;simp only[go_sem];rw[<-l];clear l;simp only[go_sem,aay,aaz];refine bo (I28 t h.z h) t.K.length o_ ⟨_,0,z_ _,rfl,A,o_,G,k_,by simp only[go_sem];simp[ba],y_⟩ ?_;rintro j N B ⟨tm,p,M,rfl,f,q,d,r,k,y⟩;unfold aG at d;unfold ab8;simp only[go_sem,r,y,d];refine aU (λg=>?_) (λz=>?_)
  ·have g:p<t.K.length:=o_;have c:=a_ g;have C:=cH (m_ c);have s:=qX c;have D:ba (t.K.take (p+1))<=ba t.K:=by
    have:t.K=t.K.take (p+1)++t.K.drop (p+1):=(j_ _ _).symm;have e:∀a b:List T,ba (a++b)=ba a+ba b:=by
     intro a b;induction a with
     |nil=>simp[ba]
     |cons x a w=>simp only[Q_,ba,w];omega
    have:=congrArg ba this;rw[e]at this;omega
   obtain⟨v,_,I,rfl,o⟩:=w t.K[p] B o_ o_;have F:=aP p o_;have m:IntKind.wrap .i64 (((1+ba (t.K.take p):Nat):Int)+(aO t.K[p]:Int))=((1+ba (t.K.take (p+1)):Nat):Int):=by rw[aW _ o_ o_,s];omega
   simp only[go_sem,aaB,r,k,y,d,c,I,m,F];refine⟨j-1,o_,_,p+1,o_,rfl,f.trans o,by have:=o.z;omega,(o.kw _ q).trans d,q_ r,k_,k_⟩
  have u:p=t.K.length:=o_;subst u;rw[K_]at k;simp only[go_sem,aaA,k];refine Fr (v:=.I ((1+ba t.K:Nat):Int)) ⟨by rw[i],f⟩
def I29 (t:T)(b:Nat)(c:AH)(j:Nat)(a:AF)(h:AH):Prop:=∃tm p x,p+j=t.K.length/\a=F_ 13 tm/\HK c h/\b<h.z/\h.get b=some (.box (aG t))/\nth tm 1=.P b/\nth tm 3=.I x/\nth tm 4=.I (p:Int)
def c29 [RunsM K]:∀(n:Nat) (t:T) (h:AH),aO t<=n->n<=500000000000->
  Ret K (13) [enc t] h λv _=>∃e,v=.I e:=by
 intro n;induction n with
 |zero=>intro t h hs;have:=bI t;omega
 |succ n A=>
  intro t h hs G;have o:=fk t;have B:=bO t.K;refine aV cf29 ?_;have⟨_,f,s,_,u⟩:=nw h (.box (aG t));unfold aG at f;rw[aJ t];unfold b29;simp only[go_sem];rw[<-f];clear f;simp only[go_sem,aau,aav];refine bo (I29 t h.z h) t.K.length o_ ⟨_,0,0,z_ _,rfl,s,o_,u,k_,k_,y_⟩ ?_;rintro j F w ⟨tm,p,x,E,rfl,c,k,a,i,l,m⟩;unfold aG at a;unfold ab7;simp only[*,go_sem];refine aU (λd=>?_) (λq=>?_)
  ·have d:p<t.K.length:=o_;have b:=a_ d;have z:=cH (m_ b);obtain⟨_,_,_,⟨e,rfl⟩,g⟩:=A t.K[p] w o_ o_;have r:=aP p o_;simp only[*,go_sem,aax];exact⟨j-1,o_,_,p+1,max x e,o_,rfl,c.trans g,by have:=g.z;omega,(g.kw _ k).trans a,q_ i,k_,k_⟩
  simp only[go_sem,aaw,l];exact Fr ⟨⟨_,rfl⟩,c⟩
structure L27 (b:Nat)(d q1 q2 q3 q4:Int)(tm:Tm):Prop where
 t1:nth tm 1=.I d
 t2:nth tm 2=.I q1
 t3:nth tm 3=.I q2
 t4:nth tm 4=.I q3
 t5:nth tm 5=.I q4
 t6:nth tm 6=.P b
structure H27 (t:T)(b:Nat)(h0 h:AH):Prop where
 hk:HK h0 h
 hn:b<h.z
 hg:h.get b=some (.box (aG t))
def H27.up {b:Nat}{a h c:AH}(q:H27 t b a h)(k:HK h c):H27 t b a c:=⟨q.hk.trans k,by have:=k.z;have:=q.hn;omega,(k.kw _ q.hn).trans q.hg⟩
def I27a (t:T)(b:Nat)(d g k f c:Int)(e:AH)(j:Nat)(a:AF)(h:AH):Prop:=∃tm p,p+j=t.L.length/\a=F_ 84 tm/\H27 t b e h/\L27 b d g k f c tm/\nth tm 13=.I (p:Int)/\∀(i:Nat) l,i<p->t.L[i]?=some l->VL l
def I27b (t:T)(b:Nat)(d e k c g:Int)(i:AH)(j:Nat)(f:AF)(h:AH):Prop:=∃tm p,p+j=t.K.length/\f=F_ 84 tm/\H27 t b i h/\L27 b d e k c g tm/\nth tm 15=.I (p:Int)/\∀(a:Nat) x,a<p->t.K[a]?=some x->CK e c x (d+bK t.D a)
def VE (t:T)(d f c:Int)(a:AH)(v:AV)(b:AH):Prop:=(∃e:Int,v=.I e/\(e=0->CK f c t d))/\HK a b
def c27 [RunsM K](k I m G:Int):∀(n:Nat) (t:T) (d:Int) (h:AH),aO t<=n->n<=100000000->BT t->0<=d->d+n<=200000000->
  Rt K (84) [enc t,.I d,.I k,.I I,.I m,.I G] h λv h'=>VE t d k m h v h':=by
 intro n;induction n with
 |zero=>intro t d h hs;have:=bI t;omega
 |succ n ih=>
  intro t d h hs hn bt aj ai;have ah:=fk t;have an:=bO t.K;have ac:=bt.nm;have ak:=bt.ln;have ao:=bt.i0;have al:=bt.i1;refine aV cf27 ?_;have⟨H,hH,k0,_,g0⟩:=nw h (.box (aG t));have ret:∀(tm:Tm) (e:Int) (b:AH),HK h b->nth tm 12=.I e->(e=0->CK k m t d)->Fin r27 (λC F=>VE t d k m h C F) .ret (F_ 84 tm) b:=λtm e b hk aq W=>
   Fr ⟨⟨e,rfl,W⟩,hk⟩
  have J:∀(tm:Tm) (b:AH),H27 t h.z h b->L27 h.z d k I m G tm->uv t->(t.D=3->xS t.N)->t.L.length<=8->(∀l∈t.L,VL l)->(t.D=0->0<=t.X/\t.X<k+d)->(t.D=12->0<=t.X/\t.X<m)->
    R_ K [.code VN] (Fin r27 (λC F=>VE t d k m h C F)) .normal (F_ 84 tm) b:=by
   intro tm b c L u D M P f5 f6;simp only[go_sem,VN];refine bo (I27b t h.z d k I m G h) t.K.length o_ ⟨_,0,z_ _,rfl,c,⟨q_ L.t1,q_ L.t2,q_ L.t3,q_ L.t4,q_ L.t5,q_ L.t6⟩,y_,λa x ha=>by omega⟩ ?_;clear L c tm;rintro j fr E ⟨tm,p,hp,rfl,c,L,Q,pre⟩;have g:=c.hg;unfold aG at g;simp only[*,go_sem,L.t6];refine aU (λs=>?_) (λab=>?_)
   ·have s:p<t.K.length:=o_;have f:=a_ s;have ha:=aR bH f .i64;have am:=cH (m_ f);have ad:=bt.kid _ (m_ f);have ap:=lh t.D p;have U:=aP p o_;have aa:=aW (d+bK t.D p) o_ o_;have eb:=c72 (h:=E) t.D (p:Int);obtain⟨v,H3,e3,⟨e,rfl,W⟩,Z⟩:=ih t.K[p] (d+bK t.D p) E o_ o_ ad o_ o_;simp only[*,go_sem,L.t1,L.t2,L.t3,L.t4,L.t5,L.t6];by_cases B:e=0
    ·have O:=T_ B;simp only[*,go_sem];refine⟨j-1,o_,_,p+1,o_,rfl,c.up Z,⟨q_ L.t1,q_ L.t2,q_ L.t3,q_ L.t4,q_ L.t5,q_ L.t6⟩,k_,λa x s hx=>?_⟩;by_cases q:a=p
     ·subst q;rw[f]at hx;cases hx;exact W B
     exact pre a x o_ hx
    have O:=D_ B;simp only[go_sem,O];exact ret _ e H3 (c.up Z).hk k_ (λq=>absurd q B)
   simp only[go_sem];exact ret _ 0 E c.hk k_ λ_=>.mk t d u D M P f5 f6 λa x hx=>pre a x (by have:=(E_.1 hx).1;omega) hx
  have w:∀(tm:Tm) (b:AH),H27 t h.z h b->L27 h.z d k I m G tm->uv t->(t.D=3->xS t.N)->t.L.length<=8->(∀l∈t.L,VL l)->(t.D=0->0<=t.X/\t.X<k+d)->
    R_ K [.code Ff] (Fin r27 (λC F=>VE t d k m h C F)) .normal (F_ 84 tm) b:=by
   intro tm b c L u D M P f5;have g:=c.hg;unfold aG at g;by_cases y:t.D=12
   ·have o:=T_ y;by_cases Y:t.X<0
    ·have A:=T_ Y;simp only[*,go_sem,Ff,L.t6];exact ret _ 23 b c.hk k_ o_
    have A:=D_ Y;by_cases X:t.X>=m
    ·have N:=T_ X;simp only[*,go_sem,Ff,L.t4,L.t6];exact ret _ 23 b c.hk k_ o_
    have N:=D_ X;simp only[*,go_sem,Ff,L.t4,L.t6];exact J _ b c ⟨q_ L.t1,q_ L.t2,q_ L.t3,q_ L.t4,q_ L.t5,q_ L.t6⟩ u D M P f5 λ_=>⟨o_,o_⟩
   have o:=D_ y;simp only[*,go_sem,Ff,L.t6];exact J _ b c ⟨q_ L.t1,q_ L.t2,q_ L.t3,q_ L.t4,q_ L.t5,q_ L.t6⟩ u D M P f5 λq=>absurd q y
  have V:∀(tm:Tm) (b:AH),H27 t h.z h b->L27 h.z d k I m G tm->uv t->(t.D=3->xS t.N)->t.L.length<=8->(∀l∈t.L,VL l)->
    R_ K [.code Fe] (Fin r27 (λC F=>VE t d k m h C F)) .normal (F_ 84 tm) b:=by
   intro tm b c L u D M P;have g:=c.hg;unfold aG at g;by_cases y:t.D=0
   ·have o:=T_ y;by_cases Y:t.X<0
    ·have A:=T_ Y;simp only[*,go_sem,Fe,L.t6];exact ret _ 24 b c.hk k_ o_
    have A:=D_ Y;have U:=aW (t.X-d) o_ o_;by_cases X:t.X-d>=k
    ·have N:=T_ X;simp only[*,go_sem,Fe,L.t1,L.t2,L.t6];exact ret _ 24 b c.hk k_ o_
    have N:=D_ X;simp only[*,go_sem,Fe,L.t1,L.t2,L.t6];exact w _ b c ⟨q_ L.t1,q_ L.t2,q_ L.t3,q_ L.t4,q_ L.t5,q_ L.t6⟩ u D M P λ_=>⟨o_,o_⟩
   have o:=D_ y;simp only[*,go_sem,Fe,L.t6];exact w _ b c ⟨q_ L.t1,q_ L.t2,q_ L.t3,q_ L.t4,q_ L.t5,q_ L.t6⟩ u D M P λq=>absurd q y
  have r:∀(tm:Tm) (b:AH),H27 t h.z h b->L27 h.z d k I m G tm->uv t->(t.D=3->xS t.N)->
    R_ K [.code Kj] (Fin r27 (λC F=>VE t d k m h C F)) .normal (F_ 84 tm) b:=by
   intro tm b c L u D;have g:=c.hg;unfold aG at g;simp only[go_sem,Kj,L.t6,g];refine aU (λh8=>?_) (λh8=>?_)
   ·simp only[go_sem];exact ret _ 6 b c.hk k_ o_
   have h8:t.L.length<=8:=o_;simp only[go_sem];refine bo (I27a t h.z d k I m G h) t.L.length o_ ⟨_,0,z_ _,rfl,c,⟨q_ L.t1,q_ L.t2,q_ L.t3,q_ L.t4,q_ L.t5,q_ L.t6⟩,y_,λi l hi=>by omega⟩ ?_;clear L c tm g;rintro j fr E ⟨tm,p,hp,rfl,c,L,S,pre⟩;have g:=c.hg;unfold aG at g;simp only[*,go_sem,L.t6];refine aU (λs=>?_) (λab=>?_)
   ·have s:p<t.L.length:=o_;have f:=a_ s;have ha:=aR fj f .i64;have U:=aP p o_;obtain⟨v,H3,_,⟨e,rfl,W⟩,Z⟩:=c71 (h:=E) t.L[p] I G (bt.ls _ (m_ f));simp only[*,go_sem,L.t3,L.t5,L.t6];by_cases B:e=0
    ·have O:=T_ B;simp only[*,go_sem];refine⟨j-1,o_,_,p+1,o_,rfl,c.up Z,⟨q_ L.t1,q_ L.t2,q_ L.t3,q_ L.t4,q_ L.t5,q_ L.t6⟩,k_,λi x hi hx=>?_⟩;by_cases q:i=p
     ·subst q;rw[f]at hx;cases hx;exact W B
     exact pre i x o_ hx
    have O:=D_ B;simp only[go_sem,O];exact ret _ e H3 (c.up Z).hk k_ (λq=>absurd q B)
   simp only[go_sem];refine V _ E c ⟨q_ L.t1,q_ L.t2,q_ L.t3,q_ L.t4,q_ L.t5,q_ L.t6⟩ u D h8 λl hl=>?_;have⟨i,hi⟩:=J_ hl;exact pre i l (by have:=(E_.1 hi).1;omega) hi
  obtain⟨v,b,e1,⟨bf,rfl,hf⟩,k1⟩:=c69 (h:=H) t;rw[aJ t]at e1;have ag:H27 t h.z h H:=⟨k0,o_,g0⟩;have z:=ag.up k1;have g1:=z.hg;unfold aG at hH g0 g1;rw[aJ t];simp only[go_sem];rw[<-hH];clear hH;simp only[*,go_sem];cases bf with
  |false=>
   simp only[go_sem];exact ret _ 3 b z.hk k_ o_
  |true=>
   have u:=hf rfl;by_cases y:t.D=3
   ·have o:=T_ y;obtain⟨_,E,_,⟨bn,rfl,af⟩,rfl⟩:=c70 (h:=b) t.N ac;simp only[*,go_sem];cases bn with
    |false=>
     simp only[go_sem];exact ret _ 29 E z.hk k_ o_
    |true=>
     simp only[go_sem];exact r _ E z ⟨k_,k_,k_,k_,k_,k_⟩ u λ_=>af rfl
   have o:=D_ y;simp only[*,go_sem];exact r _ b z ⟨k_,k_,k_,k_,k_,k_⟩ u λq=>absurd q y
end
section
variable {K:aN}{h:AH}
def c7 [RunsM K](b q c o:Int)(n:Nat)(t:T)(hs:aO t<=n)(C:n<=100000000)(bt:BT t):
  Ret K (45) [enc t,.I b,.I q,.I c,.I o] h λv _=>∃e:Int,v=.I e/\(e=0->CK (max b 0) c t 0/\aO t<=4096):=by
 refine aV cf7 ?_;have⟨H,j,_,_,f⟩:=nw h (.box (aG t));have ret:∀(tm:Tm) (e:Int) (a:AH),HK h a->nth tm 10=.I e->(e=0->CK (max b 0) c t 0/\aO t<=4096)->Fin r7 (λw u=>(∃e:Int,w=.I e/\(e=0->CK (max b 0) c t 0/\aO t<=4096))/\HK h u) .ret (F_ 45 tm) a:=λtm e a hk x i=>
  Fr ⟨⟨e,rfl,i⟩,hk⟩
 obtain⟨v,a,l,⟨⟨e,rfl,_⟩,y⟩⟩:=c27 (max b 0) q c o n t 0 H hs C bt o_ o_;obtain⟨v,p,s,rfl,A⟩:=c28 n t a hs o_;obtain⟨_,m,r,⟨_,rfl⟩,_⟩:=c29 n t p hs o_;have g:=y.up f;have k:=A.up g;rw[aJ t]at l s r;unfold aG at j f g k;rw[aJ t];simp only[go_sem];rw[<-j];simp only[go_sem,l];by_cases I:e=0
 ·have d:decide (e=0)=true:=g_;simp only[go_sem,d,g,s];refine aU (λz=>?_) (λz=>?_)
  ·simp only[go_sem];exact ret _ 5 p g_ k_ o_
  simp only[go_sem,k,r];refine aU (λB=>?_) (λB=>?_)
  ·simp only[go_sem];exact ret _ 7 m g_ k_ o_
  simp only[go_sem];exact ret _ 0 m g_ k_ g_
 have d:decide (e=0)=false:=g_;simp only[go_sem,d];exact ret _ e a g_ k_ o_
def I24 (q:Int)(l:List T)(b:AH)(j:Nat)(a:AF)(h:AH):Prop:=∃tm p x,p+j=l.length/\a=F_ 22 tm/\HK b h/\nth tm 0=.I q/\nth tm 5=.I x/\nth tm 8=.eT l/\nth tm 9=.I (l.length:Int)/\nth tm 10=.I (p:Int)
def c24 [RunsM K]:∀(n:Nat) (q:Int) (l:List T) (h:AH),ba l<=n->n<=100000000->
  Ret K (22) [.I q,.eT l] h λv _=>∃e,v=.I e:=by
 intro n;induction n with
 |zero=>
  intro q l h hs _;have:=bO l;have A:l=[]:=List.eq_nil_of_length_eq_zero o_;subst A;refine aV cf24 ?_;simp only[go_sem];refine bo (I24 q [] h) 0 o_ ⟨_,0,0,rfl,rfl,HK.refl h,k_,k_,by(first|(simp only[go_sem];done)|(simp only[go_sem];rfl)),by(first|(simp only[go_sem];done)|(simp only[go_sem];rfl)),by(first|(simp only[go_sem];done)|(simp only[go_sem];rfl))⟩ ?_;rintro j y H ⟨tm,p,x,u,rfl,hk,t0,g,k,i,a⟩;simp only[*,go_sem];refine aU (λc=>?_) (λo=>?_)
  ·have:([]:List T).length=0:=rfl;omega
  simp only[go_sem,g];exact Fr ⟨⟨_,rfl⟩,hk⟩
 |succ n E=>
  intro q l h hs I;have F:=bO l;refine aV cf24 ?_;simp only[go_sem];refine bo (I24 q l h) l.length o_ ⟨_,0,0,z_ _,rfl,HK.refl h,k_,k_,k_,k_,y_⟩ ?_;rintro j y H ⟨tm,p,x,u,rfl,hk,t0,g,k,i,a⟩;simp only[*,go_sem];refine aU (λc=>?_) (λo=>?_)
  ·have c:p<l.length:=o_;have b:=a_ c;have C:=cH (m_ b);have t:=fk l[p];have w:=aP p o_;have f:=bz (h:=H.new (.box zT)) (k:=H.z) (aD _ _) l[p];have⟨B,d,r,_,s⟩:=ns H (.box zT) (.box (aG l[p]));rw[<-d]at f;clear d;unfold aG at s;simp only[*,go_sem];refine aU (λm=>?_) (λm=>?_)
   ·simp only[go_sem];exact Fr ⟨⟨_,rfl⟩,hk.trans r⟩
   obtain⟨_,_,_,⟨_,rfl⟩,z⟩:=E (IntKind.wrap .i64 (q-x)) l[p].K B o_ o_;simp only[*,go_sem];exact⟨j-1,o_,_,p+1,_,o_,rfl,(hk.trans r).trans z,q_ t0,y_,q_ k,q_ i,k_⟩
  simp only[go_sem,g];exact Fr ⟨⟨_,rfl⟩,hk⟩
def c26 [RunsM K](l:LL):Ret K (83) [cB l] h λv _=>v=.bool (decide ((l.V.length:Int) > 20)):=by
 refine aV cf26 ?_;simp only[go_sem];exact⟨rfl,rfl,.inr rfl,[_],k_,_,_,cv_ (bp _ _),rfl,HK.new _ _⟩
def I6 (l:List T)(a:AH)(j:Nat)(b:AF)(h:AH):Prop:=∃tm p,p+j=l.length/\b=F_ 44 tm/\HK a h/\nth tm 8=.eT l/\nth tm 9=.I (l.length:Int)/\nth tm 10=.I (p:Int)
def c6 [RunsM K]:∀(n:Nat) (l:List T) (h:AH),ba l<=n->n<=100000000->(∀t∈l,BT t)->
  Ret K (44) [.eT l] h λv _=>∃b,v=.bool b:=by
 intro n;induction n with
 |zero=>
  intro l h hs _ _;have:=bO l;have Q:l=[]:=List.eq_nil_of_length_eq_zero o_;refine aV cf6 ?_;have ret:∀(tm:Tm) (b:Bool) (H:AH),HK h H->nth tm 2=.bool b->Fin r6 (λF E=>(∃b,F=.bool b)/\HK h E) .ret (F_ 44 tm) H:=λtm b H hk V=>
   Fr ⟨⟨_,rfl⟩,hk⟩
  obtain⟨v,N,G,⟨e,rfl⟩,o⟩:=c24 0 200 l h hs o_;simp only[go_sem,G];refine aU (λg=>?_) (λg=>?_)
  ·simp only[go_sem];exact ret _ false N o k_
  simp only[go_sem];refine bo (I6 l h) 0 o_ ⟨_,0,by rw[Q];rfl,rfl,o,k_,k_,y_⟩ ?_;rintro j fr H ⟨tm,p,J,rfl,hk,C,w,c⟩;simp only[go_sem,w,c];refine aU (λf=>?_) (λI=>?_)
  ·rw[Q]at J f;simp at J f;omega
  simp only[go_sem];exact ret _ true H hk k_
 |succ n ih=>
  intro l h hs hn bt;have aa:=bO l;refine aV cf6 ?_;have ret:∀(tm:Tm) (b:Bool) (H:AH),HK h H->nth tm 2=.bool b->Fin r6 (λF E=>(∃b,F=.bool b)/\HK h E) .ret (F_ 44 tm) H:=λtm b H hk V=>
   Fr ⟨⟨_,rfl⟩,hk⟩
  obtain⟨v,N,G,⟨e,rfl⟩,o⟩:=c24 (n+1) 200 l h hs o_;simp only[go_sem,G];refine aU (λg=>?_) (λg=>?_)
  ·simp only[go_sem];exact ret _ false N o k_
  simp only[go_sem];refine bo (I6 l h) l.length o_ ⟨_,0,z_ _,rfl,o,k_,k_,y_⟩ ?_;rintro j fr H ⟨tm,p,J,rfl,hk,C,w,c⟩;simp only[*,go_sem];refine aU (λf=>?_) (λI=>?_)
  ·have f:p<l.length:=o_;have a:=a_ f;have D:=aR bH a .i64;have i:=Hn l[p];have r:=cH (m_ a);have L:=bt _ (m_ a);revert a D i r L;generalize l[p]=x;intro a D i r L;have X:=fk x;have Z:=aP p o_;have q:=bz (h:=H.new (.box zT)) (k:=H.z) (aD _ _) x;have⟨M,s,k2,_,k⟩:=ns H (.box zT) (.box (aG x));rw[<-s]at q;clear s;unfold aG at k;have d:=hk.trans k2;simp only[*,go_sem];by_cases R:(x.N.size:Int) > 200
   ·have u:=T_ R;simp only[*,go_sem];exact ret _ false M d k_
   have u:=D_ R;by_cases S:(x.L.length:Int) > 20
   ·have A:=T_ S;simp only[*,go_sem];exact ret _ false M d k_
   have A:=D_ S;have pr:Pr K (.fn 83 [] []) cB (λl=>decide ((l.V.length:Int) > 20)) x.L (λ_=>True):=
    ⟨λ_ _ _ _=>trivial,λy _ H _=>by
     obtain⟨v,h',e,rfl,hk⟩:=c26 (h:=H) y;exact⟨h',e,hk⟩,λh=>by rw[jd];rfl⟩
   obtain⟨v,O,B,rfl,z⟩:=c25 (h:=M) pr trivial o_;have Y:=z.up k;cases m:(x.L.any λl=>decide ((l.V.length:Int) > 20)) with
   |true=>
    rw[m]at B;simp only[*,go_sem];exact ret _ false O (d.trans z) k_
   |false=>
    rw[m]at B;obtain⟨_,U,_,⟨W,rfl⟩,P⟩:=ih x.K O o_ o_ (λt ht=>L.kid t ht);simp only[*,go_sem];cases W with
    |false=>
     simp only[go_sem];exact ret _ false U ((d.trans z).trans P) k_
    |true=>
     simp only[*,go_sem];exact⟨j-1,o_,_,p+1,o_,rfl,(d.trans z).trans P,q_ C,q_ w,k_⟩
  simp only[go_sem];exact ret _ true H hk k_
def I1023 (l:List T)(b:AH)(j:Nat)(a:AF)(h:AH):Prop:=∃tm p,p+j=l.length/\a=F_ 23 tm/\HK b h/\nth tm 8=.eT l/\nth tm 9=.I (l.length:Int)/\nth tm 10=.I (p:Int)/\∀(i:Nat) t,i<p->l[i]?=some t->CK 65536 65536 t 0/\aO t<=4096
def ab5 [RunsM K](n:Nat)(l:List T)(hs:ba l<=n)(E:n<=100000000)(bt:∀t∈l,BT t):
  Ret K (23) [.eT l] h λv _=>∃b,v=.bool b/\(b=true->∀t∈l,CK 65536 65536 t 0/\aO t<=4096):=by
 have S:=bO l;refine aV afY ?_;have ret:∀(tm:Tm) (b:Bool) (H:AH),HK h H->nth tm 2=.bool b->(b=true->∀t∈l,CK 65536 65536 t 0/\aO t<=4096)->Fin Wx (λI G=>(∃b,I=.bool b/\(b=true->∀t∈l,CK 65536 65536 t 0/\aO t<=4096))/\HK h G) .ret (F_ 23 tm) H:=λtm b H hk U f=>
  Fr ⟨⟨_,rfl,f⟩,hk⟩
 obtain⟨v,R,J,⟨b,rfl⟩,C⟩:=c6 n l h hs E bt;simp only[go_sem,J];cases b with
 |false=>
  simp only[go_sem];exact ret _ false R C k_ (by simp)
 |true=>
  simp only[go_sem];refine bo (I1023 l h) l.length o_ ⟨_,0,z_ _,rfl,C,k_,k_,y_,λi t hi=>by omega⟩ ?_;rintro j W H ⟨tm,p,V,rfl,hk,z,B,c,pre⟩;simp only[*,go_sem];refine aU (λs=>?_) (λL=>?_)
  ·have s:p<l.length:=o_;have a:=a_ s;have w:=aR bH a .i64;have d:=Hn l[p];have m:=cH (m_ a);have f:=bt _ (m_ a);revert a w d m f;generalize l[p]=x;intro a w d m f;have O:=aP p o_;have k:=bz (h:=H.new (.box zT)) (k:=H.z) (aD _ _) x;have⟨Q,r,P,_,A⟩:=ns H (.box zT) (.box (aG x));rw[<-r]at k;clear r;obtain⟨_,M,D,⟨e,rfl,F⟩,N⟩:=c7 (h:=Q) 65536 8 65536 65536 n x o_ E f;rw[aJ x]at D;unfold aG at A;have o:=(hk.trans P).trans N;simp only[*,go_sem];by_cases y:e=0
   ·have u:=T_ y;simp only[*,go_sem];refine⟨j-1,o_,_,p+1,o_,rfl,o,q_ z,q_ B,k_,λi t hi g=>?_⟩;by_cases q:i=p
    ·subst q;rw[a]at g;cases g;exact F y
    exact pre i t o_ g
   have u:=D_ y;simp only[go_sem,u];exact ret _ false M o k_ (by simp)
  simp only[go_sem];refine ret _ true H hk k_ λ_ t g=>?_;have⟨i,hi⟩:=J_ g;exact pre i t (by have:=(E_.1 hi).1;omega) hi
end
deriving instance DecidableEq for LV
def FO (x y:LV):rj (cQ x) .neq (.struct [(0,1),(1,1)]) (cQ y)=some (.bool (!decide (x=y))):=by
 have e:=dw;show aI (aI (dT 1 (.I x.X) (.I y.X)) λs=>cond s (aI (dT 1 (.I x.P) (.I y.P)) λs=>cond s (some true) (some false)) (some false)) (λb=>some (AV.bool (!b)))=_;rw[e,e,aK];have hx:(x=y)<->(x.X=y.X/\x.P=y.P):=by cases x;cases y;simp
 by_cases a:x.X=y.X
 ·rw[T_ a,cond_true,aK];by_cases c:x.P=y.P
  ·rw[T_ c,T_ (hx.2 ⟨a,c⟩)];rfl
  rw[D_ c,D_ (λq=>c (hx.1 q).2)];rfl
 rw[D_ a,D_ (λq=>a (hx.1 q).1)];rfl
def mf {c:Type}{a b:List c}(d:a.length=b.length)(h:∀(i:Nat),i<a.length->a[i]?=b[i]?):a=b:=by
 apply List.ext_getElem? ;intro i;by_cases q:i<a.length
 ·exact h i q
 rw[S_ o_,S_ o_]
section
variable {K:aN}{h:AH}
def I58 (x y:LL)(b:Nat)(c:AH)(j:Nat)(a:AF)(h:AH):Prop:=∃tm p,p+j=x.V.length/\a=F_ 93 tm/\h=c/\nth tm 2=.P b/\nth tm 3=.P (b+1)/\nth tm 5=.I (p:Int)/\∀(i:Nat),i<p->x.V[i]?=y.V[i]?
def c58 [RunsM K](x y:LL)(hx:x.V.length<10000000)(G:y.V.length<10000000):
  Ret K (93) [cB x,cB y] h λv _=>∃b,v=.bool b/\(b=true<->x=y):=by
 refine aV cf58 ?_;have⟨H,a⟩:∃H:AH,H=(h.new (.box [.I x.c,.eV x.V])).new (.box [.I y.c,.eV y.V]):=⟨_,rfl⟩;have n1:=aB h (.box [.I x.c,.eV x.V]);have D:HK h H:=by rw[a];exact(HK.new _ _).add _
 have c:H.get h.z=some (.box [.I x.c,.eV x.V]):=by rw[a,aM o_,aD]
 have g:H.get (h.z+1)=some (.box [.I y.c,.eV y.V]):=by rw[a,<-n1,aD]
 have ret:∀(tm:Tm) (b:Bool),nth tm 4=.bool b->(b=true<->x=y)->Fin r58 (λz E=>(∃b,z=.bool b/\(b=true<->x=y))/\HK h E) .ret (F_ 93 tm) H:=λtm b J B=>
  Fr ⟨⟨_,rfl,B⟩,D⟩
 simp only[go_sem,n1];rw[<-a];clear a;by_cases r:x.c=y.c
 case neg=>
  simp only[*,go_sem];exact ret _ false k_ ⟨by simp,λq=>absurd (by rw[q]) r⟩
 have w:=T_ r;by_cases s:(x.V.length:Int)=(y.V.length:Int)
 case neg=>
  simp only[*,go_sem];exact ret _ false k_ ⟨by simp,λq=>absurd (by rw[q]) s⟩
 have C:=T_ s;simp only[*,go_sem];refine bo (I58 x y h.z H) x.V.length o_ ⟨_,0,z_ _,rfl,rfl,k_,k_,y_,λi hi=>by omega⟩ ?_;rintro j M I ⟨tm,p,L,rfl,rfl,n,u,t,pre⟩;simp only[*,go_sem];refine aU (λf=>?_) (λA=>?_)
 ·have f:p<x.V.length:=o_;have d:=a_ f;have e:y.V[p]?=some (y.V[p]'o_):=a_ o_;have l:=FO x.V[p] (y.V[p]'o_);have F:=aP p o_;simp only[*,go_sem];by_cases k:x.V[p]=y.V[p]'o_
  ·have m:=T_ k;simp only[*,go_sem];refine⟨j-1,o_,_,p+1,o_,rfl,rfl,q_ n,q_ u,k_,λi hi=>?_⟩;by_cases q:i=p
   ·subst q;rw[d,e,k]
   exact pre i o_
  have m:=D_ k;simp only[go_sem,m];refine ret _ false k_ ⟨by simp,λq=>?_⟩;subst q;exact absurd rfl k
 have o:p=x.V.length:=o_;subst o;simp only[go_sem];refine ret _ true k_ ⟨λ_=>?_,by simp⟩;have:=mf o_ pre;cases x;cases y;simp_all
def I47 (x y:List LL)(b:AH)(j:Nat)(a:AF)(h:AH):Prop:=∃tm p,p+j=x.length/\a=F_ 55 tm/\HK b h/\nth tm 0=.eL x/\nth tm 1=.eL y/\nth tm 5=.I (p:Int)/\∀(i:Nat),i<p->x[i]?=y[i]?
def c47 [RunsM K](x y:List LL)(hx:x.length<10000000)(E:y.length<10000000)(z:∀l∈x,l.V.length<10000000)(f:∀l∈y,l.V.length<10000000):
  Ret K (55) [.eL x,.eL y] h λv _=>∃b,v=.bool b/\(b=true<->x=y):=by
 refine aV cf47 ?_;have ret:∀(tm:Tm) (b:Bool) (H:AH),HK h H->nth tm 4=.bool b->(b=true<->x=y)->Fin r47 (λt s=>(∃b,t=.bool b/\(b=true<->x=y))/\HK h s) .ret (F_ 55 tm) H:=λtm b H hk D e=>
  Fr ⟨⟨_,rfl,e⟩,hk⟩
 by_cases k:(x.length:Int)=(y.length:Int)
 case neg=>
  simp only[go_sem,k];exact ret _ false h (HK.refl h) k_ ⟨by simp,λq=>absurd (by rw[q]) k⟩
 have B:=T_ k;simp only[go_sem,B];refine bo (I47 x y h) x.length o_ ⟨_,0,z_ _,rfl,HK.refl h,k_,k_,y_,λi hi=>by omega⟩ ?_;rintro j G r ⟨tm,p,F,rfl,hk,t0,o,m,pre⟩;simp only[go_sem,t0,m];refine aU (λd=>?_) (λu=>?_)
 ·have d:p<x.length:=o_;have c:=a_ d;have a:y[p]?=some (y[p]'o_):=a_ o_;have A:=aP p o_;obtain⟨_,w,_,⟨b,rfl,e⟩,n⟩:=c58 (h:=r) x[p] (y[p]'o_) (z _ (m_ c)) (f _ (m_ a));simp only[*,go_sem];cases b with
  |true=>
   simp only[*,go_sem];refine⟨j-1,o_,_,p+1,o_,rfl,hk.trans n,q_ t0,q_ o,k_,λi hi=>?_⟩;by_cases q:i=p
   ·subst q;rw[c,a,e.1 rfl]
   exact pre i o_
  |false=>
   simp only[go_sem];refine ret _ false w (hk.trans n) k_ ⟨by simp,λq=>?_⟩;subst q;exact absurd (e.2 rfl) (by simp)
 have g:p=x.length:=o_;subst g;simp only[go_sem];exact ret _ true r hk k_ ⟨λ_=>mf o_ pre,by simp⟩
structure BN (n:NV):Prop where
 ls:n.L.length<10000000
 vs:∀l∈n.L,l.V.length<10000000
 ks:n.K.length<10000000
def I1079 (x y:NV)(b:Nat)(c:AH)(j:Nat)(a:AF)(h:AH):Prop:=∃tm p,p+j=x.K.length/\a=F_ 79 tm/\h=c/\nth tm 2=.P b/\nth tm 3=.P (b+1)/\nth tm 5=.I (p:Int)/\∀(i:Nat),i<p->x.K[i]?=y.K[i]?
@[go_sem] def encN_c (n:NV):(bU n).cells=(n_ n):=(rfl)
def WS [RunsM K](x y:NV)(A:BN x)(o:BN y):
  Ret K (79) [bU x,bU y] h λv _=>∃b,v=.bool b/\(b=true<->x=y):=by
 refine aV afl ?_;have⟨H,l⟩:∃H:AH,H=(h.new (.box (n_ x))).new (.box (n_ y)):=⟨_,rfl⟩;have n1:=aB h (.box (n_ x));have f:HK h H:=by rw[l];exact(HK.new _ _).add _
 have W:H.z=h.z+2:=by rw[l,aB,n1]
 have e:H.get h.z=some (.box (n_ x)):=by rw[l,aM o_,aD]
 have d:H.get (h.z+1)=some (.box (n_ y)):=by rw[l,<-n1,aD]
 have ret:∀(tm:Tm) (b:Bool) (H:AH),HK h H->nth tm 4=.bool b->(b=true<->x=y)->Fin Wm (λN R=>(∃b,N=.bool b/\(b=true<->x=y))/\HK h R) .ret (F_ 79 tm) H:=λtm b H hk V s=>
  Fr ⟨⟨_,rfl,s⟩,hk⟩
 simp only[go_sem,n1];rw[<-l];clear l;by_cases I:x.D=y.D
 case neg=>
  simp only[*,go_sem];exact ret _ false H f k_ ⟨by simp,λq=>absurd (by rw[q]) I⟩
 have n:=T_ I;by_cases L:x.X=y.X
 case neg=>
  simp only[*,go_sem];exact ret _ false H f k_ ⟨by simp,λq=>absurd (by rw[q]) L⟩
 have t:=T_ L;by_cases E:x.N=y.N
 case neg=>
  simp only[*,go_sem];exact ret _ false H f k_ ⟨by simp,λq=>absurd (by rw[q]) E⟩
 have D:=T_ E;obtain⟨_,F,J,⟨b,rfl,s⟩,m⟩:=c47 (h:=H) x.L y.L A.ls o.ls A.vs o.vs;have a:=m.up e;have c:=m.up d;cases b with
 |false=>
  simp only[*,go_sem];exact ret _ false F (f.trans m) k_ ⟨by simp,λq=>absurd (s.2 (by rw[q])) (by simp)⟩
 |true=>
  have P:=s.1 rfl;by_cases C:(x.K.length:Int)=(y.K.length:Int)
  case neg=>
   simp only[go_sem,e,d,n,t,D,J,a,c,C];exact ret _ false F (f.trans m) k_ ⟨by simp,λq=>absurd (by rw[q]) C⟩
  have T:=T_ C;simp only[go_sem,e,d,n,t,D,J,a,c,T];have hk:=A.ks;refine bo (I1079 x y h.z F) x.K.length o_ ⟨_,0,z_ _,rfl,rfl,k_,k_,y_,λi hi=>by omega⟩ ?_;rintro j Y U ⟨tm,p,X,rfl,rfl,w,z,M,pre⟩;simp only[*,go_sem];refine aU (λr=>?_) (λO=>?_)
  ·have r:p<x.K.length:=o_;have g:=a_ r;have k:y.K[p]?=some (y.K[p]'o_):=a_ o_;have S:=aP p o_;by_cases u:x.K[p]=y.K[p]'o_
   ·have B:=T_ u;simp only[*,go_sem,AG.bh];refine⟨j-1,o_,_,p+1,o_,rfl,rfl,q_ w,q_ z,k_,λi hi=>?_⟩;by_cases q:i=p
    ·subst q;rw[g,k,u]
    exact pre i o_
   have B:=D_ u;simp only[*,go_sem,AG.bh];refine ret _ false _ (f.trans m) k_ ⟨by simp,λq=>?_⟩;subst q;exact absurd rfl u
  have G:p=x.K.length:=o_;subst G;simp only[go_sem];refine ret _ true _ (f.trans m) k_ ⟨λ_=>?_,by simp⟩;have Q:=mf o_ pre;cases x;cases y;simp_all
end
structure Wf (gs:List NV)(ts:List T):Prop where
 len:ts.length=gs.length
 node:∀(i:Nat) n,gs[i]?=some n->∃ks,ts[i]?=some (ndT n ks)/\Lk ts n.K ks/\∀c∈n.K,c<(i:Int)
 tok:∀t∈ts,TOK t
 nd:ts.Nodup
def Wf.wg (w:Wf a ts)(h:a.length<=65536):Wg (Mst a ts) where
 len:=w.len
 lenF:=by show(ts.map fp).length=_;rw[L_];exact w.len
 most:=h
 node:=w.node
 free i t h:=by
  have h:ts[i]?=some t:=h;show(ts.map fp)[i]?=_;rw[List.getElem?_map,h];rfl
 tok:=w.tok
 nd:=w.nd
def Wf.nil:Wf [] []:=⟨rfl,λi n h=>by simp at h,by simp,by simp⟩
theorem Wf.add (w:Wf d ts){k:List T}(lk:Lk ts n.K k)(u:TOK (ndT n k))(A:n ∉ d):Wf (d++[n]) (ts++[ndT n k]) where
 len:=by simp[w.len]
 node i x hx:=by
  rcases Nat.lt_or_ge i d.length with h|h
  ·rw[List.getElem?_append_left h]at hx;have⟨m,e,l,lt⟩:=w.node i x hx;exact⟨m,by rw[List.getElem?_append_left (by rw[w.len];exact h)];exact e,l.app,lt⟩
  rw[List.getElem?_append_right h]at hx;have:i-d.length=0:=by
   rcases Nat.eq_zero_or_pos (i-d.length) with q|q
   ·exact q
   rw[S_ (by simp;omega)]at hx;cases hx
  rw[this]at hx;cases hx;have hi:i=d.length:=o_;subst hi;refine⟨k,by rw[<-w.len];simp,lk.app,λc v=>?_⟩;have⟨_,z⟩:=J_ v;have⟨t,_,a⟩:=lk.get z;have:=a.lt;have:=w.len;omega
 tok t ht':=by
  rcases List.mem_append.1 ht' with q|q
  ·exact w.tok t q
  simp only[W_]at q;subst q;exact u
 nd:=by
  rw[List.nodup_append];refine⟨w.nd,by simp,λa s b r e=>?_⟩;simp only[W_]at r;subst r;subst e;have⟨i,hi⟩:=J_ s;have y:i<d.length:=by rw[<-w.len];exact(E_.1 hi).1
  have⟨g,f⟩:∃g,d[i]?=some g:=⟨_,a_ y⟩;have⟨_,p,l,_⟩:=w.node i g f;rw[hi]at p;have o:=Option.some.inj p;unfold ndT at o;injection o with e4 e5 e6 e7 e8;subst e8;have hk:=lk.inj w.nd l;have:n=g:=by cases n;cases g;simp_all
  exact A (this▸m_ f)
def Wf.bn (w:Wf a ts)(bt:∀t∈ts,BT t):∀n∈a,BN n:=by
 intro n c;have⟨i,hi⟩:=J_ c;have⟨_,e,lk,_⟩:=w.node i n hi;have b:=bt _ (m_ e);have tok:=w.tok _ (m_ e);refine⟨b.ln,b.ls,?_⟩;have hk:(n.K.length:Int)=cN n.D:=by rw[lk.len];unfold ndT TOK at tok;exact tok.1.K
 unfold cN at hk;split at hk
 ·omega
 split at hk
 ·omega
 split at hk<;>omega
section
variable {K:aN}{h:AH}
def I1136 (a:List NV)(n:NV)(b:Nat)(d:AH)(j:Nat)(c:AF)(h:AH):Prop:=∃tm p,p+j=a.length/\c=F_ 136 tm/\HK d h/\b+1<h.z/\h.get b=some (.box [.eN a])/\h.get (b+1)=some (.box (n_ n))/\
 nth tm 2=.P b/\nth tm 3=.P (b+1)/\nth tm 5=.I (p:Int)/\∀(i:Nat) x,i<p->a[i]?=some x->x≠n
def c1136 [RunsM K](a:List NV)(n:NV)(J:a.length<1000000)(B:∀x∈a,BN x)(bn:BN n):
  Ret K (136) [.agg [.eN a],bU n] h λv _=>∃e:Int,v=.I e/\((e<0/\n ∉ a)\/(0<=e/\a[e.toNat]?=some n)):=by
 refine aV aeM ?_;have⟨H,d⟩:∃H:AH,H=(h.new (.box [.eN a])).new (.box (n_ n)):=⟨_,rfl⟩;have n1:=aB h (.box [.eN a]);have C:HK h H:=by rw[d];exact(HK.new _ _).add _
 have E:H.z=h.z+2:=by rw[d,aB,n1]
 have f:H.get h.z=some (.box [.eN a]):=by rw[d,aM o_,aD]
 have o:H.get (h.z+1)=some (.box (n_ n)):=by rw[d,<-n1,aD]
 unfold acg;simp only[go_sem,n1];rw[<-d];clear d;simp only[go_sem,Lz];refine bo (I1136 a n h.z h) a.length o_ ⟨_,0,z_ _,rfl,C,o_,f,o,k_,k_,y_,λi x hi=>by omega⟩ ?_;rintro j I D ⟨tm,p,G,rfl,hk,L,f,o,s,u,r,pre⟩;unfold Nk;simp only[*,go_sem];refine aU (λm=>?_) (λz=>?_)
 ·have m:p<a.length:=o_;have c:=a_ m;have w:=aR encN_len c .i64;have k:∀h:AH,cC (.vp (bU a[p])) h true 5=some (bU a[p]):=λh=>eA rfl rfl h;have A:=aP p o_;obtain⟨_,_,t,⟨b,rfl,g⟩,l⟩:=WS (h:=D) a[p] n (B _ (m_ c)) bn;have y:∀n:NV,bU n=.agg (n_ n):=λ_=>rfl;have nx:=l.z;rw[y a[p]]at k t w;rw[y n]at t;simp only[*,go_sem,LB];cases b with
  |true=>
   simp only[go_sem];exact⟨rfl,rfl,.inr rfl,[.I (p:Int)],by simp only[go_sem,r],.I (p:Int),_,cv_ (aL _ _ _),⟨_,rfl,.inr ⟨o_,by rw[G_,c,g.1 rfl]⟩⟩,hk.trans l⟩
  |false=>
   simp only[*,go_sem];refine⟨j-1,o_,_,p+1,o_,rfl,hk.trans l,o_,l.up f,l.up o,q_ s,q_ u,k_,λi x hi hx=>?_⟩;by_cases q:i=p
   ·subst q;rw[c]at hx;cases hx;exactλq=>absurd (g.2 q) (by simp)
   exact pre i x o_ hx
 simp only[go_sem,LA];refine⟨rfl,rfl,.inr rfl,[.I (-1)],by simp only[go_sem],.I (-1),_,cv_ (aL _ _ _),⟨_,rfl,.inl ⟨o_,λhm=>?_⟩⟩,hk⟩;have⟨i,hi⟩:=J_ hm;exact pre i n (by have:=(E_.1 hi).1;omega) hi rfl
end
