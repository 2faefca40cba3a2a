/- MachineKeeps: environments (definitions and small facts; no condition). -/
import Derived.Test.YtocdlbblemjabaaGreatDoorBc
namespace Go.Proofs.YtocdlbblemjabaaGreatDoor
open Go.AG Go.AG.MK
structure CtV where
 name:ByteArray
 type:T
structure FnV where
 name:ByteArray
 type:T
 arity:Int
 tree:eY
structure DV where
 kind:Int
 name:ByteArray
 params:Int
 type:T
 value:T
 fixed:Int
 ctors:List CtV
 rparams:Int
 rtype:T
 rules:List T
 funs:List FnV
mutual
def dR:eY->AV
 |.mk k body v brs=>.agg [i_ k,i_ body.kind,i_ body.idx,.str body.name,.ls (body.L.map ba),.ls (body.K.map enc),i_ v,.ls (oh brs)]
def oh:List Br->List AV
 |[]=>[]
 |.mk c ab t::l=>.agg (.str c :: .bool ab::(dR t).cells)::oh l
end
def nL:Br->AV
 |.mk c ab t=>.agg (.str c :: .bool ab::(dR t).cells)
theorem va:∀ l:List Br,oh l=l.map nL
 |[]=>rfl
 |.mk c ab t::l=>by rw[oh,va l];rfl
def gh (k:Int)(body:T)(v:Int)(brs:List Br):List AV:=[i_ k,i_ body.kind,i_ body.idx,.str body.name,.ls (body.L.map ba),.ls (body.K.map enc),i_ v,.ls (brs.map nL)]
theorem uX (k:Int)(body:T)(v:Int)(brs:List Br):dR (.mk k body v brs)=.agg (gh k body v brs):=by rw[dR,va];rfl
def jO:eY->Int|.mk k _ _ _=>k
def fX:eY->T|.mk _ b _ _=>b
def gu:eY->Int|.mk _ _ v _=>v
def cy:eY->List Br|.mk _ _ _ l=>l
def bu (t:eY):List AV:=gh (jO t) (fX t) (gu t) (cy t)
theorem lI (t:eY):(dR t).cells=bu t:=by cases t;rw[uX];rfl
theorem bM (t:eY):dR t=.agg (bu t):=by cases t;rw[uX];rfl
def hT (c:CtV):AV:=.agg (.str c.name::aJ c.type)
def fQ (f:FnV):AV:=.agg (.str f.name::(aJ f.type++(i_ f.arity::bu f.tree)))
def bW (d:DV):AV:=.agg (i_ d.kind :: .str d.name :: i_ d.params::(aJ d.type++(aJ d.value++(i_ d.fixed :: .ls (d.ctors.map hT) :: i_ d.rparams::(aJ d.rtype++[.ls (d.rules.map enc),.ls (d.funs.map fQ)])))))
structure EV where
 kind:Int
 decl:Int
 item:Int
 params:Int
 type:T
def rq (e:EV):AV:=.agg (i_ e.kind :: i_ e.decl :: i_ e.item :: i_ e.params::aJ e.type)
theorem lG (t:T):AV.ale (aJ t)=true:=by
 have:=fW t;rw[dF]at this;simpa only[AV.free] using this
theorem lF (t:T):AV.ald (aJ t)=aJ t:=by
 have:=iL t;rw[dF]at this;simp only[AV.norm]at this;injection this
theorem yM (a b:List AV):AV.ale (a++b)=(AV.ale a&&AV.ale b):=by
 induction a with
 |nil=>simp[AV.ale]
 |cons x l ih=>simp[AV.ale,ih,Bool.and_assoc]
mutual
theorem jL:∀ t:eY,(dR t).free=true
 |.mk k body v brs=>by simp[dR,AV.free,AV.ale,bE hJ,bE fW,tU brs]
theorem tU:∀ l:List Br,AV.ale (oh l)=true
 |[]=>rfl
 |.mk c ab t::l=>by
  have h:=jL t;rw[bM]at h;simp only[AV.free]at h;simp[oh,AV.ale,AV.free,lI,h,tU l]
end
mutual
theorem qU:∀ t:eY,(dR t).norm=dR t
 |.mk k body v brs=>by simp[dR,AV.norm,AV.ald,bw fL,bw iL,tT brs]
theorem tT:∀ l:List Br,AV.ald (oh l)=oh l
 |[]=>rfl
 |.mk c ab t::l=>by
  have h:=qU t;rw[bM]at h;simp only[AV.norm]at h;injection h with h;simp only[oh,AV.ald,AV.norm,lI,h,tT l]
end
theorem qW (t:eY):AV.ale (bu t)=true:=by have:=jL t;rw[bM]at this;simpa only[AV.free] using this
theorem qV (t:eY):AV.ald (bu t)=bu t:=by
 have:=qU t;rw[bM]at this;simp only[AV.norm]at this;injection this
theorem Gz (c:CtV):(hT c).free=true:=by simp[hT,AV.free,AV.ale,lG]
theorem Gy (c:CtV):(hT c).norm=hT c:=by simp only[hT,AV.norm,AV.ald,lF]
theorem Gw (f:FnV):(fQ f).free=true:=by simp[fQ,AV.free,AV.ale,yM,lG,qW]
theorem Gv (f:FnV):(fQ f).norm=fQ f:=by simp only[fQ,AV.norm,AV.ald,mM,lF,qV]
theorem Sj (e:EV):(rq e).free=true:=by simp[rq,AV.free,AV.ale,lG]
theorem Si (e:EV):(rq e).norm=rq e:=by simp only[rq,AV.norm,AV.ald,lF]
theorem fg (d:DV):(bW d).free=true:=by
 simp[bW,AV.free,AV.ale,yM,lG,bE Gz,bE Gw,bE fW]
theorem jd (d:DV):(bW d).norm=bW d:=by
 simp only[bW,AV.norm,AV.ald,mM,lF,bw Gy,bw Gv,bw iL]
theorem zj (e:EV)(h:AH):cE (rq e) h=(rq e,h):=by rw[bG (Sj e),Si]
theorem mr (d:DV)(h:AH):cE (bW d) h=(bW d,h):=by rw[bG (fg d),jd]
theorem jD (l:List DV)(h:AH):cE (.ls (l.map bW)) h=(.ls (l.map bW),h):=by
 rw[bG (by simp only[AV.free];exact bE fg l)];simp only[AV.norm,bw jd]
def Fv (nm:ByteArray):ByteArray:=nm++bs [46,114,101,99]
def CO (d:DV)(a:Int):List CtV->Nat->List (ByteArray×EV)
 |[],_=>[]
 |c::l,i=>(c.name,⟨4,a,i,d.params,c.type⟩)::CO d a l (i+1)
def CM (d:DV)(a:Int):List FnV->Nat->List (ByteArray×EV)
 |[],_=>[]
 |f::l,i=>(f.name,⟨6,a,i,d.params,f.type⟩)::CM d a l (i+1)
def iT (d:DV)(a:Int):List (ByteArray×EV):=
 if d.kind=0∨d.kind=1∨d.kind=2 then [(d.name,⟨d.kind,a,0,d.params,d.type⟩)]
 else if d.kind=3 then (d.name,⟨3,a,0,d.params,d.type⟩)::(CO d a d.ctors 0++[(Fv d.name,⟨5,a,0,d.rparams,d.rtype⟩)])
 else if d.kind=4 then CM d a d.funs 0 else []
def lookN (nm:ByteArray):List (ByteArray×EV)->Option EV
 |[]=>none
 |e::l=>if e.1=nm then some e.2 else lookN nm l
def iy (nm:ByteArray):List DV->Nat->Option EV
 |[],_=>none
 |d::l,i=>match lookN nm (iT d i) with
  |some e=>some e
  |none=>iy nm l (i+1)
theorem yF {nm:ByteArray}: ∀ {l:List (ByteArray×EV)} {e:EV},lookN nm l=some e->(nm,e)∈l
 |x::l,e,h=>by
  unfold lookN at h;split at h
  ·rename_i q;cases h;rw[<- q];exact List.mem_cons_self
  ·exact List.mem_cons_of_mem _ (yF h)
theorem yR {d:DV}{a:Int}: ∀ {l:List CtV} {i:Nat} {p:ByteArray×EV},p∈CO d a l i->∃ (j:Nat) (c:CtV),l[j]?=some c/\p=(c.name,⟨4,a,((i+j:Nat):Int),d.params,c.type⟩)
 |c::l,i,p,h=>by
  rcases List.mem_cons.1 h with rfl|h
  ·exact⟨0,c,rfl,rfl⟩
  ·obtain⟨j,x,e1,e2⟩:=yR h;exact⟨j+1,x,by simpa using e1,by rw[e2,show i+1+j=i+(j+1) by omega]⟩
theorem yQ {d:DV}{a:Int}: ∀ {l:List FnV} {i:Nat} {p:ByteArray×EV},p∈CM d a l i->∃ (j:Nat) (c:FnV),l[j]?=some c/\p=(c.name,⟨6,a,((i+j:Nat):Int),d.params,c.type⟩)
 |c::l,i,p,h=>by
  rcases List.mem_cons.1 h with rfl|h
  ·exact⟨0,c,rfl,rfl⟩
  ·obtain⟨j,x,e1,e2⟩:=yQ h;exact⟨j+1,x,by simpa using e1,by rw[e2,show i+1+j=i+(j+1) by omega]⟩
inductive Ent (env:List DV):EV->Prop where
 |plain (k:Int) (n:Nat) (d:DV) (p:Int) (t:T):env[n]?=some d->d.kind=k->(k=0∨k=1∨k=2∨k=3)->Ent env ⟨k,n,0,p,t⟩
 |ctor (n j:Nat) (d:DV) (c:CtV) (p:Int):env[n]?=some d->d.kind=3->d.ctors[j]?=some c->Ent env ⟨4,n,j,p,c.type⟩
 |rcr (n:Nat) (d:DV) (p:Int) (t:T):env[n]?=some d->d.kind=3->Ent env ⟨5,n,0,p,t⟩
 |fn (n j:Nat) (d:DV) (f:FnV) (p:Int):env[n]?=some d->d.kind=4->d.funs[j]?=some f->Ent env ⟨6,n,j,p,f.type⟩
theorem pg {nm:ByteArray}(env:List DV):∀ (l:List DV) (i:Nat) (e:EV),(∀ j,l[j]?=env[i+j]?)->iy nm l i=some e->Ent env e
 |[],_,_,_,h=>by cases h
 |d::l,i,e,hl,h=>by
  unfold iy at h;have hd:env[i]?=some d:=by have:=hl 0;simpa using this.symm
  cases hk:lookN nm (iT d i) with
  |none=>
   rw[hk]at h;exact pg env l (i+1) e (fun j=>by have:=hl (j+1);simpa [show i+(j+1)=i+1+j by omega] using this) h
  |some x=>
   rw[hk]at h;cases h;have hm:=yF hk;unfold iT at hm;split at hm
   ·rename_i q;rw[List.mem_singleton]at hm;cases hm;exact .plain _ _ _ _ _ hd rfl o_
   ·split at hm
    ·rename_i q;rcases List.mem_cons.1 hm with hm|hm
     ·cases hm;exact .plain _ _ _ _ _ hd q o_
     ·rcases List.mem_append.1 hm with hm|hm
      ·obtain⟨j,c,e1,e2⟩:=yR hm;cases e2;rw[z_];exact .ctor _ _ _ _ _ hd q e1
      ·rw[List.mem_singleton]at hm;cases hm;exact .rcr _ _ _ _ hd q
    ·split at hm
     ·rename_i q;obtain⟨j,c,e1,e2⟩:=yQ hm;cases e2;rw[z_];exact .fn _ _ _ _ _ hd q e1
     ·cases hm
def gk:T->List T
 |.mk k _ _ _ [a,b]=>if k=6 then a::gk b else []
 |_=>[]
def nW:T->T
 |.mk k i nm ls [a,b]=>if k=6 then nW b else .mk k i nm ls [a,b]
 |t=>t
def firstOf (d:DV):Nat:=(d.fixed+1+d.ctors.length).toNat
def Tl (env:List DV)(nm:ByteArray)(n:Nat):Cst:=
 match iy nm env 0 with
 |none=>.rigid
 |some e=>if e.params=n then
   match env[e.decl.toNat]? with
   |none=>.rigid
   |some d=>
    if e.kind=1 then .dfn d.value
    else if e.kind=5 then .rcr (firstOf d) (firstOf d+((gk d.type).length:Int)-d.fixed).toNat d.name d.rules
    else if e.kind=6 then
     match d.funs[e.item.toNat]? with
     |none=>.rigid
     |some f=>.fn f.arity.toNat f.tree
    else .rigid
  else .rigid
def CS (env:List DV)(nm:ByteArray):Option (ByteArray×Nat×Nat×Nat×ByteArray):=
 match iy nm env 0 with
 |none=>none
 |some e=>if e.kind=4 then
   match env[e.decl.toNat]? with
   |none=>none
   |some d=>match d.ctors[e.item.toNat]? with
    |none=>none
    |some c=>some (d.name,e.item.toNat,(gk c.type).length,d.fixed.toNat,c.name)
  else none
theorem wx {α:Type}{f:α->AV}{base sz:Nat}{agg:Bool}{h:AH}{V:AV}{l:List α}(hf:∀ x,(f x).norm=f x)(hs:agg=false->sz=1)(o:Own base sz agg h V (l.map f)):∃ h',cE V h=(.ls (l.map f),h')/\h'.z=h.z/\∀ k,k<base->h'.get k=h.get k:=by
 rcases own_shut o hs with⟨rfl,e,_⟩|⟨k,g,e1,e2,e3,e4⟩
 ·rw[List.map_eq_nil_iff]at e;subst e;exact⟨h,dU h,rfl,fun _ _=>rfl⟩
 ·refine⟨h.set k (.row g sz agg (flat (l.map f)) ((l.map f).length*sz)),?_,alb _ _ _,fun k' hk=>aB o_⟩;have:py V h=cP V h:=by rw[e1];rfl
  rw[cE,this,e2];show(AV.ls (AV.ald _),_)=_;rw[bw hf]
theorem OM (t:T)(h:AH)(a' b' c' d' e':AV):fY true true 5 [a',b',c',d',e'] 1 [(0,5,enc t)] h=.val (.clip [enc t]) h:=by rw[aU];rfl
theorem wC (t:T):(enc t).lies=true:=by rw[aU];rfl
theorem vg (t:T)(h:AH):cE (.agg (aJ t)) h=(enc t,h):=by rw[<- dF];exact bR t h
theorem Ac {k i:Int}{nm:ByteArray}{ls:List LL}{ks:List T}(h:¬ (k=6/\ks.length=2)):gk (.mk k i nm ls ks)=[]/\nW (.mk k i nm ls ks)=.mk k i nm ls ks:=by
 match ks with
 |[]=>exact⟨by rw[gk];intros;simp_all,by rw[nW];intros;simp_all⟩
 |[a]=>exact⟨by rw[gk];intros;simp_all,by rw[nW];intros;simp_all⟩
 |[a,b]=>
  have hk:¬ k=6:=fun e=>h ⟨e,rfl⟩
  exact⟨by rw[gk,N_ hk],by rw[nW,N_ hk]⟩
 |a::b::c::l=>exact⟨by rw[gk];intros;simp_all,by rw[nW];intros;simp_all⟩
structure J312 (t:T)(h0 h:AH)(c:T)(V:AV)(out:List T):Prop where
 b1:h.get h0.z=some (.box (aJ c))
 b2:h.get (h0.z+1)=some (.box [i_ 0,i_ 0,.str (bs []),.nl,.nl])
 own:Own (h0.z+2) 5 true h V (out.map enc)
 kw:HK h0 h
 nx:h0.z+2<=h.z
 sp:gk t=out++gk c/\nW t=nW c
 sz:size c+out.length<=size t
def I312 (t:T)(h0:AH)(j:Nat)(fr:AF)(h:AH):Prop:=∃ tm c V out,j=size c/\fr=⟨tm,⟨[],.no,none,145⟩⟩/\nth tm 1=.ptr h0.z 0 0/\nth tm 3=.ptr (h0.z+1) 0 0/\nth tm 4=V/\J312 t h0 h c V out
theorem c312 {K:aQ}(hK:aZ K)(m:Nat)(t:T)(h:AH)(hl:size t<50000):
  ∃ v h',cS K (m+1) (.fn 145 [] []) [enc t] .no h=some (.ret v,.no,h')/\v=.tup [.ls ((gk t).map enc),enc (nW t)]/\HK h h':=by
 refine bh hK cf312 (ae (bR _ _) (aC _)) ?_;simp only[A_];rw[aU t];unfold b312;simp only[go_sem,simprocAttr];obtain⟨H,hH⟩:∃ H:AH,H=((h.new (.box [i_ t.kind,i_ t.idx,.str t.name,.ls (t.L.map ba),.ls (t.K.map enc)])).new (.box [i_ 0,i_ 0,.str (bs []),.nl,.nl])):=⟨_,rfl⟩
 have n1:=ala h (.box [i_ t.kind,i_ t.idx,.str t.name,.ls (t.L.map ba),.ls (t.K.map enc)]);have J0:J312 t h H t .nl []:=by
  refine⟨?_,?_,fp _ _ _ _,by rw[hH];exact(HK.new _ _).add _,by rw[hH,ala,n1];omega,⟨by simp,rfl⟩,by simp⟩
  ·rw[hH,aL o_,aE];rfl
  ·rw[hH,<- n1,aE]
 rw[<- hH];clear hH;simp only[go_sem,simprocAttr,Xs,Xt,n1];refine bB (I312 t h) (size t) o_ ⟨_,t,.nl,[],rfl,rfl,k_,k_,k_,J0⟩ ?_;rintro j fr H1 ⟨tm,c,V,out,rfl,rfl,t1,t3,t4,J⟩;have g1:=J.b1;have g2:=J.b2;have o:=J.own;unfold aJ at g1;have nx:=J.nx;have szc:=J.sz;have hend:∀ tm,nth tm 1=.ptr h.z 0 0->nth tm 3=.ptr (h.z+1) 0 0->nth tm 4=V->¬ (c.kind=6/\c.K.length=2)->
   R (cS K m) 1000000000000 [.code HJ] (IQ akR fun v h2=>∃ v' h3,cG v h2=(v',h3)/\v'=.tup [.ls ((gk t).map enc),enc (nW t)]/\HK h h3) .normal ⟨tm,⟨[],.no,none,145⟩⟩ H1:=by
  intro tm t1 t3 t4 hs;have sp:=J.sp;have ht:gk c=[]/\nW c=c:=by cases c;exact Ac hs
  rw[ht.1,ht.2,A_]at sp;have hne:¬ h.z+1=h.z:=o_;simp only[go_sem,simprocAttr,HJ,t1,t3,t4,g1,g2];obtain⟨H3,e3,n3,k3⟩:=wx iL (fun e=>by cases e) (cd (h':=H1.set (h.z+1) (.box (aJ c))) o (by rw[alb];exact e_ _) (fun a q _=>aB o_));have e5:=vg c H3;unfold aJ at e3 e5;refine⟨rfl,rfl,.inr rfl,[V,.agg [_,_,_,_,_]],by simp only[go_sem,simprocAttr,akR,t3],_,_,bz (ae e3 (ae e5 (aC _))),?_,?_,?_⟩
  ·rw[sp.1,sp.2]
  ·rw[n3,alb];have:=J.kw.z;omega
  ·intro k hk;rw[k3 k o_,aB o_];exact J.kw.kw k hk
 unfold Zw;simp only[go_sem,simprocAttr,t1,g1];by_cases hk:c.kind=6
 ·simp only[go_sem,simprocAttr,hk,t1,g1];by_cases hl2:c.K.length=2
  ·obtain⟨k,i,nm,ls,ks⟩:=c;simp only[T.K,T.kind]at hl2 hk;subst hk
   match ks,hl2 with
   |[f,a],_=>
    have hsc:size (.mk 6 i nm ls [f,a])=1+(size f+(size a+0)):=by simp only[size,bO]
    have hf:=bZ f;have ha:∀ h,cz (.ls ([f,a].map enc)) h 5 (i_ 0)=.val (.vptr (enc f)) h:=fun h=>aK (ks:=[f,a]) (m:=0) bJ rfl .i64 h
    have hb:∀ h,cz (.ls ([f,a].map enc)) h 5 (i_ 1)=.val (.vptr (enc a)) h:=fun h=>aK (ks:=[f,a]) (m:=1) bJ rfl .i64 h
    simp only[T.kind,T.idx,T.name,T.L,T.K,List.map_cons,List.map_nil]at ha hb g1;have h22:decide (((2:Nat):Int)=2)=true:=rfl;obtain⟨V',H4,e4,o4,n4,k4,_⟩:=dD (bytes:=80) (x:=enc f) (z:=[i_ 0,i_ 0,.str (bs []),.nl,.nl]) o o_ rfl (bJ f) (hG f) (wC f) (by rw[L_];omega) (by decide);have g1':=(k4 h.z o_).trans g1;have hst:=du g1' a;simp only[go_sem,simprocAttr,T.K,t1,t4,g1,hb,OM,e4,g1',ha,hst];have sp:=J.sp;rw[gk,nW,P_ rfl,P_ rfl]at sp;refine⟨_,o_,_,a,V',out++[f],rfl,rfl,q_ t1,q_ t3,k_,⟨aH _ _ _,?_,?_,?_,?_,?_,?_⟩⟩
    ·rw[aB o_,k4 _ o_];exact g2
    ·rw[List.map_append];exact cd o4 (by rw[alb];exact e_ _) (fun a q _=>aB o_)
    ·have:=J.kw.z;exact HK.set ⟨o_,fun k hk=>(k4 k o_).trans (J.kw.kw k hk)⟩ _ o_
    ·rw[alb];omega
    ·refine⟨by rw[sp.1];simp,sp.2⟩
    ·simp only[List.length_append,List.length_cons,List.length_nil];omega
  ·have:decide ((c.K.length:Int)=2)=false:=by simp;omega
   simp only[go_sem,simprocAttr,this];exact hend _ (q_ t1) (q_ t3) (q_ t4) (fun e=>hl2 e.2)
 ·simp only[go_sem,simprocAttr,hk];exact hend _ (q_ t1) (q_ t3) (q_ t4) (fun e=>hk e.1)
def nU (c:CtV):List AV:=[.str c.name,i_ c.type.kind,i_ c.type.idx,.str c.type.name,.ls (c.type.L.map ba),.ls (c.type.K.map enc)]
theorem wO (c:CtV):hT c=.agg (nU c):=rfl
theorem fN (c:CtV):(hT c).cells.length=6:=rfl
def iP (f:FnV):List AV:=[.str f.name,i_ f.type.kind,i_ f.type.idx,.str f.type.name,.ls (f.type.L.map ba),.ls (f.type.K.map enc),i_ f.arity,
 i_ (jO f.tree),i_ (fX f.tree).kind,i_ (fX f.tree).idx,.str (fX f.tree).name,.ls ((fX f.tree).L.map ba),.ls ((fX f.tree).K.map enc),i_ (gu f.tree),.ls ((cy f.tree).map nL)]
theorem EW (f:FnV):fQ f=.agg (iP f):=rfl
theorem gj (f:FnV):(fQ f).cells.length=15:=rfl
def aM (d:DV):List AV:=[i_ d.kind,.str d.name,i_ d.params,i_ d.type.kind,i_ d.type.idx,.str d.type.name,.ls (d.type.L.map ba),.ls (d.type.K.map enc),
 i_ d.value.kind,i_ d.value.idx,.str d.value.name,.ls (d.value.L.map ba),.ls (d.value.K.map enc),i_ d.fixed,.ls (d.ctors.map hT),i_ d.rparams,
 i_ d.rtype.kind,i_ d.rtype.idx,.str d.rtype.name,.ls (d.rtype.L.map ba),.ls (d.rtype.K.map enc),.ls (d.rules.map enc),.ls (d.funs.map fQ)]
theorem cA (d:DV):bW d=.agg (aM d):=rfl
theorem eL (d:DV):(bW d).cells.length=23:=rfl
def bo (e:EV):List AV:=[i_ e.kind,i_ e.decl,i_ e.item,i_ e.params,i_ e.type.kind,i_ e.type.idx,.str e.type.name,.ls (e.type.L.map ba),.ls (e.type.K.map enc)]
theorem fM (e:EV):rq e=.agg (bo e):=rfl
theorem cI {v:AV}{sz:Nat}(h1:v.isAgg=true)(h2:v.cells.length=sz)(h:AH):cj (.vptr v) h true sz=some v:=fI true sz h1 h2
theorem Eu {α:Type}: ∀ (vs cs:List α),cs.length=vs.length->over vs cs=vs
 |[],[],_=>rfl
 |v::vs,c::cs,h=>by
  show v::over vs cs=_;rw[Eu vs cs (by simpa using h)]
theorem bp {h:AH}{k sz:Nat}{cs vs:List AV}(g:h.get k=some (.box cs))(hl:cs.length=sz)(hv:vs.length=sz):dQ (.ptr k 0 0) h sz (.agg vs)=some (h.set k (.box vs)):=by
 rw[gU _ _ _ _ (EI vs) hv,g,aI,yU,om _ _ _ o_,aI];show some (h.set k (.box (over vs cs)))=_;rw[Eu _ _ o_]
structure HW (W:List Nat)(h h':AH):Prop where
 z:h.z<=h'.z
 kw:∀ k,k<h.z->k ∉ W->h'.get k=h.get k
section
variable {W:List Nat}{h h' h'':AH}
theorem HW.refl (h:AH):HW W h h:=⟨e_ _,fun _ _ _=>rfl⟩
theorem HW.trans (x:HW W h h')(y:HW W h' h''):HW W h h'':=⟨Nat.le_trans x.z y.z,fun k a b=>(y.kw k (Nat.lt_of_lt_of_le a x.z) b).trans (x.kw k a b)⟩
theorem HK.w (x:HK h h'):HW W h h':=⟨x.z,fun k a _=>x.kw k a⟩
end
structure Yd (K:aQ)(m l:Nat)(nm:ByteArray)(W:List Nat)(Y:AH->Prop)(D:EV->AH->Prop):Prop where
 up:∀ h h',Y h->HK h h'->Y h'
 run:∀ s e h,Y h->∃ b h',cS K m (.yld l) [.str s,.agg (bo e)] .no h=some (.ret (.bool b),.no,h')/\HW W h h'/\((s=nm/\b=false/\D e h')∨(s≠nm/\b=true/\Y h'))
def Ld (Y:AH->Prop)(D:EV->AH->Prop)(o:Option EV)(h:AH):Prop:=match o with
 |some e=>D e h
 |none=>Y h
theorem Ik (h:AH):fY true false 1 [i_ 0] 3 [(0,1,i_ 0),(1,1,i_ 1),(2,1,i_ 2)] h=.val (.clip [i_ 0,i_ 1,i_ 2]) h:=(rfl)
theorem nj (i j k:Nat)(x y z:AX)(tm:Tm)(sz:Nat):cD [(i,x),(j,y),(k,z)] tm sz=[(i*sz,sz,ev x tm),(j*sz,sz,ev y tm),(k*sz,sz,ev z tm)]:=(rfl)
theorem acW (h:AH)(k:Int)(hk:k=0∨k=1∨k=2):cz (.clip [i_ 0,i_ 1,i_ 2]) h 1 (i_ k)=.val (.vptr (i_ k)) h:=by
 rcases hk with rfl|rfl|rfl<;>rfl
theorem Fk (h:AH)(x y k i:Int)(s:ByteArray)(l1 l2:List AV):bT h [i_ 0,i_ 0,i_ 0,i_ 0,i_ 0,i_ 0,.str (bs []),.nl,.nl] [(1,1,i_ x),(3,1,i_ y),(4,5,.agg [i_ k,i_ i,.str s,.ls l1,.ls l2])] =
 .val (.agg [i_ 0,i_ x,i_ 0,i_ y,i_ k,i_ i,.str s,.ls l1,.ls l2]) h:=(rfl)
theorem rX (h:AH)(z x w y k i:Int)(s:ByteArray)(l1 l2:List AV):bT h [i_ 0,i_ 0,i_ 0,i_ 0,i_ 0,i_ 0,.str (bs []),.nl,.nl] [(0,1,i_ z),(1,1,i_ x),(2,1,i_ w),(3,1,i_ y),(4,5,.agg [i_ k,i_ i,.str s,.ls l1,.ls l2])] =
 .val (.agg [i_ z,i_ x,i_ w,i_ y,i_ k,i_ i,.str s,.ls l1,.ls l2]) h:=(rfl)
theorem Fj (h:AH)(z x y k i:Int)(s:ByteArray)(l1 l2:List AV):bT h [i_ 0,i_ 0,i_ 0,i_ 0,i_ 0,i_ 0,.str (bs []),.nl,.nl] [(0,1,i_ z),(1,1,i_ x),(3,1,i_ y),(4,5,.agg [i_ k,i_ i,.str s,.ls l1,.ls l2])] =
 .val (.agg [i_ z,i_ x,i_ 0,i_ y,i_ k,i_ i,.str s,.ls l1,.ls l2]) h:=(rfl)
theorem Dz (a:ByteArray)(ha:a.size<=100000):CG .add a (bs [46,114,101,99])=some (.str (Fv a)):=by
 show cond (Nat.blt 9223372036854775807 (Nat.add a.size (bs [46,114,101,99]).size)) none (some (AV.str (a++bs [46,114,101,99])))=_;have e:Nat.blt 9223372036854775807 (Nat.add a.size (bs [46,114,101,99]).size)=false:=by
  have:(bs [46,114,101,99]).size=4:=rfl;rw[this];cases hb:Nat.blt 9223372036854775807 (Nat.add a.size 4) with
  |false=>rfl
  |true=>have:=Nat.le_of_ble_eq_true hb;replace this:9223372036854775807+1<=a.size+4:=this;omega
 rw[e];rfl
theorem c282 {K:aQ}(hK:aZ K)(m:Nat)(d:DV)(a:Int)(h:AH):
  ∃ v h',cS K (m+1) (.fn 178 [] []) [bW d,i_ a] .no h=some (.ret v,.no,h')/\v=.fn (199) [] [.ptr (h.z+1) 0 0,.ptr h.z 0 0]/\h'.z=h.z+2/\h'.get h.z=some (.box (aM d))/\h'.get (h.z+1)=some (.box [i_ a])/\HK h h':=by
 refine bh hK cf282 (ae (mr _ _) (ae (aG _ _ _) (aC _))) ?_;simp only[A_];rw[cA];have n1:=ala h (.box (aM d));have n2:=ala (h.new (.box (aM d))) (.box [i_ a]);have g1:((h.new (.box (aM d))).new (.box [i_ a])).get h.z=some (.box (aM d)):=by rw[aL o_,aE]
 have g2:((h.new (.box (aM d))).new (.box [i_ a])).get (h.z+1)=some (.box [i_ a]):=by rw[<- n1,aE]
 have eb:=bN (h:=h) (aM d) 23 rfl;unfold b282;simp only[go_sem,simprocAttr,eb,Zu,n1,XB];refine⟨rfl,rfl,.inr rfl,[.fn (199) [] [.ptr (h.z+1) 0 0,.ptr h.z 0 0]],by simp only[go_sem,simprocAttr,r282],_,_,aS (by intro l e;cases e) (iR _ _ _ _),by simp[AV.ald,AV.norm],by rw[n2,n1],g1,g2,(HK.new _ _).add _⟩
def I302c (h0:AH)(W:List Nat)(Y:AH->Prop)(d:DV)(a:Int)(nm:ByteArray)(pa pd l _b4:Nat)(j:Nat)(fr:AF)(h:AH):Prop:=∃ tm p,p+j=d.ctors.length/\fr=⟨tm,⟨[],.no,none,199⟩⟩/\Y h/\HW W h0 h/\
 nth tm 0=.yld l/\nth tm 1=.ptr pa 0 0/\nth tm 2=.ptr pd 0 0/\nth tm 42=.ls (d.ctors.map hT)/\nth tm 43=i_ (d.ctors.length:Int)/\nth tm 44=i_ (p:Int)/\d.kind=3/\
 lookN nm (iT d a)=lookN nm (CO d a (d.ctors.drop p) p++[(Fv d.name,⟨5,a,0,d.rparams,d.rtype⟩)])
def I302f (h0:AH)(W:List Nat)(Y:AH->Prop)(d:DV)(a:Int)(nm:ByteArray)(pa pd l _b4:Nat)(j:Nat)(fr:AF)(h:AH):Prop:=∃ tm p,p+j=d.funs.length/\fr=⟨tm,⟨[],.no,none,199⟩⟩/\Y h/\HW W h0 h/\
 nth tm 0=.yld l/\nth tm 1=.ptr pa 0 0/\nth tm 2=.ptr pd 0 0/\nth tm 78=.ls (d.funs.map fQ)/\nth tm 79=i_ (d.funs.length:Int)/\nth tm 80=i_ (p:Int)/\
 lookN nm (iT d a)=lookN nm (CM d a (d.funs.drop p) p)
theorem nh (nm:ByteArray)(s:ByteArray)(e:EV)(l:List (ByteArray×EV)):lookN nm ((s,e)::l)=if s=nm then some e else lookN nm l:=rfl
theorem vT {α:Type}{l:List α}{p:Nat}{x:α}(h:l[p]?=some x):l.drop p=x::l.drop (p+1):=by
 obtain⟨h1,h2⟩:=E_.1 h;rw[List.drop_eq_getElem_cons h1,h2]
theorem c302 {K:aQ}(hK:aZ K){m l:Nat}{nm:ByteArray}{W:List Nat}{Y:AH->Prop}{D:EV->AH->Prop}(yd:Yd K m l nm W Y D){d:DV}{a:Int}{pa pd:Nat}{h:AH}(hy:Y h)
  (ga:h.get pa=some (.box [i_ a])) (gd:h.get pd=some (.box (aM d))) (la:pa<h.z) (ld:pd<h.z) (wa:pa ∉ W) (wd:pd ∉ W) (_hW:∀ k∈W,k<h.z)
  (hc:d.ctors.length<1000) (hf:d.funs.length<1000) (hn:d.name.size<=100000) :
  ∃ v h',cS K (m+1) (.fn 199 [] [.ptr pa 0 0,.ptr pd 0 0]) [.yld l] .no h=some (.ret v,.no,h')/\v=.tup []/\HW W h h'/\Ld Y D (lookN nm (iT d a)) h':=by
 refine bh hK cf302 (ae (Ww _ _) (aC _)) ?_;have fin:∀ (tm:Tm) (H:AH) (e:AEx),(e=.normal∨e=.ret)->HW W h H->Ld Y D (lookN nm (iT d a)) H->IQ r302 (fun v h2=>∃ v' h3,cG v h2=(v',h3)/\v'=.tup []/\HW W h h3/\Ld Y D (lookN nm (iT d a)) h3) e ⟨tm,⟨[],.no,none,199⟩⟩ H:=
  fun tm H e he hw hl=>⟨rfl,rfl,he,[],rfl,.tup [],H,bz (aC _),rfl,hw,hl⟩
 unfold aM at gd;unfold b302;simp only[go_sem,simprocAttr,List.cons_append,List.nil_append,ga,gd,Fk,Xu];obtain⟨H,hH⟩:∃ H:AH,H=(h.new (.box [i_ 0,i_ 0,i_ 0,i_ 0,i_ 0,i_ 0,.str (bs []),.nl,.nl])).set h.z (.box [i_ 0,i_ a,i_ 0,i_ d.params,i_ d.type.kind,i_ d.type.idx,.str d.type.name,.ls (d.type.L.map ba),.ls (d.type.K.map enc)]):=⟨_,rfl⟩
 rw[<- hH];have kk:HK h H:=by rw[hH];exact(HK.new _ _).set _ (e_ _)
 have gb:H.get h.z=some (.box [i_ 0,i_ a,i_ 0,i_ d.params,i_ d.type.kind,i_ d.type.idx,.str d.type.name,.ls (d.type.L.map ba),.ls (d.type.K.map enc)]):=by rw[hH,aH]
 have nH:H.z=h.z+1:=by rw[hH,alb,ala]
 clear hH;have gaH:=(kk.kw _ la).trans ga;have gdH:=(kk.kw _ ld).trans gd;have yH:=yd.up _ _ hy kk;have hYd:∀ (s:ByteArray) (e:EV) (H2:AH),Y H2->HW W h H2->∃ b H3,cS K m (.yld l) [.str s,.agg (bo e)] .no H2=some (.ret (.bool b),.no,H3)/\HW W h H3/\((s=nm/\b=false/\D e H3)∨(s≠nm/\b=true/\Y H3)):=fun s e H2 y w=>by
  obtain⟨b,H3,e1,w3,q⟩:=yd.run s e H2 y;exact⟨b,H3,e1,w.trans w3,q⟩
 have hset:∀ cs,HK h (H.set h.z (.box cs)):=fun cs=>kk.set _ (e_ _)
 have gdS:∀ o,(H.set h.z o).get pd=_:=fun o=>(aB o_).trans gdH
 by_cases hp:d.kind=0∨d.kind=1∨d.kind=2
 ·have he:iT d a=[(d.name,⟨d.kind,a,0,d.params,d.type⟩)]:=P_ hp;have hi:=fun h=>acW h d.kind hp
  obtain⟨b,H3,e3,w3,q⟩:=hYd d.name ⟨d.kind,a,0,d.params,d.type⟩ _ (yd.up _ _ hy (hset _)) (hset (bo ⟨d.kind,a,0,d.params,d.type⟩)).w;simp only[bo]at e3;have hl:Ld Y D (lookN nm (iT d a)) H3:=by
   rw[he,nh];rcases q with⟨q1,_,q2⟩|⟨q1,_,q2⟩
   ·rw[P_ q1];exact q2
   ·rw[N_ q1];exact q2
  rcases hp with hk|hk|hk
  ·have d0:decide (d.kind=0)=true:=T_ hk;simp only[go_sem,simprocAttr,gdH,d0,nj,Ik,hi,gb,gdS,e3];exact fin _ _ _ (.inl rfl) w3 hl
  ·have d0:decide (d.kind=0)=false:=d_;have d1:decide (d.kind=1)=true:=T_ hk;simp only[go_sem,simprocAttr,gdH,d0,d1,nj,Ik,hi,gb,gdS,e3];exact fin _ _ _ (.inl rfl) w3 hl
  ·have d0:decide (d.kind=0)=false:=d_;have d1:decide (d.kind=1)=false:=d_;have d2:decide (d.kind=2)=true:=T_ hk;simp only[go_sem,simprocAttr,gdH,d0,d1,d2,nj,Ik,hi,gb,gdS,e3];exact fin _ _ _ (.inl rfl) w3 hl
 ·have d0:decide (d.kind=0)=false:=d_;have d1:decide (d.kind=1)=false:=d_;have d2:decide (d.kind=2)=false:=d_;by_cases h3:d.kind=3
  ·have d3:decide (d.kind=3)=true:=T_ h3;have he:iT d a=(d.name,⟨3,a,0,d.params,d.type⟩)::(CO d a d.ctors 0++[(Fv d.name,⟨5,a,0,d.rparams,d.rtype⟩)]):=by unfold iT;rw[N_ hp,P_ h3]
   obtain⟨b,H3,e3,w3,q⟩:=hYd d.name ⟨3,a,0,d.params,d.type⟩ _ (yd.up _ _ hy (hset _)) (hset (bo ⟨3,a,0,d.params,d.type⟩)).w;simp only[bo]at e3;have gd3:=(w3.kw _ ld wd).trans gd;simp only[go_sem,simprocAttr,gdH,d0,d1,d2,d3,gb,gdS,e3];rcases q with⟨q1,rfl,q2⟩|⟨q1,rfl,q2⟩
   ·simp only[go_sem,simprocAttr];refine fin _ _ _ (.inr rfl) w3 ?_;rw[he,nh,P_ q1];exact q2
   ·simp only[go_sem,simprocAttr,gd3];refine bB (I302c h W Y d a nm pa pd l h.z) d.ctors.length o_ ⟨_,0,o_,rfl,q2,w3,k_,k_,k_,k_,k_,k_,h3,by rw[he,nh,N_ q1];rfl⟩ ?_;rintro j fr H4 ⟨tm,p,hp5,rfl,y4,w4,t0,t1,t2,t42,t43,t44,_,hlk⟩;have ga4:=(w4.kw _ la wa).trans ga;have gd4:=(w4.kw _ ld wd).trans gd;have nx4:=w4.z;unfold Zy;simp only[go_sem,simprocAttr,t43,t44,Xy];refine aX (fun hlt=>?_) (fun hge=>?_)
    ·have hlt:p<d.ctors.length:=o_;have hget:d.ctors[p]?=some d.ctors[p]:=a_ hlt;revert hget;generalize d.ctors[p]=c;intro hget;have ha:=fun h=>aK fN hget .i64 h
     have hld:=fun h=>cI (v:=hT c) (sz:=6) rfl rfl h
     have hst:=bp (h:=H4.new (.box [.str (bs []),i_ 0,i_ 0,.str (bs []),.nl,.nl])) (vs:=nU c) (sz:=6) (aE _ _) rfl rfl;rw[wO]at ha hld;obtain⟨H5,hH5⟩:∃ H5:AH,H5=(H4.new (.box [.str (bs []),i_ 0,i_ 0,.str (bs []),.nl,.nl])).set H4.z (.box (nU c)):=⟨_,rfl⟩
     rw[<- hH5]at hst;have k5:HK H4 H5:=by rw[hH5];exact(HK.new _ _).set _ (e_ _)
     have g5:H5.get H4.z=some (.box (nU c)):=by rw[hH5,aH]
     clear hH5;have ga5:=(k5.kw _ o_).trans ga4;have gd5:=(k5.kw _ o_).trans gd4;have hw2:=aP p o_;obtain⟨b,H6,e6,w6,q6⟩:=hYd c.name ⟨4,a,p,d.params,c.type⟩ H5 (yd.up _ _ y4 k5) (w4.trans k5.w);simp only[bo]at e6;unfold nU at g5;simp only[go_sem,simprocAttr,Xz,t42,t44,ha,hld,hst,XA,t0,t1,t2,g5,ga5,gd5,rX,e6];have hl2:lookN nm (iT d a)=if c.name=nm then some ⟨4,a,p,d.params,c.type⟩ else lookN nm (CO d a (d.ctors.drop (p+1)) (p+1)++[(Fv d.name,⟨5,a,0,d.rparams,d.rtype⟩)]):=by
      rw[hlk,vT hget];rfl
     rcases q6 with⟨q1,rfl,q2⟩|⟨q1,rfl,q2⟩
     ·simp only[go_sem,simprocAttr];refine fin _ _ _ (.inr rfl) w6 ?_;rw[hl2,P_ q1];exact q2
     ·simp only[go_sem,simprocAttr,t44,hw2];exact⟨j-1,o_,_,p+1,o_,rfl,q2,w6,q_ t0,q_ t1,q_ t2,q_ t42,q_ t43,k_,h3,by rw[hl2,N_ q1]⟩
    ·have hp5:p=d.ctors.length:=o_;subst hp5;rw[List.drop_length]at hlk;obtain⟨b,H6,e6,w6,q6⟩:=hYd (Fv d.name) ⟨5,a,0,d.rparams,d.rtype⟩ H4 y4 w4;simp only[bo]at e6;have hadd:=Dz d.name hn;simp only[go_sem,simprocAttr,t0,t1,t2,gd4,hadd,ga4,Fj,e6];refine fin _ _ _ (.inl rfl) w6 ?_;rw[hlk];show Ld Y D (lookN nm [(Fv d.name,_)]) H6;rw[nh];rcases q6 with⟨q1,_,q2⟩|⟨q1,_,q2⟩
     ·rw[P_ q1];exact q2
     ·rw[N_ q1];exact q2
  ·have d3:decide (d.kind=3)=false:=D_ h3;by_cases h4:d.kind=4
   ·have d4:decide (d.kind=4)=true:=T_ h4;have he:iT d a=CM d a d.funs 0:=by unfold iT;rw[N_ hp,N_ h3,P_ h4]
    simp only[go_sem,simprocAttr,gdH,d0,d1,d2,d3,d4];refine bB (I302f h W Y d a nm pa pd l h.z) d.funs.length o_ ⟨_,0,o_,rfl,yH,kk.w,k_,k_,k_,k_,k_,k_,by rw[he];rfl⟩ ?_;rintro j fr H4 ⟨tm,p,hp5,rfl,y4,w4,t0,t1,t2,t78,t79,t80,hlk⟩;have ga4:=(w4.kw _ la wa).trans ga;have gd4:=(w4.kw _ ld wd).trans gd;have nx4:=w4.z;unfold Zx;simp only[go_sem,simprocAttr,t79,t80,Xv];refine aX (fun hlt=>?_) (fun hge=>?_)
    ·have hlt:p<d.funs.length:=o_;have hget:d.funs[p]?=some d.funs[p]:=a_ hlt;revert hget;generalize d.funs[p]=c;intro hget;have ha:=fun h=>aK gj hget .i64 h
     have hld:=fun h=>cI (v:=fQ c) (sz:=15) rfl rfl h
     have hst:=bp (h:=H4.new (.box [.str (bs []),i_ 0,i_ 0,.str (bs []),.nl,.nl,i_ 0,i_ 0,i_ 0,i_ 0,.str (bs []),.nl,.nl,i_ 0,.nl])) (vs:=iP c) (sz:=15) (aE _ _) rfl rfl;rw[EW]at ha hld;obtain⟨H5,hH5⟩:∃ H5:AH,H5=(H4.new (.box [.str (bs []),i_ 0,i_ 0,.str (bs []),.nl,.nl,i_ 0,i_ 0,i_ 0,i_ 0,.str (bs []),.nl,.nl,i_ 0,.nl])).set H4.z (.box (iP c)):=⟨_,rfl⟩
     rw[<- hH5]at hst;have k5:HK H4 H5:=by rw[hH5];exact(HK.new _ _).set _ (e_ _)
     have g5:H5.get H4.z=some (.box (iP c)):=by rw[hH5,aH]
     clear hH5;have ga5:=(k5.kw _ o_).trans ga4;have gd5:=(k5.kw _ o_).trans gd4;have hw2:=aP p o_;obtain⟨b,H6,e6,w6,q6⟩:=hYd c.name ⟨6,a,p,d.params,c.type⟩ H5 (yd.up _ _ y4 k5) (w4.trans k5.w);simp only[bo]at e6;unfold iP at g5;simp only[go_sem,simprocAttr,Xw,t78,t80,ha,hld,hst,Xx,t0,t1,t2,g5,ga5,gd5,rX,e6];have hl2:lookN nm (iT d a)=if c.name=nm then some ⟨6,a,p,d.params,c.type⟩ else lookN nm (CM d a (d.funs.drop (p+1)) (p+1)):=by
      rw[hlk,vT hget];rfl
     rcases q6 with⟨q1,rfl,q2⟩|⟨q1,rfl,q2⟩
     ·simp only[go_sem,simprocAttr];refine fin _ _ _ (.inr rfl) w6 ?_;rw[hl2,P_ q1];exact q2
     ·simp only[go_sem,simprocAttr,t80,hw2];exact⟨j-1,o_,_,p+1,o_,rfl,q2,w6,q_ t0,q_ t1,q_ t2,q_ t78,q_ t79,k_,by rw[hl2,N_ q1]⟩
    ·have hp5:p=d.funs.length:=o_;subst hp5;rw[List.drop_length]at hlk;simp only[go_sem,simprocAttr];refine fin _ _ _ (.inl rfl) w4 ?_;rw[hlk];exact y4
   ·have d4:decide (d.kind=4)=false:=D_ h4;have he:iT d a=[]:=by unfold iT;rw[N_ hp,N_ h3,N_ h4]
    simp only[go_sem,simprocAttr,gdH,d0,d1,d2,d3,d4];refine fin _ _ _ (.inl rfl) kk.w ?_;rw[he];exact yH
