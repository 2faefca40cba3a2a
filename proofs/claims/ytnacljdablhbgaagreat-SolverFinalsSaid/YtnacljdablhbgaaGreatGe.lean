/- SolverFinals: scopes and sizes of filled terms (no condition). -/
import Derived.Test.YtnacljdablhbgaaGreatGd
namespace Go.Proofs.YtnacljdablhbgaaGreat
open Go.AG
theorem sI (ms:List MV):∀(m:Nat) (t:T) (above:List Int) (c:Option Int) (f:Int),(ge ms m t above c).2.1=0->(ge ms m t above c).2.2=some f->¬lH (ge ms m t above c).1:=by
 intro m t above c f h0 h1;cases m with
 |zero=>simp[ge]at h0
 |succ m=>
  unfold ge at h0 h1 ⊢;by_cases hc:c=none
  ·rw[wae hc]at h0;simp at h0
  ·rw[wad hc]at h0 h1 ⊢;cases hk:cd ms (aD t).1 with
   |none=>
    simp only[hk]at h0 h1 ⊢;split at h0
    ·rename_i q;exact absurd h0 q
    ·rename_i q;simp only[wad q]at h1 ⊢;split at h0
     ·rename_i q2;exact absurd h0 q2
     ·rename_i q2;simp only[wad q2]at h1 ⊢;exact(iU h1).2
   |some v=>
    simp only[hk]at h0 h1 ⊢;split at h0
    ·simp at h0
    ·rename_i q0;simp only[wad q0]at h1 ⊢;split at h0
     ·rename_i q;exact absurd h0 q
     ·rename_i q;simp only[wad q]at h1 ⊢;split at h0
      ·rename_i q2;exact absurd h0 q2
      ·rename_i q2;simp only[wad q2]at h1 ⊢;exact(dn h1).2.2
section
variable {P:LL->Prop}{n:Int}
theorem rQ (ms:List MV)(hm:∀m∈ms,m.known=true->Ok P n m.val 0):∀(m:Nat) (t:T) (above:List Int) (c:Option Int) (f d:Int),0<=d->Ok P n t d->(ge ms m t above c).2.1=0->(ge ms m t above c).2.2=some f->Ok P n (ge ms m t above c).1 d:=by
 intro m;induction m with
 |zero=>intro t above c f d _ _ h0;simp[ge]at h0
 |succ m ih=>
  intro t above c f d hd ht h0 h1;obtain⟨hh,ha⟩:=sw _ t d (Fv _) ht;have args:∀c f,(cj (fun x c=>ge ms m x above c) (aD t).2 c).2.1=0->(cj (fun x c=>ge ms m x above c) (aD t).2 c).2.2=some f->∀x∈(cj (fun x c=>ge ms m x above c) (aD t).2 c).1,Ok P n x d:=by
   intro c f q0 q1 x hx;obtain⟨a,hax,rfl⟩:=wag.1 hx;obtain⟨t',c',f',e1,e2,e3,e4⟩:=nU (da ms m above) _ c f q0 q1 a _ (wO hax);rw[e4];exact ih t' above c' f' d hd (ha t' (wS e1)) e2 e3
  unfold ge at h0 h1 ⊢;by_cases hc:c=none
  ·rw[wae hc]at h0;simp at h0
  ·rw[wad hc]at h0 h1 ⊢;cases hk:cd ms (aD t).1 with
   |none=>
    simp only[hk]at h0 h1 ⊢;split at h0
    ·rename_i q;exact absurd h0 q
    ·rename_i q;simp only[wad q]at h1 ⊢;split at h0
     ·rename_i q2;exact absurd h0 q2
     ·rename_i q2;simp only[wad q2]at h1 ⊢;obtain⟨f2,hf2⟩:=waf.1 (iU h1).1;obtain⟨f1,hf1⟩:=waf.1 (eS (da ms m above) _ _ _ hf2);have q:(cj (fun x c=>ge ms m x above c) (aD t).1.K c).2.1=0:=by simpa using q
      refine sx _ _ d ?_ (args _ f2 (by simpa using q2) hf2);revert hh;generalize he:(aD t).1=hd';rw[he]at q hf1;intro hh;obtain⟨k,i,nm,ls,ks⟩:=hd';simp only[T.K,T.kind,T.i,T.name,T.L]at q hf1 ⊢;refine Xf hh (lZ _ _ q) (fun a x e=>?_) (fun e=>by rw[e];rfl);obtain⟨t',c',f',e1,e2,e3,e4⟩:=nU (da ms m above) _ c f1 q hf1 a x e;rw[e4];have hb:=fO k a;unfold Ok at hh;have:=rV hh.2.2.2.2 e1;rw[wac]at this;exact ih t' above c' f' _ (by omega) this e2 e3
   |some v=>
    obtain⟨hk12,mv,hmv,hkn,rfl⟩:=qt hk;simp only[hk]at h0 h1 ⊢;split at h0
    ·simp at h0
    ·rename_i q0;simp only[wad q0]at h1 ⊢;split at h0
     ·rename_i q;exact absurd h0 q
     ·rename_i q;simp only[wad q]at h1 ⊢;split at h0
      ·rename_i q2;exact absurd h0 q2
      ·rename_i q2;simp only[wad q2]at h1 ⊢;obtain⟨f3,hf3⟩:=waf.1 (dn h1).2.1;obtain⟨f2,hf2⟩:=waf.1 (ik hf3);obtain⟨f1,hf1⟩:=waf.1 (eS (da ms m above) _ _ _ hf2);obtain⟨f0,hf0⟩:=waf.1 (dn hf1).2.1;have hv:=ih mv.val _ c f0 0 (Int.le_refl 0) (hm mv (wS hmv) hkn) (by simpa using q) hf0;have hl:=args _ f2 (by simpa using q2) hf2;obtain⟨b1,b2⟩:=Db _ _ _ f3 d hd (rL _ _ _ hd hv) hl hf3;exact sx _ _ d b1 b2
end
theorem sh {F:T->Option Int->T×Int×Option Int}{S:Nat}(hN:∀t,(F t none).2.1≠0/\(F t none).2.2=none):∀(l:List T) (c:Option Int),
  (∀t∈l,∀c,(F t c).2.1=0->size (F t c).1<=S/\∀f,(F t c).2.2=some f->size (F t c).1<=2000)->(cj F l c).2.1=0->
  aW (cj F l c).1<=S+2000*l.length/\(∀f,(cj F l c).2.2=some f->aW (cj F l c).1<=2000*l.length)/\(c=none->l=[])
 |[],c,_,_=>⟨by simp[cj,aW],fun _ _=>by simp[cj,aW],fun _=>rfl⟩
 |t::l,c,hF,h0=>by
  have hcn:c=none->t::l=[]:=by
   intro hc;subst hc;unfold cj at h0;rw[wae (hN t).1]at h0;exact absurd h0 (hN t).1
  unfold cj at h0 ⊢;by_cases q:(F t c).2.1≠0
  ·rw[wae q]at h0;exact absurd h0 q
  ·rw[wad q]at h0 ⊢;by_cases q2:(cj F l (F t c).2.2).2.1≠0
   ·rw[wae q2]at h0;exact absurd h0 q2
   ·rw[wad q2];obtain⟨s1,s2⟩:=hF t (by simp) c (by simpa using q);obtain⟨r1,r2,r3⟩:=sh hN l (F t c).2.2 (fun t ht=>hF t (by simp[ht])) (by simpa using q2);simp only[aW,List.length_cons];refine⟨?_,fun f hf=>?_,hcn⟩
    ·cases hc:(F t c).2.2 with
     |none=>
      have:=r3 hc;subst this;simp only[cj,aW,List.length_nil];omega
     |some f=>
      have:=s2 f hc;rw[hc]at r1;omega
    ·obtain⟨f',hf'⟩:=waf.1 (eS hN l _ f hf);have:=s2 f' hf';have:=r2 f hf;omega
theorem Jz (t:T)(vs:List T):size (gu t vs).1<=4096:=by
 unfold gu;split
 ·simp[tZ,size,aW]
 ·split
  ·simp[tZ,size,aW]
  ·show size (gA vs t 0)<=_;omega
theorem mH:∀(l:List T) (v:T) (c:Option Int),size (cY v l c).1<=max (size v) 4096/\aW (cY v l c).2.1<=aW l/\(cY v l c).2.1.length<=l.length
 |[],v,c=>⟨by simp[cY];omega,by simp[cY],by simp[cY]⟩
 |x::l,v,c=>by
  unfold cY;split
  ·obtain⟨h1,h2,h3⟩:=mH l (gu (v.K.getD 1 tZ) [x]).1 (eP (gu (v.K.getD 1 tZ) [x]).1 (gu (v.K.getD 1 tZ) [x]).2 c);have:=Jz (v.K.getD 1 tZ) [x];simp only[aW,List.length_cons];omega
  ·simp only[aW,List.length_cons];omega
theorem nM:∀(az:List T) (f:T),size (gB f az)=size f+aW az+az.length
 |[],f=>by simp[gB,aW]
 |a::l,f=>by
  unfold gB;rw[nM l];simp only[size,aW,List.length_cons];omega
theorem gL {t:T}(h:¬lH t):size t<=2000:=by
 unfold lH at h;omega
theorem xX (ms:List MV)(hm:∀m∈ms,m.known=true->size m.val<=60):∀(m:Nat) (t:T) (above:List Int) (c:Option Int),size t<=60->(ge ms m t above c).2.1=0->size (ge ms m t above c).1<=(m+1)*300000:=by
 intro m;induction m with
 |zero=>intro t above c _ h0;simp[ge]at h0
 |succ m ih=>
  intro t above c ht h0;have hsp:=mo _ t (Fv _);have hF:∀x,size x<=60->∀c,(ge ms m x above c).2.1=0->size (ge ms m x above c).1<=(m+1)*300000/\∀f,(ge ms m x above c).2.2=some f->size (ge ms m x above c).1<=2000:=
   fun x hx c e=>⟨ih x above c hx e,fun f hf=>gL (sI ms m x above c f e hf)⟩
  have hmem:∀(l:List T) x,x∈l->size x<=aW l:=by
   intro l x hx;obtain⟨a,ha,rfl⟩:=wag.1 hx;exact ck (wO ha)
  have la:=bE (aD t).2;have SA:=fun c=>sh (F:=fun x c=>ge ms m x above c) (S:=(m+1)*300000) (da ms m above) (aD t).2 c (fun x hx=>hF x (by have:=hmem _ _ hx;omega))
  have hhd:aW (aD t).1.K<size (aD t).1:=by
   generalize (aD t).1=z;obtain⟨k,i,nm,ls,ks⟩:=z;simp only[T.K,size];omega
  have lk:=bE (aD t).1.K;have SK:=fun c=>sh (F:=fun x c=>ge ms m x above c) (S:=(m+1)*300000) (da ms m above) (aD t).1.K c (fun x hx=>hF x (by have:=hmem _ _ hx;omega))
  have e300:(m+1+1)*300000=(m+1)*300000+300000:=by omega
  rw[e300];unfold ge at h0 ⊢;by_cases hc:c=none
  ·rw[wae hc]at h0;simp at h0
  ·rw[wad hc]at h0 ⊢;cases hk:cd ms (aD t).1 with
   |none=>
    simp only[hk]at h0 ⊢;split at h0
    ·rename_i q;exact absurd h0 q
    ·rename_i q;simp only[wad q]at ⊢;split at h0
     ·rename_i q2;exact absurd h0 q2
     ·rename_i q2;simp only[wad q2]at ⊢;have q:(cj (fun x c=>ge ms m x above c) (aD t).1.K c).2.1=0:=by simpa using q
      obtain⟨k1,k2,_⟩:=SK c q;obtain⟨a1,a2,a3⟩:=SA _ (by simpa using q2);have l2:=lZ (F:=fun x c=>ge ms m x above c) _ _ (by simpa using q2);rw[nM];simp only[size];cases hq:(cj (fun x c=>ge ms m x above c) (aD t).1.K c).2.2 with
      |none=>
       have:=a3 hq;rw[hq]at a1 a2 l2;rw[this]at a1 a2 l2 ⊢;simp only[cj,aW,List.length_nil];omega
      |some f=>
       have:=k2 f hq;rw[hq]at a1 l2;omega
   |some v=>
    obtain⟨hk12,mv,hmv,hkn,rfl⟩:=qt hk;simp only[hk]at h0 ⊢;split at h0
    ·simp at h0
    ·rename_i q0;simp only[wad q0]at ⊢;split at h0
     ·rename_i q;exact absurd h0 q
     ·rename_i q;simp only[wad q]at ⊢;split at h0
      ·rename_i q2;exact absurd h0 q2
      ·rename_i q2;simp only[wad q2]at ⊢;have sv:=ih mv.val (above++[(aD t).1.i]) c (hm mv (wS hmv) hkn) (by simpa using q);obtain⟨a1,a2,a3⟩:=SA _ (by simpa using q2);have l2:=lZ (F:=fun x c=>ge ms m x above c) _ _ (by simpa using q2);rw[nM];cases hq:eP (ge ms m mv.val (above++[(aD t).1.i]) c).1 0 (ge ms m mv.val (above++[(aD t).1.i]) c).2.2 with
       |none=>
        have:=a3 hq;rw[this];simp only[cj,cY,aW,List.length_nil,Nat.add_zero];exact Nat.le_trans sv (Nat.le_add_right _ _)
       |some f=>
        have hb:=gL (dn hq).2.2;rw[hq]at a1 l2;obtain⟨b1,b2,b3⟩:=mH (cj (fun x c=>ge ms m x above c) (aD t).2 (some f)).1 (ge ms m mv.val (above++[(aD t).1.i]) c).1 (cj (fun x c=>ge ms m x above c) (aD t).2 (some f)).2.2;omega
section
variable {F:T->Option Int->T×Int×Option Int}
theorem Nk:∀(l:List T) (c:Option Int),(cj F l c).2.1≠0->(cj F l c).1=[]
 |[],_,h=>absurd rfl h
 |t::l,c,h=>by
  unfold cj at h ⊢;by_cases q:(F t c).2.1≠0
  ·rw[wae q]
  ·rw[wad q]at h ⊢;by_cases q2:(cj F l (F t c).2.2).2.1≠0
   ·rw[wae q2]
   ·rw[wad q2]at h;exact absurd rfl h
def Sq (F:T->Option Int->T×Int×Option Int)(l:List T)(c:Option Int)(out rest:List T)(c':Option Int):Prop:=
 cj F l c=if (cj F rest c').2.1≠0 then ([],(cj F rest c').2.1,(cj F rest c').2.2) else (out++(cj F rest c').1,0,(cj F rest c').2.2)
theorem Sq.start (l:List T)(c:Option Int):Sq F l c [] l c:=by
 unfold Sq;split
 ·rename_i h;rw[<-Nk l c h]
 ·rename_i h;have h:(cj F l c).2.1=0:=by simpa using h
  rw[List.nil_append,<-h]
theorem Sq.step {l out rest:List T}{c c':Option Int}{x:T}(s:Sq F l c out (x::rest) c')(h:(F x c').2.1=0):Sq F l c (out++[(F x c').1]) rest (F x c').2.2:=by
 unfold Sq at s ⊢;rw[s];have h':¬(F x c').2.1≠0:=by simpa using h
 have e:cj F (x::rest) c'=if (cj F rest (F x c').2.2).2.1≠0 then ([],(cj F rest (F x c').2.2).2.1,(cj F rest (F x c').2.2).2.2) else ((F x c').1::(cj F rest (F x c').2.2).1,0,(cj F rest (F x c').2.2).2.2):=by
  rw[cj,wad h']
 rw[e];by_cases q:(cj F rest (F x c').2.2).2.1≠0
 ·simp only[wae q]
 ·simp only[wad q];simp
theorem Sq.err {l out rest:List T}{c c':Option Int}{x:T}(s:Sq F l c out (x::rest) c')(h:(F x c').2.1≠0):cj F l c=([],(F x c').2.1,(F x c').2.2):=by
 unfold Sq at s;have e:cj F (x::rest) c'=([],(F x c').2.1,(F x c').2.2):=by rw[cj,wae h]
 rw[s,e,wae h]
theorem Sq.done {l out:List T}{c c':Option Int}(s:Sq F l c out [] c'):cj F l c=(out,0,c'):=by
 unfold Sq at s;rw[s];simp[cj]
end
theorem IK (m:MV):(cD m).norm=cD m:=by simp[cD,AV.norm,AV.ip,fB,cu]
theorem IL (m:MV):(cD m).free=true:=by simp[cD,AV.free,AV.jp,cL de,eE]
theorem mj (l:List MV)(h:AH):eT (.ls (l.map cD)) h=(.ls (l.map cD),h):=by
 rw[dG (show(AV.ls (l.map cD)).free=true by simp only[AV.free];exact cL IL l)];simp only[AV.norm,dN IK]
theorem Ly (x:T)(h:AH):eT (.clip [enc x]) h=(.ls (([x]:List T).map enc),h):=by
 rw[dG (show(AV.clip [enc x]).free=true by simp[AV.free,AV.jp,cH])];simp[AV.norm,AV.ip,bL]
theorem sJ (m:MV)(h:AH):eM (.vptr (cD m)) h 6 5 true=.val (.vptr (enc m.val)) h:=by rw[aA];rfl
theorem TA (ms:List MV)(h:AH):lenOf (.ls (ms.map cD)) h 1=some ms.length:=by rw[dL,waa]
def Rw (lo hi:Nat)(h:AH)(V:AV)(l:List T):Prop:=(V=.nl/\l=[])∨∃k g,V=.row k g 5 0 l.length/\h.get k=some (.row g 5 true (flat (l.map enc)) 0)/\lo<=k/\k<hi
theorem Rw.of {base:Nat}{h:AH}{V:AV}{l:List T}(o:Own base 5 true h V (l.map enc)):Rw base h.z h V l:=by
 obtain⟨_,⟨q1,q2⟩|⟨k,g,q1,q2,q3,q4⟩⟩:=o
 ·exact .inl ⟨q1,by simpa using q2⟩
 ·exact .inr ⟨k,g,by simpa using q1,q2,q4,q3⟩
theorem Rw.kw {lo hi:Nat}{h h':AH}{V:AV}{l:List T}(r:Rw lo hi h V l)(e:∀k,lo<=k->k<hi->h'.get k=h.get k):Rw lo hi h' V l:=by
 rcases r with⟨q1,q2⟩|⟨k,g,q1,q2,q3,q4⟩
 ·exact .inl ⟨q1,q2⟩
 ·exact .inr ⟨k,g,q1,(e k q3 q4).trans q2,q3,q4⟩
theorem Rw.len {lo hi:Nat}{h:AH}{V:AV}{l:List T}(r:Rw lo hi h V l)(H:AH):lenOf V H 1=some l.length:=by
 rcases r with⟨rfl,rfl⟩|⟨k,g,rfl,_,_,_⟩<;>rfl
theorem Rw.at {lo hi:Nat}{h:AH}{V:AV}{l:List T}(r:Rw lo hi h V l){a:Nat}{x:T}(ha:l[a]?=some x):∃p,(∀H,cz V H 5 (wt (a:Int))=.val p H)/\dH p h true 5=some (enc x):=by
 rcases r with⟨rfl,rfl⟩|⟨k,g,rfl,q2,_,_⟩
 ·simp at ha
 ·have hl:a<l.length:=(wah.1 ha).1;exact⟨.ptr k g (a*5),fun H=>si hl H .i64,vi q2 (jA l) (zL ha)⟩
def Bx (B:Nat)(h:AH)(cells:List AV)(r:T):Prop:=∃x5,cells=[wt r.kind,wt r.i,.str r.name,.ls (r.L.map aK),x5]/\(x5=.ls (r.K.map enc)∨Own B 5 true h x5 (r.K.map enc))
theorem Bx.of (B:Nat)(h:AH)(r:T):Bx B h (au r) r:=⟨_,rfl,.inl rfl⟩
theorem Bx.own {B:Nat}{h:AH}{V:AV}{l:List T}(k i:Int)(nm:ByteArray)(ls:List LL)(o:Own B 5 true h V (l.map enc)):Bx B h [wt k,wt i,.str nm,.ls (ls.map aK),V] (.mk k i nm ls l):=⟨V,rfl,.inr o⟩
theorem Bx.kw {B:Nat}{h h':AH}{cells:List AV}{r:T}(b:Bx B h cells r)(hn:h.z<=h'.z)(hg:∀k,B<=k->k<h.z->h'.get k=h.get k):Bx B h' cells r:=by
 obtain⟨x5,q1,q2|q2⟩:=b
 ·exact⟨x5,q1,.inl q2⟩
 ·exact⟨x5,q1,.inr (bp q2 hn hg)⟩
theorem Bx.can {B:Nat}{h:AH}{cells:List AV}{r:T}(b:Bx B h cells r):∃h',eT (.agg cells) h=(enc r,h')/\h'.z=h.z/\∀j,j<B->h'.get j=h.get j:=by
 obtain⟨x5,rfl,rfl|q2⟩:=b
 ·refine⟨h,?_,rfl,fun _ _=>rfl⟩;rw[show(AV.agg [wt r.kind,wt r.i,.str r.name,.ls (r.L.map aK),.ls (r.K.map enc)])=enc r from(aA r).symm];exact aP r h
 ·obtain⟨h',e,n,k⟩:=Az r.kind r.i r.name r.L q2;rw[Wa]at e;exact⟨h',e,n,k⟩
theorem Bx.five {B:Nat}{h:AH}{cells:List AV}{r:T}(b:Bx B h cells r):∃a b' c d e,cells=[a,b',c,d,e]:=by
 obtain⟨x5,rfl,_⟩:=b;exact⟨_,_,_,_,_,rfl⟩
structure pQ (ms:List MV)(above:List Int)(w b8 b10:Nat)(V11:AV)(tm:Tm):Prop where
 t0:nth tm 0=.ls (ms.map cD)
 t2:nth tm 2=.ls (above.map dF)
 t3:nth tm 3=.ptr w 0 0
 t8:nth tm 8=.ptr b8 0 0
 t10:nth tm 10=.ptr b10 0 0
 t11:nth tm 11=V11
structure rE (w b10:Nat)(cells:List AV)(args:List T)(V11:AV)(h0 h:AH):Prop where
 g8:h.get (h0.z+1)=some (.box [wt 0,wt 0,.str (bs []),.nl,.nl])
 g10:h.get b10=some (.box cells)
 r11:Rw (h0.z+2) b10 h V11 args
 kw:HKx w h0 h
 nx:b10+1<=h.z
 lo:h0.z+2<=b10
 wl:w<h0.z
section
variable {w b10:Nat}{cells:List AV}{args:List T}{V11:AV}{h0 h h':AH}
theorem rE.up (J:rE w b10 cells args V11 h0 h)(k:HKx w h h'):rE w b10 cells args V11 h0 h':=by
 have:=J.nx;have:=J.lo;have:=J.wl;exact⟨(k.kw _ (by omega) (by omega)).trans J.g8,(k.kw _ (by omega) (by omega)).trans J.g10,J.r11.kw (fun a _ q=>k.kw a (by omega) (by omega)),J.kw.trans k,Nat.le_trans J.nx k.z,J.lo,J.wl⟩
theorem rE.low (J:rE w b10 cells args V11 h0 h)(hn:h.z<=h'.z)(hk:∀k,k<b10+1->h'.get k=h.get k):rE w b10 cells args V11 h0 h':=by
 have:=J.nx;have:=J.lo;have:=J.wl;exact⟨(hk _ (by omega)).trans J.g8,(hk _ (by omega)).trans J.g10,J.r11.kw (fun a _ q=>hk a (by omega)),⟨Nat.le_trans J.kw.z hn,fun k q1 q2=>(hk k (by omega)).trans (J.kw.kw k q1 q2)⟩,Nat.le_trans J.nx hn,J.lo,J.wl⟩
theorem rE.put (J:rE w b10 cells args V11 h0 h)(cells':List AV):rE w b10 cells' args V11 h0 (h.set b10 (.box cells')):=by
 have:=J.nx;have:=J.lo;have:=J.wl;exact⟨(an (by omega)).trans J.g8,aC _ _ _,J.r11.kw (fun a _ q=>an (by omega)),J.kw.set _ (.inl (by omega)),by rw[co];exact J.nx,J.lo,J.wl⟩
end
theorem HK.new_set (h:AH)(o o':eI):HK h ((h.new o).set h.z o'):=(HK.new _ _).set _ (Fv _)
def E101 (w:Nat)(h0:AH)(q:T×Int×Option Int)(v:AV)(h':AH):Prop:=v=.tup [enc q.1,wt q.2.1]/\HKx w h0 h'/\Cn h' w q.2.2
def MO (w:Nat)(h0:AH)(q:T×Int×Option Int)(v:AV)(h2:AH):Prop:=∃v' h3,gT v h2=(v',h3)/\E101 w h0 q v' h3
theorem Ts {w b8:Nat}{h0 H:AH}{q:T×Int×Option Int}{tm:Tm}(t8:nth tm 8=.ptr b8 0 0)(t9:nth tm 9=wt q.2.1)(g:H.get b8=some (.box (au q.1)))(k:HKx w h0 H)(c:Cn H w q.2.2):
  IQ Dn (MO w h0 q) .ret ⟨tm,⟨[],.no,none,101⟩⟩ H:=by
 unfold au at g;refine⟨rfl,rfl,.inr rfl,[.agg [_,_,_,_,_],wt q.2.1],by simp only[go_sem,simprocAttr,Dn,t8,t9,g],_,_,bG (ae (iG (ir (eC _) (eL _)) _) (ae (ba _ _ _) (aB _))),rfl,k,c⟩
theorem Il {w b8:Nat}{h0 H:AH}{e:Int}{c':Option Int}{tm:Tm}(t8:nth tm 8=.ptr b8 0 0)(t9:nth tm 9=wt e)(g:H.get b8=some (.box [wt 0,wt 0,.str (bs []),.nl,.nl]))(k:HKx w h0 H)(c:Cn H w c'):
  IQ Dn (MO w h0 (tZ,e,c')) .ret ⟨tm,⟨[],.no,none,101⟩⟩ H:=
 ⟨rfl,rfl,.inr rfl,[.agg [_,_,_,_,_],wt e],by simp only[go_sem,simprocAttr,Dn,t8,t9,g],_,_,bG (ae (pU _) (ae (ba _ _ _) (aB _))),rfl,k,c⟩
def acJ (K:aG)(P:LL->Prop)(ms:List MV)(w M n:Nat):Prop:=
 ∀(t:T) (d:Int) (above:List Int) (c:Option Int) (h:AH),size t<=60->0<=d->d+size t<=1000->Ok P ms.length t d->above.Nodup->(∀j∈above,0<=j/\j<(ms.length:Int))->60*(9-above.length)+size t<=n->Cn h w c->w<h.z->
  ∃v h',cS K M (.fn 101 [] []) [.ls (ms.map cD),enc t,.ls (above.map dF),.ptr w 0 0] .no h=some (.ret v,.no,h')/\E101 w h (ge ms n t above c) v h'
