/- MachineKeeps, plain law: terms, spines, substitution, weak head normal forms and normal forms by fuel (definitions and small facts; no condition). -/
import Derived.Test.YtocdlbblemjabaaGreatDoorAr
namespace Go.AG.MK
mutual
def size:T->Nat
 |.mk _ _ _ _ ks=>1+bO ks
def bO:List T->Nat
 |[]=>0
 |t::l=>size t+bO l
end
theorem bZ (t:T):1<=size t:=by cases t;simp only[size];omega
theorem cL:∀ {l:List T} {x:T},x∈l->size x<=bO l
 |y::l,x,h=>by
  simp only[bO];rcases List.mem_cons.1 h with rfl|h
  ·omega
  ·have:=cL h;omega
theorem yi (a b:List T):bO (a++b)=bO a+bO b:=by
 induction a with
 |nil=>simp[bO]
 |cons x l ih=>simp only[List.cons_append,bO,ih];omega
def bs (l:List UInt8):ByteArray:=⟨⟨l⟩⟩
def app (f a:T):T:=.mk 4 0 (bs []) [] [f,a]
def cY (f:T):List T->T
 |[]=>f
 |a::l=>cY (app f a) l
theorem oB (f:T)(l:List T)(a:T):cY f (l++[a])=app (cY f l) a:=by
 induction l generalizing f with
 |nil=>rfl
 |cons b l ih=>simp only[List.cons_append,cY,ih]
def bF:T->T×List T
 |.mk k i nm ls [f,a]=>if k=4 then ((bF f).1,(bF f).2++[a]) else (.mk k i nm ls [f,a],[])
 |.mk k i nm ls ks=>(.mk k i nm ls ks,[])
termination_by t=>size t
decreasing_by all_goals (simp only[size,bO];omega)
theorem ki (i:Int)(nm:ByteArray)(ls:List LL)(f a:T):bF (.mk 4 i nm ls [f,a])=((bF f).1,(bF f).2++[a]):=by
 rw[bF,P_ rfl]
def Hd (h:T):Prop:=h.kind=4->h.K.length≠2
theorem mb {h:T}(q:Hd h):bF h=(h,[]):=by
 obtain⟨k,i,nm,ls,ks⟩:=h
 match ks with
 |[]=>rw[bF];intro f a e;cases e
 |[f]=>rw[bF];intro f a e;cases e
 |[f,a]=>
  by_cases hk:k=4
  ·exact absurd rfl (q hk)
  ·rw[bF,N_ hk]
 |f::a::b::l=>rw[bF];intro f a e;cases e
theorem gR {h:T}(q:Hd h)(as:List T):bF (cY h as)=(h,as):=by
 rcases as.eq_nil_or_concat with rfl|⟨l,a,rfl⟩
 ·exact mb q
 ·rw[List.concat_eq_append,oB,app,ki];have:l.length<(l.concat a).length:=by simp
  rw[gR q l]
termination_by as.length
theorem kj (h:T)(as:List T):size (cY h as)=size h+bO as+as.length:=by
 induction as generalizing h with
 |nil=>simp[cY,bO]
 |cons a l ih=>simp only[cY,ih,app,size,bO,List.length_cons];omega
theorem VJ:∀ (n:Nat) (t:T),size t<=n->Hd (bF t).1:=by
 intro n;induction n with
 |zero=>intro t h;have:=bZ t;omega
 |succ n ih=>
  intro t h;obtain⟨k,i,nm,ls,ks⟩:=t;by_cases q:Hd (.mk k i nm ls ks)
  ·rw[mb q];exact q
  ·unfold Hd at q;simp only[T.kind,T.K,Classical.not_imp,Decidable.not_not]at q;obtain⟨rfl,q⟩:=q
   match ks,q with
   |[f,a],_=>
    rw[ki];simp only[size,bO]at h;exact ih f o_
theorem wc (t:T):Hd (bF t).1:=VJ _ t (e_ _)
def cq (kind kid:Int):Int:=if (kid=1/\(kind=5∨kind=6∨kind=7))∨(kid=2/\kind=11) then 1 else 0
mutual
def pU (by_:Int):T->Int->T
 |.mk k i nm ls ks,d=>if k=0 then (if i<d then .mk k i nm ls ks else .mk 0 (i+by_) (bs []) [] []) else .mk k i nm ls (pG by_ k 0 ks d)
def pG (by_ k:Int):Nat->List T->Int->List T
 |_,[],_=>[]
 |j,t::l,d=>pU by_ t (d+cq k j)::pG by_ k (j+1) l d
end
mutual
def jB (vs:List T):T->Int->T
 |.mk k i nm ls ks,d=>if k=0 then (if d<=i then (match vs[(i-d).toNat]? with|some x=>pU d x 0|none=>.mk 0 (i-vs.length) (bs []) [] []) else .mk k i nm ls ks) else .mk k i nm ls (vo vs k 0 ks d)
def vo (vs:List T)(k:Int):Nat->List T->Int->List T
 |_,[],_=>[]
 |j,t::l,d=>jB vs t (d+cq k j)::vo vs k (j+1) l d
end
mutual
inductive eY where
 |mk (kind:Int) (body:T) (var:Int) (brs:List Br)
inductive Br where
 |mk (ctor:ByteArray) (absurd_:Bool) (tree:eY)
end
inductive Cst where
 |rigid
 |dfn (v:T)
 |rcr (first at_:Nat) (fam:ByteArray) (rules:List T)
 |fn (arity:Nat) (tree:eY)
structure Cx where
 cst:ByteArray->Nat->Cst
 ctor:ByteArray->Option (ByteArray×Nat×Nat×Nat×ByteArray)
 inst:T->List LL->Option T
structure Hv where
 fam:ByteArray
 j:Nat
 name:ByteArray
 fields:List T
def dy (C:Cx)(t:T):Option Hv:=
 if (bF t).1.kind=3 then
  match C.ctor (bF t).1.name with
  |some (fam,j,n,fx,nm)=>if (bF t).2.length=n/\fx<=n then some ⟨fam,j,nm,(bF t).2.drop fx⟩ else none
  |none=>none
 else none
mutual
def mtT (C:Cx)(W:T->Option T):eY->List T->Option (Option (T×List T))
 |.mk k body v brs,vars=>
  if k=1 then
   if 0<=v then
    match vars[v.toNat]? with
    |none=>some none
    |some x=>match W x with
     |none=>none
     |some c=>match dy C c with
      |none=>some none
      |some d=>mtB C W brs d.name (vars++d.fields)
   else some none
  else some (some (body,vars))
def mtB (C:Cx)(W:T->Option T):List Br->ByteArray->List T->Option (Option (T×List T))
 |[],_,_=>some none
 |.mk c ab t::l,nm,vars=>if c=nm then (if ab then some none else mtT C W t vars) else mtB C W l nm vars
end
def ua (k:Int)(p:T):Option T:=if p.kind=8 then some ((p.K[(k-8).toNat]?).getD p) else none
def oc (k:Int)(p:T):T:=.mk k 0 (bs []) [] [p]
inductive Nx where
 |stuck (h:T) (as:List T)
 |next (h:T) (as:List T)
def step (C:Cx)(W:T->Option T)(h:T)(as:List T):Option Nx:=
 match h.kind,h.K with
 |4,[f,a]=>some (.next f (a::as))
 |5,[_,b]=>match as with
  |[]=>some (.stuck h as)
  |a::l=>some (.next (jB [a] b 0) l)
 |11,[_,v,b]=>some (.next (jB [v] b 0) as)
 |9,[k]=>match W k with
  |none=>none
  |some p=>match ua 9 p with
   |some q=>some (.next q as)
   |none=>some (.stuck (oc 9 p) as)
 |10,[k]=>match W k with
  |none=>none
  |some p=>match ua 10 p with
   |some q=>some (.next q as)
   |none=>some (.stuck (oc 10 p) as)
 |3,_=>match C.cst h.name h.L.length with
  |.rigid=>some (.stuck h as)
  |.dfn v=>match C.inst v h.L with
   |none=>some (.stuck h as)
   |some x=>some (.next x as)
  |.rcr first at_ fam rules=>match as[at_]? with
   |none=>some (.stuck h as)
   |some a=>match W a with
    |none=>none
    |some c=>match dy C c with
     |none=>some (.stuck h as)
     |some d=>if d.fam=fam then
       match rules[d.j]? with
       |none=>some (.stuck h as)
       |some r=>match C.inst r h.L with
        |none=>some (.stuck h as)
        |some x=>some (.next x (as.take first++d.fields++as.drop (at_+1)))
      else some (.stuck h as)
  |.fn arity tree=>if as.length<arity then some (.stuck h as) else
   match mtT C W tree (as.take arity) with
   |none=>none
   |some none=>some (.stuck h as)
   |some (some (body,vars))=>match C.inst body h.L with
    |none=>some (.stuck h as)
    |some x=>some (.next (jB vars.reverse x 0) (as.drop arity))
 |_,_=>some (.stuck h as)
def wf (C:Cx):Nat->T->List T->Option T
 |0,_,_=>none
 |n+1,h,as=>match step C (fun t=>wf C n t []) h as with
  |none=>none
  |some (.stuck h' as')=>some (cY h' as')
  |some (.next h' as')=>wf C n h' as'
def jr (f:T->Option T):List T->Option (List T)
 |[]=>some []
 |t::l=>match f t with
  |none=>none
  |some x=>match jr f l with
   |none=>none
   |some r=>some (x::r)
def parts (f:T->Option T)(p:T):Option T:=
 match jr f (bF p).1.K with
 |none=>none
 |some ks=>match jr f (bF p).2 with
  |none=>none
  |some as=>some (cY (.mk (bF p).1.kind (bF p).1.idx (bF p).1.name (bF p).1.L ks) as)
def nf (C:Cx):Nat->T->Option T
 |0,_=>none
 |n+1,t=>match wf C n t [] with
  |none=>none
  |some p=>parts (nf C n) p
def Ext (W W':T->Option T):Prop:=∀ t u,W t=some u->W' t=some u
section
variable {C:Cx}{W W':T->Option T}
mutual
theorem Ey (e:Ext W W'):∀ (t:eY) (vars:List T) (r:Option (T×List T)),mtT C W t vars=some r->mtT C W' t vars=some r
 |.mk k body v brs,vars,r,h=>by
  unfold mtT at h ⊢;by_cases hk:k=1
  ·rw[P_ hk]at h ⊢;by_cases hv:0<=v
   ·rw[P_ hv]at h ⊢;cases hx:vars[v.toNat]? with
    |none=>rw[hx]at h;exact h
    |some x=>
     rw[hx]at h;simp only at h ⊢;cases hw:W x with
     |none=>rw[hw]at h;cases h
     |some c=>
      rw[hw]at h;rw[e _ _ hw];simp only at h ⊢;cases hc:dy C c with
      |none=>rw[hc]at h;exact h
      |some d=>rw[hc]at h;exact Ez e brs _ _ _ h
   ·rw[N_ hv]at h ⊢;exact h
  ·rw[N_ hk]at h ⊢;exact h
theorem Ez (e:Ext W W'):∀ (l:List Br) (nm:ByteArray) (vars:List T) (r:Option (T×List T)),mtB C W l nm vars=some r->mtB C W' l nm vars=some r
 |[],_,_,_,h=>by unfold mtB at h ⊢;exact h
 |.mk c ab t::l,nm,vars,r,h=>by
  unfold mtB at h ⊢;by_cases hc:c=nm
  ·rw[P_ hc]at h ⊢;cases ab with
   |true=>exact h
   |false=>exact Ey e t vars r h
  ·rw[N_ hc]at h ⊢;exact Ez e l nm vars r h
end
theorem ye (e:Ext W W')(h:T)(as:List T)(r:Nx)(q:step C W h as=some r):step C W' h as=some r:=by
 obtain⟨k,i,nm,ls,ks⟩:=h;unfold step at q ⊢;simp only[T.kind,T.K,T.name,T.L]at q ⊢;split at q
 ·exact q
 ·exact q
 ·exact q
 ·rename_i kk;cases hw:W kk with
  |none=>rw[hw]at q;cases q
  |some p=>rw[hw]at q;simp only[e _ _ hw];exact q
 ·rename_i kk;cases hw:W kk with
  |none=>rw[hw]at q;cases q
  |some p=>rw[hw]at q;simp only[e _ _ hw];exact q
 ·cases hc:C.cst nm ls.length with
  |rigid=>rw[hc]at q;exact q
  |dfn v=>rw[hc]at q;exact q
  |rcr first at_ fam rules=>
   rw[hc]at q;simp only at q ⊢;cases ha:as[at_]? with
   |none=>rw[ha]at q;exact q
   |some a=>
    rw[ha]at q;simp only at q ⊢;cases hw:W a with
    |none=>rw[hw]at q;cases q
    |some p=>rw[hw]at q;simp only[e _ _ hw];exact q
  |fn arity tree=>
   rw[hc]at q;simp only at q ⊢;split at q
   ·rename_i hl;rw[P_ hl];exact q
   ·rename_i hl;rw[N_ hl];cases hm:mtT C W tree (as.take arity) with
    |none=>rw[hm]at q;cases q
    |some m=>rw[hm]at q;rw[Ey e _ _ _ hm];exact q
 ·exact q
theorem IB:∀ (n:Nat) (h:T) (as:List T) (u:T),wf C n h as=some u->wf C (n+1) h as=some u:=by
 intro n;induction n with
 |zero=>intro h as u q;cases q
 |succ n ih=>
  intro h as u q;unfold wf at q ⊢;cases hs:step C (fun t=>wf C n t []) h as with
  |none=>rw[hs]at q;cases q
  |some r=>
   rw[hs]at q;rw[ye (W':=fun t=>wf C (n+1) t []) (fun t u q=>ih t [] u q) h as r hs];cases r with
   |stuck h' as'=>exact q
   |next h' as'=>exact ih _ _ _ q
theorem wV {n m:Nat}(le:n<=m){h:T}{as:List T}{u:T}(q:wf C n h as=some u):wf C m h as=some u:=by
 induction le with
 |refl=>exact q
 |step _ ih=>exact IB _ _ _ _ ih
theorem ahL {n m:Nat}{h:T}{as:List T}{u v:T}(p:wf C n h as=some u)(q:wf C m h as=some v):u=v:=by
 have a:=wV (Nat.le_max_left n m) p;have b:=wV (Nat.le_max_right n m) q;rw[a]at b;exact Option.some.inj b
theorem mg {f g:T->Option T}(e:Ext f g):∀ (l r:List T),jr f l=some r->jr g l=some r
 |[],r,h=>h
 |t::l,r,h=>by
  unfold jr at h ⊢;cases ht:f t with
  |none=>rw[ht]at h;cases h
  |some x=>
   rw[ht]at h;rw[e _ _ ht];simp only at h ⊢;cases hl:jr f l with
   |none=>rw[hl]at h;cases h
   |some s=>rw[hl]at h;rw[mg e l s hl];exact h
theorem uJ {f g:T->Option T}(e:Ext f g)(p u:T)(h:parts f p=some u):parts g p=some u:=by
 unfold parts at h ⊢;cases h1:jr f (bF p).1.K with
 |none=>rw[h1]at h;cases h
 |some ks=>
  rw[h1]at h;rw[mg e _ _ h1];simp only at h ⊢;cases h2:jr f (bF p).2 with
  |none=>rw[h2]at h;cases h
  |some as=>rw[h2]at h;rw[mg e _ _ h2];exact h
theorem aco:∀ (n:Nat) (t u:T),nf C n t=some u->nf C (n+1) t=some u:=by
 intro n;induction n with
 |zero=>intro t u q;cases q
 |succ n ih=>
  intro t u q;unfold nf at q ⊢;cases hw:wf C n t [] with
  |none=>rw[hw]at q;cases q
  |some p=>rw[hw]at q;rw[IB _ _ _ _ hw];exact uJ ih p u q
theorem Cz {n m:Nat}(le:n<=m){t u:T}(q:nf C n t=some u):nf C m t=some u:=by
 induction le with
 |refl=>exact q
 |step _ ih=>exact aco _ _ _ ih
end
theorem Uf (C:Cx){h:T}(as:List T):∀ (l:List T) {n:Nat} {u:T},wf C n (cY h l) as=some u->∃ m,m<=n/\wf C m h (l++as)=some u:=by
 intro l;induction l generalizing h as with
 |nil=>intro n u q;exact⟨n,e_ _,q⟩
 |cons a l ih=>
  intro n u q;obtain⟨m,hm,q⟩:=ih (h:=app h a) as q;cases m with
  |zero=>cases q
  |succ m=>
   refine⟨m,o_,?_⟩;unfold wf at q;exact q
theorem wU (C:Cx){h:T}(as:List T):∀ (l:List T) {n:Nat} {u:T},wf C n h (l++as)=some u->wf C (n+l.length) (cY h l) as=some u:=by
 intro l;induction l generalizing h as with
 |nil=>intro n u q;exact q
 |cons a l ih=>
  intro n u q;have e:wf C (n+1) (app h a) (l++as)=some u:=by
   unfold wf;exact q
  have:=ih (h:=app h a) as e;rw[List.length_cons,show n+(l.length+1)=n+1+l.length by omega];exact this
end Go.AG.MK
namespace Go.AG.MK
section
variable {C:Cx}
def Sk (C:Cx)(W:T->Option T)(h:T)(as:List T):Prop:=Hd h/\step C W h as=some (.stuck h as)
theorem adq (k:Int)(p:T)(hk:k≠4):Hd (oc k p):=by intro e;exact absurd e hk
theorem uA {W:T->Option T}{h h':T}{as as':List T}(q:step C W h as=some (.stuck h' as')):
  as'=as/\Hd h/\((h'=h/\¬ ((h.kind=9∨h.kind=10)/\h.K.length=1))∨∃ k p,(h.kind=9∨h.kind=10)/\h.K=[k]/\W k=some p/\ua h.kind p=none/\h'=oc h.kind p):=by
 obtain⟨k,i,nm,ls,ks⟩:=h;unfold step at q;simp only[T.kind,T.K,T.name,T.L]at q ⊢;split at q
 ·cases q
 ·split at q
  ·cases q;exact⟨rfl,fun e=>absurd e (by simp[T.kind]),.inl ⟨rfl,by simp⟩⟩
  ·cases q
 ·cases q
 ·rename_i kk;cases hw:W kk with
  |none=>rw[hw]at q;cases q
  |some p=>
   rw[hw]at q;simp only at q;cases hp:ua 9 p with
   |some x=>rw[hp]at q;cases q
   |none=>rw[hp]at q;cases q;exact⟨rfl,fun e=>absurd e (by simp[T.kind]),.inr ⟨kk,p,.inl rfl,rfl,hw,hp,rfl⟩⟩
 ·rename_i kk;cases hw:W kk with
  |none=>rw[hw]at q;cases q
  |some p=>
   rw[hw]at q;simp only at q;cases hp:ua 10 p with
   |some x=>rw[hp]at q;cases q
   |none=>rw[hp]at q;cases q;exact⟨rfl,fun e=>absurd e (by simp[T.kind]),.inr ⟨kk,p,.inr rfl,rfl,hw,hp,rfl⟩⟩
 ·have fin:∀ {x y:T} {l m:List T},(some (Nx.stuck x l)=some (Nx.stuck y m))->y=x/\m=l:=fun e=>by cases e;exact⟨rfl,rfl⟩
  have hd:Hd (.mk 3 i nm ls ks):=fun e=>absurd e (by simp[T.kind])
  have goal:h'=.mk 3 i nm ls ks/\as'=as:=by
   cases hc:C.cst nm ls.length with
   |rigid=>rw[hc]at q;exact fin q
   |dfn v=>
    rw[hc]at q;simp only at q;cases hx:C.inst v ls with
    |none=>rw[hx]at q;exact fin q
    |some x=>rw[hx]at q;cases q
   |rcr first at_ fam rules=>
    rw[hc]at q;simp only at q;cases ha:as[at_]? with
    |none=>rw[ha]at q;exact fin q
    |some a=>
     rw[ha]at q;simp only at q;cases hw:W a with
     |none=>rw[hw]at q;cases q
     |some c=>
      rw[hw]at q;simp only at q;cases hd:dy C c with
      |none=>rw[hd]at q;exact fin q
      |some d=>
       rw[hd]at q;simp only at q;split at q
       ·cases hr:rules[d.j]? with
        |none=>rw[hr]at q;exact fin q
        |some r=>
         rw[hr]at q;simp only at q;cases hx:C.inst r ls with
         |none=>rw[hx]at q;exact fin q
         |some x=>rw[hx]at q;cases q
       ·exact fin q
   |fn arity tree=>
    rw[hc]at q;simp only at q;split at q
    ·exact fin q
    ·cases hm:mtT C W tree (as.take arity) with
     |none=>rw[hm]at q;cases q
     |some m=>
      rw[hm]at q;cases m with
      |none=>exact fin q
      |some bv=>
       obtain⟨body,vars⟩:=bv;simp only at q;cases hx:C.inst body ls with
       |none=>rw[hx]at q;exact fin q
       |some x=>rw[hx]at q;cases q
  obtain⟨rfl,rfl⟩:=goal;exact⟨rfl,hd,.inl ⟨rfl,o_⟩⟩
 ·rename_i h1 h2 h3 h4 h5 h6;cases q;refine⟨rfl,?_,.inl ⟨rfl,?_⟩⟩
  ·intro e l;simp only[T.kind,T.K]at e l
   match ks,l with
   |[f,a],_=>exact h2 f a e rfl
  ·rintro⟨e,l⟩
   match ks,l with
   |[a],_=>
    rcases e with e|e
    ·exact h5 a e rfl
    ·exact h6 a e rfl
theorem Ds:∀ (n:Nat) (h:T) (as:List T) (u:T),wf C n h as=some u->∃ h' as',u=cY h' as'/\∃ m,Sk C (fun t=>wf C m t []) h' as':=by
 intro n;induction n with
 |zero=>intro h as u q;cases q
 |succ n ih=>
  intro h as u q;unfold wf at q;cases hs:step C (fun t=>wf C n t []) h as with
  |none=>rw[hs]at q;cases q
  |some r=>
   rw[hs]at q;cases r with
   |next h1 as1=>exact ih _ _ _ q
   |stuck h1 as1=>
    cases q;refine⟨h1,as1,rfl,?_⟩;obtain⟨rfl,hd,⟨rfl,_⟩|⟨k,p,hk,hks,hw,hp,rfl⟩⟩:=uA hs
    ·exact⟨n,hd,hs⟩
    ·obtain⟨h2,as2,rfl,m,hm1,hm2⟩:=ih _ _ _ hw;have w1:wf C (m+1) h2 as2=some (cY h2 as2):=by unfold wf;rw[hm2]
     have w2:=wU C [] as2 (h:=h2) (n:=m+1) (by rw[A_];exact w1);refine⟨m+1+as2.length,adq _ _ o_,?_⟩;rcases hk with hk|hk<;>rw[hk]at hp ⊢<;>simp only[step,oc,T.kind,T.K,w2,hp]
theorem sk_wf {n:Nat}{h:T}{as:List T}(s:Sk C (fun t=>wf C n t []) h as):∃ m,wf C m (cY h as) []=some (cY h as):=
 ⟨_,wU C [] as (n:=n+1) (by rw[A_];unfold wf;rw[s.2])⟩
inductive Nf (C:Cx):T->Prop where
 |mk (h:T) (as:List T):(∀ x∈h.K,Nf C x)->(∀ x∈as,Nf C x)->Sk C some h as->Nf C (cY h as)
theorem Nf.inv {u:T}(q:Nf C u):∃ h as,u=cY h as/\(∀ x∈h.K,Nf C x)/\(∀ x∈as,Nf C x)/\Sk C some h as:=by
 cases q with
 |mk h as a b c=>exact⟨h,as,rfl,a,b,c⟩
theorem pb {h x:T}(hx:x∈h.K):size x<size h:=by
 obtain⟨k,i,nm,ls,ks⟩:=h;have:=cL (l:=ks) hx;simp only[size];omega
theorem CR {c:T}{d:Hv}(e:dy C c=some d):∀ x∈d.fields,x∈(bF c).2:=by
 unfold dy at e;split at e
 ·split at e
  ·split at e
   ·cases e;intro x hx;exact List.mem_of_mem_drop hx
   ·cases e
  ·cases e
 ·cases e
theorem yC {c:T}{d:Hv}(n:Nf C c)(e:dy C c=some d):∀ x∈d.fields,Nf C x/\size x<size c:=by
 obtain⟨h,as,rfl,a,b,s⟩:=n.inv;intro x hx;have hm:=CR e x hx;rw[gR s.1]at hm;have hm:x∈as:=hm;have hs:=cL hm;have:=kj h as;have:=bZ h;exact⟨b x hm,o_⟩
section
set_option linter.unusedSectionVars false
variable {W:T->Option T}{M:Nat}(hW:∀ x,size x<=M->Nf C x->∀ y,W x=some y->y=x)
include hW
mutual
theorem YO:∀ (t:eY) (vars:List T) (r:Option (T×List T)),(∀ x∈vars,size x<=M/\Nf C x)->mtT C W t vars=some r->mtT C some t vars=some r
 |.mk k body v brs,vars,r,hv,h=>by
  unfold mtT at h ⊢;by_cases hk:k=1
  ·rw[P_ hk]at h ⊢;by_cases hv0:0<=v
   ·rw[P_ hv0]at h ⊢;cases hx:vars[v.toNat]? with
    |none=>rw[hx]at h;exact h
    |some x=>
     rw[hx]at h;simp only at h ⊢;obtain⟨x1,x2⟩:=hv x (m_ hx);cases hw:W x with
     |none=>rw[hw]at h;cases h
     |some c=>
      have:=hW x x1 x2 c hw;subst this;rw[hw]at h;simp only at h;cases hc:dy C c with
      |none=>rw[hc]at h;exact h
      |some d=>
       rw[hc]at h;refine YR brs _ _ _ (fun y hy=>?_) h;rcases List.mem_append.1 hy with hy|hy
       ·exact hv y hy
       ·have:=yC x2 hc y hy;exact⟨o_,this.1⟩
   ·rw[N_ hv0]at h ⊢;exact h
  ·rw[N_ hk]at h ⊢;exact h
theorem YR:∀ (l:List Br) (nm:ByteArray) (vars:List T) (r:Option (T×List T)),(∀ x∈vars,size x<=M/\Nf C x)->mtB C W l nm vars=some r->mtB C some l nm vars=some r
 |[],_,_,_,_,h=>by unfold mtB at h ⊢;exact h
 |.mk c ab t::l,nm,vars,r,hv,h=>by
  unfold mtB at h ⊢;by_cases hc:c=nm
  ·rw[P_ hc]at h ⊢;cases ab with
   |true=>exact h
   |false=>exact YO t vars r hv h
  ·rw[N_ hc]at h ⊢;exact YR l nm vars r hv h
end
theorem aby {h:T}{as:List T}{r:Nx}(hk:∀ x∈h.K,size x<=M/\Nf C x)(ha:∀ x∈as,size x<=M/\Nf C x)(e:step C W h as=some r):step C some h as=some r:=by
 obtain⟨k,i,nm,ls,ks⟩:=h;unfold step at e ⊢;simp only[T.kind,T.K,T.name,T.L]at e hk ⊢;split at e
 ·exact e
 ·exact e
 ·exact e
 ·rename_i kk;cases hw:W kk with
  |none=>rw[hw]at e;cases e
  |some p=>
   have:=hW kk (hk kk (by simp)).1 (hk kk (by simp)).2 p hw;subst this;rw[hw]at e;exact e
 ·rename_i kk;cases hw:W kk with
  |none=>rw[hw]at e;cases e
  |some p=>
   have:=hW kk (hk kk (by simp)).1 (hk kk (by simp)).2 p hw;subst this;rw[hw]at e;exact e
 ·cases hc:C.cst nm ls.length with
  |rigid=>rw[hc]at e;exact e
  |dfn v=>rw[hc]at e;exact e
  |rcr first at_ fam rules=>
   rw[hc]at e;simp only at e ⊢;cases hx:as[at_]? with
   |none=>rw[hx]at e;exact e
   |some a=>
    rw[hx]at e;simp only at e ⊢;cases hw:W a with
    |none=>rw[hw]at e;cases e
    |some p=>
     obtain⟨a1,a2⟩:=ha a (m_ hx);have:=hW a a1 a2 p hw;subst this;rw[hw]at e;exact e
  |fn arity tree=>
   rw[hc]at e;simp only at e ⊢;split at e
   ·rename_i hl;rw[P_ hl];exact e
   ·rename_i hl;rw[N_ hl];cases hm:mtT C W tree (as.take arity) with
    |none=>rw[hm]at e;cases e
    |some m=>
     rw[hm]at e;rw[YO hW tree _ m (fun x hx=>ha x (List.mem_of_mem_take hx)) hm];exact e
 ·exact e
end
theorem nf_wf:∀ (M:Nat) (u:T),size u<=M->Nf C u->∀ (n:Nat) (v:T),wf C n u []=some v->v=u:=by
 intro M;induction M with
 |zero=>intro u h;have:=bZ u;omega
 |succ M ih=>
  intro u hu q n v e;obtain⟨h,as,rfl,hk,ha,s⟩:=q.inv;obtain⟨m,_,e⟩:=Uf C [] as e;rw[A_]at e;cases m with
  |zero=>cases e
  |succ m=>
   unfold wf at e;have hs:=kj h as;cases hr:step C (fun t=>wf C m t []) h as with
   |none=>rw[hr]at e;cases e
   |some r=>
    have q2:=aby (M:=M) (fun x x1 x2 y y1=>ih x x1 x2 m y y1) (fun x hx=>⟨by have:=pb hx;omega,hk x hx⟩)
     (fun x hx=>⟨by have:=cL hx;have:=bZ h;omega,ha x hx⟩) hr
    rw[s.2]at q2;cases q2;rw[hr]at e;cases e;rfl
theorem Bh {f:T->Option T}: ∀ {l r:List T},(∀ x∈l,∀ y,f x=some y->y=x)->jr f l=some r->r=l
 |[],r,_,h=>by cases h;rfl
 |t::l,r,q,h=>by
  unfold jr at h;cases ht:f t with
  |none=>rw[ht]at h;cases h
  |some x=>
   rw[ht]at h;simp only at h;cases hl:jr f l with
   |none=>rw[hl]at h;cases h
   |some s=>
    rw[hl]at h;cases h;rw[q t (by simp) x ht,Bh (fun x hx=>q x (by simp[hx])) hl]
theorem nf_nf:∀ (M:Nat) (u:T),size u<=M->Nf C u->∀ (n:Nat) (v:T),nf C n u=some v->v=u:=by
 intro M;induction M with
 |zero=>intro u h;have:=bZ u;omega
 |succ M ih=>
  intro u hu q n v e;cases n with
  |zero=>cases e
  |succ n=>
   unfold nf at e;cases hw:wf C n u [] with
   |none=>rw[hw]at e;cases e
   |some p=>
    rw[hw]at e;have:=nf_wf _ u (e_ _) q n p hw;subst this;obtain⟨h,as,rfl,hk,ha,s⟩:=q.inv;have hs:=kj h as;simp only[parts,gR s.1]at e;cases h1:jr (nf C n) h.K with
    |none=>rw[h1]at e;cases e
    |some ks=>
     rw[h1]at e;simp only at e;cases h2:jr (nf C n) as with
     |none=>rw[h2]at e;cases e
     |some l=>
      rw[h2]at e;cases e;have e1:=Bh (fun x hx y hy=>ih x (by have:=pb hx;omega) (hk x hx) n y hy) h1;have e2:=Bh (fun x hx y hy=>ih x (by have:=cL hx;have:=bZ h;omega) (ha x hx) n y hy) h2;rw[e1,e2];cases h;rfl
inductive F2 (R:T->T->Prop):List T->List T->Prop where
 |nil:F2 R [] []
 |cons {a b:T} {l m:List T} : R a b->F2 R l m->F2 R (a::l) (b::m)
def Rl (C:Cx)(x y:T):Prop:=∃ n,nf C n x=some y
theorem Rl.wf {x y:T}(q:Rl C x y){n:Nat}{c:T}(hc:wf C n x []=some c):Hd (bF c).1/\∃ ks as,F2 (Rl C) (bF c).1.K ks/\F2 (Rl C) (bF c).2 as/\
  y=cY (.mk (bF c).1.kind (bF c).1.idx (bF c).1.name (bF c).1.L ks) as:=by
 obtain⟨m,q⟩:=q;cases m with
 |zero=>cases q
 |succ m=>
  unfold nf at q;cases hw:MK.wf C m x [] with
  |none=>rw[hw]at q;cases q
  |some p=>
   rw[hw]at q;have:=ahL hw hc;subst this;refine⟨wc _,?_⟩;have map:∀ {l r:List T},jr (nf C m) l=some r->F2 (Rl C) l r:=by
    intro l;induction l with
    |nil=>intro r h;cases h;exact .nil
    |cons t l ih=>
     intro r h;unfold jr at h;cases ht:nf C m t with
     |none=>rw[ht]at h;cases h
     |some x=>
      rw[ht]at h;simp only at h;cases hl:jr (nf C m) l with
      |none=>rw[hl]at h;cases h
      |some s=>rw[hl]at h;cases h;exact .cons ⟨m,ht⟩ (ih hl)
   unfold parts at q;simp only at q;cases h1:jr (nf C m) (bF p).1.K with
   |none=>rw[h1]at q;cases q
   |some ks=>
    rw[h1]at q;simp only at q;cases h2:jr (nf C m) (bF p).2 with
    |none=>rw[h2]at q;cases q
    |some as=>rw[h2]at q;cases q;exact⟨ks,as,map h1,map h2,rfl⟩
theorem rD {R:T->T->Prop}{l m:List T}(h:F2 R l m):l.length=m.length:=by
 induction h with
 |nil=>rfl
 |cons _ _ ih=>simp[ih]
theorem f2_get {R:T->T->Prop}{l m:List T}(h:F2 R l m):∀ (i:Nat),(l[i]?=none/\m[i]?=none)∨∃ x y,l[i]?=some x/\m[i]?=some y/\R x y:=by
 induction h with
 |nil=>intro i;exact .inl ⟨by simp,by simp⟩
 |cons a _ ih=>
  intro i;cases i with
  |zero=>exact .inr ⟨_,_,rfl,rfl,a⟩
  |succ i=>simpa using ih i
theorem ac1 {R:T->T->Prop}{l m:List T}(h:F2 R l m):∀ (i:Nat),F2 R (l.drop i) (m.drop i):=by
 induction h with
 |nil=>intro i;simp;exact .nil
 |cons a b ih=>
  intro i;cases i with
  |zero=>exact .cons a b
  |succ i=>simpa using ih i
theorem ac0 {R:T->T->Prop}{l m:List T}(h:F2 R l m):∀ (i:Nat),F2 R (l.take i) (m.take i):=by
 induction h with
 |nil=>intro i;simp;exact .nil
 |cons a b ih=>
  intro i;cases i with
  |zero=>simp;exact .nil
  |succ i=>exact .cons a (ih i)
theorem Zb {R:T->T->Prop}{l m l' m':List T}(h:F2 R l m)(h':F2 R l' m'):F2 R (l++l') (m++m'):=by
 induction h with
 |nil=>exact h'
 |cons a _ ih=>exact .cons a ih
theorem ctor_rl {x y c:T}{n:Nat}(q:Rl C x y)(hc:wf C n x []=some c):(dy C c=none/\dy C y=none)∨
  ∃ d f',dy C c=some d/\dy C y=some ⟨d.fam,d.j,d.name,f'⟩/\F2 (Rl C) d.fields f':=by
 obtain⟨hd,ks,as,h1,h2,rfl⟩:=q.wf hc;have hd':Hd (.mk (bF c).1.kind (bF c).1.idx (bF c).1.name (bF c).1.L ks):=by
  intro e;rw[show T.K (.mk _ _ _ _ ks)=ks from rfl,<- rD h1];exact hd e
 unfold dy;rw[gR hd'];by_cases hk:(bF c).1.kind=3
 ·rw[P_ hk,P_ (show(T.mk (bF c).1.kind (bF c).1.idx (bF c).1.name (bF c).1.L ks).kind=3 from hk)];show _∨∃ d f',_/\(match C.ctor (bF c).1.name with|some (fam,j,n,fx,nm)=>if as.length=n/\fx<=n then some (⟨fam,j,nm,as.drop fx⟩:Hv) else none|none=>none)=_/\_
  cases hC:C.ctor (bF c).1.name with
  |none=>exact .inl ⟨rfl,by simp only[T.name]at hC ⊢;rw[hC]⟩
  |some r=>
   obtain⟨fam,j,n,fx,nm⟩:=r;simp only[<- rD h2];by_cases hl:(bF c).2.length=n/\fx<=n
   ·rw[P_ hl,P_ hl];exact .inr ⟨_,_,rfl,rfl,ac1 h2 fx⟩
   ·rw[N_ hl];exact .inl ⟨rfl,by simp only[T.name]at hC ⊢;rw[hC];simp only[];rw[N_ hl]⟩
 ·rw[N_ hk,N_ (show ¬ (T.mk (bF c).1.kind (bF c).1.idx (bF c).1.name (bF c).1.L ks).kind=3 from hk)];exact .inl ⟨rfl,rfl⟩
def Rr (C:Cx):Option (T×List T)->Option (T×List T)->Prop
 |none,none=>True
 |some (b,l),some (b',l')=>b=b'/\F2 (Rl C) l l'
 |_,_=>False
section
variable {m:Nat}
mutual
theorem YN:∀ (t:eY) (vars vars':List T) (r:Option (T×List T)),F2 (Rl C) vars vars'->mtT C (fun t=>wf C m t []) t vars=some r->∃ r',mtT C some t vars'=some r'/\Rr C r r'
 |.mk k body v brs,vars,vars',r,hv,h=>by
  unfold mtT at h ⊢;by_cases hk:k=1
  ·rw[P_ hk]at h ⊢;by_cases hv0:0<=v
   ·rw[P_ hv0]at h ⊢;rcases f2_get hv v.toNat with⟨g1,g2⟩|⟨x,y,g1,g2,g3⟩
    ·rw[g1]at h;rw[g2];cases h;exact⟨_,rfl,trivial⟩
    ·rw[g1]at h;rw[g2];simp only at h ⊢;cases hw:wf C m x [] with
     |none=>rw[hw]at h;cases h
     |some c=>
      rw[hw]at h;simp only at h;rcases ctor_rl g3 hw with⟨c1,c2⟩|⟨d,f',c1,c2,c3⟩
      ·rw[c1]at h;rw[c2];cases h;exact⟨_,rfl,trivial⟩
      ·rw[c1]at h;rw[c2];exact YQ brs _ _ _ _ (Zb hv c3) h
   ·rw[N_ hv0]at h ⊢;cases h;exact⟨_,rfl,trivial⟩
  ·rw[N_ hk]at h ⊢;cases h;exact⟨_,rfl,rfl,hv⟩
theorem YQ:∀ (l:List Br) (nm:ByteArray) (vars vars':List T) (r:Option (T×List T)),F2 (Rl C) vars vars'->mtB C (fun t=>wf C m t []) l nm vars=some r->∃ r',mtB C some l nm vars'=some r'/\Rr C r r'
 |[],_,_,_,_,_,h=>by unfold mtB at h ⊢;cases h;exact⟨_,rfl,trivial⟩
 |.mk c ab t::l,nm,vars,vars',r,hv,h=>by
  unfold mtB at h ⊢;by_cases hc:c=nm
  ·rw[P_ hc]at h ⊢;cases ab with
   |true=>cases h;exact⟨_,rfl,trivial⟩
   |false=>exact YN t vars vars' r hv h
  ·rw[N_ hc]at h ⊢;exact YQ l nm vars vars' r hv h
end
end
theorem tg {k:Int}{p:T}: ua k p=none↔p.kind≠8:=by
 unfold ua;by_cases h:p.kind=8
 ·simp[h]
 ·simp[h]
theorem QT {t:T}(h:(bF t).2=[]):(bF t).1=t:=by
 by_cases q:Hd t
 ·rw[mb q]
 ·obtain⟨k,i,nm,ls,ks⟩:=t;unfold Hd at q;simp only[T.kind,T.K,Classical.not_imp,Decidable.not_not]at q;obtain⟨rfl,q⟩:=q
  match ks,q with
  |[f,a],_=>rw[ki]at h;simp at h
theorem kind_apply (h:T)(as:List T):(as=[]/\cY h as=h)∨(as≠[]/\(cY h as).kind=4):=by
 rcases as.eq_nil_or_concat with rfl|⟨l,a,rfl⟩
 ·exact .inl ⟨rfl,rfl⟩
 ·rw[List.concat_eq_append,oB];exact .inr ⟨by simp,rfl⟩
theorem ab3 {x y c:T}{n:Nat}{k:Int}(q:Rl C x y)(hc:wf C n x []=some c)(h:ua k c=none):ua k y=none:=by
 obtain⟨hd,ks,as,h1,h2,rfl⟩:=q.wf hc;rw[tg]at h ⊢;rcases kind_apply (.mk (bF c).1.kind (bF c).1.idx (bF c).1.name (bF c).1.L ks) as with⟨rfl,e⟩|⟨_,e⟩
 ·rw[e];have:=QT (t:=c) (List.length_eq_zero_iff.1 (by rw[rD h2];rfl));rw[this];exact h
 ·rw[e];omega
theorem sk_rl {m:Nat}{h:T}{as ks as':List T}(s:Sk C (fun t=>wf C m t []) h as)(hk:F2 (Rl C) h.K ks)(ha:F2 (Rl C) as as'):
  Sk C some (.mk h.kind h.idx h.name h.L ks) as':=by
 obtain⟨hd,s⟩:=s;refine⟨fun e=>by rw[show T.K (.mk _ _ _ _ ks)=ks from rfl,<- rD hk];exact hd e,?_⟩;obtain⟨_,_,cs⟩:=uA s;obtain⟨k,i,nm,ls,ks0⟩:=h;simp only[T.kind,T.K,T.idx,T.name,T.L]at *;have pr:∀ {kk:T} {q:Int},(q=9∨q=10)->k=q->ks0=[kk]->∃ y,ks=[y]/\i=0/\nm=bs []/\ls=[]/\ua q y=none:=by
  rintro kk q hq rfl rfl;rcases cs with⟨_,c2⟩|⟨k2,p,c1,c2,c3,c4,c5⟩
  ·exact absurd ⟨hq,rfl⟩ c2
  ·cases c2;unfold oc at c5;injection c5 with d1 d2 d3 d4 d5;injection d5 with d5;cases hk with
   |cons a1 hk=>cases hk with
    |nil=>exact⟨_,rfl,d2,d3,d4,ab3 a1 c3 c4⟩
 unfold step at s ⊢;simp only[T.kind,T.K,T.name,T.L]at s ⊢;split at s
 ·cases s
 ·split at s
  ·cases ha;cases hk with
   |cons a1 hk=>cases hk with
    |cons a2 hk=>cases hk;rfl
  ·cases s
 ·cases s
 ·rename_i kk;obtain⟨y,rfl,rfl,rfl,rfl,e⟩:=pr (.inl rfl) rfl rfl;simp only[e];rfl
 ·rename_i kk;obtain⟨y,rfl,rfl,rfl,rfl,e⟩:=pr (.inr rfl) rfl rfl;simp only[e];rfl
 ·cases hc:C.cst nm ls.length with
  |rigid=>rfl
  |dfn v=>
   rw[hc]at s;simp only at s ⊢;cases hx:C.inst v ls with
   |none=>rfl
   |some x=>rw[hx]at s;cases s
  |rcr first at_ fam rules=>
   rw[hc]at s;simp only at s ⊢;rcases f2_get ha at_ with⟨g1,g2⟩|⟨x,y,g1,g2,g3⟩
   ·rw[g2]
   ·rw[g1]at s;rw[g2];simp only at s ⊢;cases hw:wf C m x [] with
    |none=>rw[hw]at s;cases s
    |some c=>
     rw[hw]at s;simp only at s;rcases ctor_rl g3 hw with⟨c1,c2⟩|⟨d,f',c1,c2,c3⟩
     ·rw[c2]
     ·rw[c1]at s;rw[c2];simp only at s ⊢;split at s
      ·rename_i hf;rw[P_ hf];cases hr:rules[d.j]? with
       |none=>rfl
       |some r=>
        rw[hr]at s;simp only at s ⊢;cases hx:C.inst r ls with
        |none=>rfl
        |some x=>rw[hx]at s;cases s
      ·rename_i hf;rw[N_ hf]
  |fn arity tree=>
   rw[hc]at s;simp only[<- rD ha]at s ⊢;split at s
   ·rename_i hl;rw[P_ hl]
   ·rename_i hl;rw[N_ hl];cases hm:mtT C (fun t=>wf C m t []) tree (as.take arity) with
    |none=>rw[hm]at s;cases s
    |some r=>
     rw[hm]at s;obtain⟨r',e1,e2⟩:=YN tree _ _ _ (ac0 ha arity) hm;rw[e1];cases r with
     |none=>
      cases r' with
      |none=>rfl
      |some r'=>exact absurd e2 (by simp[Rr])
     |some r=>
      cases r' with
      |none=>exact absurd e2 (by simp[Rr])
      |some r'=>
       obtain⟨b,l⟩:=r;obtain⟨b',l'⟩:=r';obtain⟨rfl,_⟩:=e2;simp only at s ⊢;cases hx:C.inst b ls with
       |none=>rfl
       |some x=>rw[hx]at s;cases s
 ·rename_i h1 h2 h3 h4 h5 h6;have two:∀ {q:Int},(∀ f a,k=q->ks0=[f,a]->False)->∀ f a,k=q->ks=[f,a]->False:=by
   rintro q hq f a e rfl;cases hk with
   |cons a1 hk=>cases hk with
    |cons a2 hk=>cases hk;exact hq _ _ e rfl
  split
  ·exact absurd rfl (fun e=>two h2 _ _ e rfl)
  ·exact absurd rfl (fun e=>two h3 _ _ e rfl)
  ·rename_i a v b;cases hk with
   |cons a1 hk=>cases hk with
    |cons a2 hk=>cases hk with
     |cons a3 hk=>cases hk;exact absurd rfl (fun e=>h4 _ _ _ e rfl)
  ·rename_i kk;cases hk with
   |cons a1 hk=>cases hk;exact absurd rfl (fun e=>h5 _ e rfl)
  ·rename_i kk;cases hk with
   |cons a1 hk=>cases hk;exact absurd rfl (fun e=>h6 _ e rfl)
  ·exact absurd rfl h1
  ·rfl
theorem wz {f:T->Option T}: ∀ {l r:List T},jr f l=some r->∀ y∈r,∃ x∈l,f x=some y
 |[],r,h,y,hy=>by cases h;cases hy
 |t::l,r,h,y,hy=>by
  unfold jr at h;cases ht:f t with
  |none=>rw[ht]at h;cases h
  |some x=>
   rw[ht]at h;simp only at h;cases hl:jr f l with
   |none=>rw[hl]at h;cases h
   |some s=>
    rw[hl]at h;cases h;rcases List.mem_cons.1 hy with rfl|hy
    ·exact⟨t,by simp,ht⟩
    ·obtain⟨z,z1,z2⟩:=wz hl y hy;exact⟨z,by simp[z1],z2⟩
theorem afo:∀ (n:Nat) (t u:T),nf C n t=some u->Nf C u:=by
 intro n;induction n with
 |zero=>intro t u h;cases h
 |succ n ih=>
  intro t u h;have h0:=h;unfold nf at h;cases hw:wf C n t [] with
  |none=>rw[hw]at h;cases h
  |some p=>
   rw[hw]at h;obtain⟨hh,hs,rfl,m,s⟩:=Ds _ _ _ _ hw;have e:=gR s.1 hs;unfold parts at h;simp only[e]at h;cases h1:jr (nf C n) hh.K with
   |none=>rw[h1]at h;cases h
   |some ks=>
    rw[h1]at h;simp only at h;cases h2:jr (nf C n) hs with
    |none=>rw[h2]at h;cases h
    |some as=>
     rw[h2]at h;cases h;obtain⟨_,ks',as',r1,r2,r3⟩:=Rl.wf ⟨_,h0⟩ hw;have fin:∀ {l r:List T},jr (nf C n) l=some r->F2 (Rl C) l r:=by
      intro l;induction l with
      |nil=>intro r h;cases h;exact .nil
      |cons t l ihl=>
       intro r h;unfold jr at h;cases ht:nf C n t with
       |none=>rw[ht]at h;cases h
       |some x=>
        rw[ht]at h;simp only at h;cases hl:jr (nf C n) l with
        |none=>rw[hl]at h;cases h
        |some q=>rw[hl]at h;cases h;exact .cons ⟨n,ht⟩ (ihl hl)
     exact .mk _ _ (fun x hx=>by obtain⟨z,_,z2⟩:=wz h1 x hx;exact ih z x z2) (fun x hx=>by obtain⟨z,_,z2⟩:=wz h2 x hx;exact ih z x z2) (sk_rl s (fin h1) (fin h2))
theorem Vj {n m:Nat}{t u v:T}(h:nf C n t=some u)(h2:nf C m u=some v):v=u:=
 nf_nf _ u (e_ _) (afo n t u h) m v h2
end
