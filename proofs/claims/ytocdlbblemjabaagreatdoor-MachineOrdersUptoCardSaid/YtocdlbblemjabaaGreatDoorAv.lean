/- Lemmas for MachineOrders (no condition). -/
import Derived.Test.YtocdlbblemjabaaGreatDoorAr
noncomputable section
namespace Go.AG.MK
mutual
def aO:T->Nat
 |.mk _ _ _ _ a=>1+ba a
def ba:List T->Nat
 |[]=>0
 |t::l=>aO t+ba l
end
theorem bI (t:T):1<=aO t:=by cases t;simp only[aO];omega
theorem cH:∀{l:List T} {x:T},x∈l->aO x<=ba l
 |y::l,x,h=>by
  simp only[ba];rcases X_.1 h with rfl|h
  ·omega
  have:=cH h;omega
theorem dR (a b:List T):ba (a++b)=ba a+ba b:=by
 induction a with
 |nil=>simp[ba]
 |cons x l c=>simp only[Q_,ba,c];omega
def bs (l:List UInt8):ByteArray:=⟨⟨l⟩⟩
def app (f a:T):T:=.mk 4 0 (bs []) [] [f,a]
def bA (f:T):List T->T
 |[]=>f
 |a::l=>bA (app f a) l
theorem lL (f:T)(l:List T)(a:T):bA f (l++[a])=app (bA f l) a:=by
 induction l generalizing f with
 |nil=>rfl
 |cons b l c=>simp only[Q_,bA,c]
def aT:T->T×List T
 |.mk k i nm ls [f,a]=>if k=4 then ((aT f).1,(aT f).2++[a]) else (.mk k i nm ls [f,a],[])
 |.mk k i nm ls b=>(.mk k i nm ls b,[])
termination_by t=>aO t
decreasing_by all_goals (simp only[aO,ba];omega)
theorem iE (i:Int)(nm:ByteArray)(ls:List LL)(f a:T):aT (.mk 4 i nm ls [f,a])=((aT f).1,(aT f).2++[a]):=by
 rw[aT,P_ rfl]
def Hd (h:T):Prop:=h.D=4->h.K.length≠2
theorem mw {h:T}(q:Hd h):aT h=(h,[]):=by
 have⟨k,_,_,_,c⟩:=h
 match c with
 |[]=>rw[aT];intro f a e;cases e
 |[f]=>rw[aT];intro f a e;cases e
 |[f,a]=>
  by_cases hk:k=4
  ·exact absurd rfl (q hk)
  rw[aT,N_ hk]
 |f::a::b::l=>rw[aT];intro f a e;cases e
theorem lI {h:T}(q:Hd h)(as:List T):aT (bA h as)=(h,as):=by
 rcases as.eq_nil_or_concat with rfl|⟨l,a,rfl⟩
 ·exact mw q
 rw[List.concat_eq_append,lL,app,iE];have:l.length<(l.concat a).length:=by simp
 rw[lI q l]
termination_by as.length
theorem cd (h:T)(as:List T):aO (bA h as)=aO h+ba as+as.length:=by
 induction as generalizing h with
 |nil=>simp[bA,ba]
 |cons a l b=>simp only[bA,b,app,aO,ba,M_];omega
theorem Tl:∀(n:Nat) (t:T),aO t<=n->Hd (aT t).1:=by
 intro n;induction n with
 |zero=>intro t h;have:=bI t;omega
 |succ n c=>
  intro t h;have⟨k,i,nm,ls,b⟩:=t;by_cases q:Hd (.mk k i nm ls b)
  ·rw[mw q];exact q
  unfold Hd at q;simp only[T.D,T.K,Classical.not_imp,Decidable.not_not]at q;obtain⟨rfl,q⟩:=q
  match b,q with
  |[f,a],_=>
   rw[iE];simp only[aO,ba]at h;exact c f o_
theorem uW (t:T):Hd (aT t).1:=Tl _ t (e_ _)
def bK (a kid:Int):Int:=if (kid=1/\(a=5\/a=6\/a=7))\/(kid=2/\a=11) then 1 else 0
mutual
def cZ (a:Int):T->Int->T
 |.mk k i nm ls b,d=>if k=0 then (if i<d then .mk k i nm ls b else .mk 0 (i+a) (bs []) [] []) else .mk k i nm ls (fB a k 0 b d)
def fB (a k:Int):Nat->List T->Int->List T
 |_,[],_=>[]
 |j,t::l,d=>cZ a t (d+bK k j)::fB a k (j+1) l d
end
mutual
def fM (a:List T):T->Int->T
 |.mk k i nm ls b,d=>if k=0 then (if d<=i then (match a[(i-d).toNat]? with|some x=>cZ d x 0|none=>.mk 0 (i-a.length) (bs []) [] []) else .mk k i nm ls b) else .mk k i nm ls (iO a k 0 b d)
def iO (a:List T)(k:Int):Nat->List T->Int->List T
 |_,[],_=>[]
 |j,t::l,d=>fM a t (d+bK k j)::iO a k (j+1) l d
end
mutual
inductive gK where
 |mk (kind:Int) (body:T) (var:Int) (brs:List Br)
inductive Br where
 |mk (ctor:ByteArray) (absurd_:Bool) (tree:gK)
end
inductive Cst where
 |rigid
 |dfn (v:T)
 |rcr (first at_:Nat) (fam:ByteArray) (rules:List T)
 |fn (arity:Nat) (tree:gK)
structure Cx where
 cst:ByteArray->Nat->Cst
 ctor:ByteArray->Option (ByteArray×Nat×Nat×Nat×ByteArray)
 inst:T->List LL->Option T
structure FZ where
 fam:ByteArray
 j:Nat
 N:ByteArray
 fields:List T
def cR (C:Cx)(t:T):Option FZ:=
 if (aT t).1.D=3 then
  match C.ctor (aT t).1.N with
  |some (a,j,n,b,nm)=>if (aT t).2.length=n/\b<=n then some ⟨a,j,nm,(aT t).2.drop b⟩ else none
  |none=>none
 else none
mutual
def mtT (C:Cx)(W:T->Option T):gK->List T->Option (Option (T×List T))
 |.mk k b v e,a=>
  if k=1 then
   if 0<=v then
    match a[v.toNat]? with
    |none=>some none
    |some x=>match W x with
     |none=>none
     |some c=>match cR C c with
      |none=>some none
      |some d=>mtB C W e d.N (a++d.fields)
   else some none
  else some (some (b,a))
def mtB (C:Cx)(W:T->Option T):List Br->ByteArray->List T->Option (Option (T×List T))
 |[],_,_=>some none
 |.mk c b t::l,nm,a=>if c=nm then (if b then some none else mtT C W t a) else mtB C W l nm a
end
def tI (k:Int)(p:T):Option T:=if p.D=8 then some ((p.K[(k-8).toNat]?).getD p) else none
def iL (k:Int)(p:T):T:=.mk k 0 (bs []) [] [p]
inductive Nx where
 |stuck (h:T) (as:List T)
 |next (h:T) (as:List T)
def step (C:Cx)(W:T->Option T)(h:T)(as:List T):Option Nx:=
 match h.D,h.K with
 |4,[f,a]=>some (.next f (a::as))
 |5,[_,b]=>match as with
  |[]=>some (.stuck h as)
  |a::l=>some (.next (fM [a] b 0) l)
 |11,[_,v,b]=>some (.next (fM [v] b 0) as)
 |9,[k]=>match W k with
  |none=>none
  |some p=>match tI 9 p with
   |some q=>some (.next q as)
   |none=>some (.stuck (iL 9 p) as)
 |10,[k]=>match W k with
  |none=>none
  |some p=>match tI 10 p with
   |some q=>some (.next q as)
   |none=>some (.stuck (iL 10 p) as)
 |3,_=>match C.cst h.N h.L.length with
  |.rigid=>some (.stuck h as)
  |.dfn v=>match C.inst v h.L with
   |none=>some (.stuck h as)
   |some x=>some (.next x as)
  |.rcr first j o g=>match as[j]? with
   |none=>some (.stuck h as)
   |some a=>match W a with
    |none=>none
    |some c=>match cR C c with
     |none=>some (.stuck h as)
     |some d=>if d.fam=o then
       match g[d.j]? with
       |none=>some (.stuck h as)
       |some r=>match C.inst r h.L with
        |none=>some (.stuck h as)
        |some x=>some (.next x (as.take first++d.fields++as.drop (j+1)))
      else some (.stuck h as)
  |.fn e m=>if as.length<e then some (.stuck h as) else
   match mtT C W m (as.take e) with
   |none=>none
   |some none=>some (.stuck h as)
   |some (some (n,i))=>match C.inst n h.L with
    |none=>some (.stuck h as)
    |some x=>some (.next (fM i.reverse x 0) (as.drop e))
 |_,_=>some (.stuck h as)
def wf (C:Cx):Nat->T->List T->Option T
 |0,_,_=>none
 |n+1,h,as=>match step C (λt=>wf C n t []) h as with
  |none=>none
  |some (.stuck b a)=>some (bA b a)
  |some (.next b a)=>wf C n b a
def ju (f:T->Option T):List T->Option (List T)
 |[]=>some []
 |t::l=>match f t with
  |none=>none
  |some x=>match ju f l with
   |none=>none
   |some r=>some (x::r)
def parts (f:T->Option T)(p:T):Option T:=
 match ju f (aT p).1.K with
 |none=>none
 |some a=>match ju f (aT p).2 with
  |none=>none
  |some as=>some (bA (.mk (aT p).1.D (aT p).1.X (aT p).1.N (aT p).1.L a) as)
def nf (C:Cx):Nat->T->Option T
 |0,_=>none
 |n+1,t=>match wf C n t [] with
  |none=>none
  |some p=>parts (nf C n) p
def Ext (W W':T->Option T):Prop:=∀t u,W t=some u->W' t=some u
section
variable {C:Cx}{W W':T->Option T}
mutual
theorem He (e:Ext W W'):∀(t:gK) (a:List T) (r:Option (T×List T)),mtT C W t a=some r->mtT C W' t a=some r
 |.mk k i v f,a,r,h=>by
  unfold mtT at h ⊢;by_cases hk:k=1
  ·rw[P_ hk]at h ⊢;by_cases g:0<=v
   ·rw[P_ g]at h ⊢;cases hx:a[v.toNat]? with
    |none=>rw[hx]at h;exact h
    |some x=>
     rw[hx]at h;simp only at h ⊢;cases b:W x with
     |none=>rw[b]at h;cases h
     |some c=>
      rw[b]at h;rw[e _ _ b];simp only at h ⊢;cases j:cR C c with
      |none=>rw[j]at h;exact h
      |some d=>rw[j]at h;exact Hh e f _ _ _ h
   rw[N_ g]at h ⊢;exact h
  rw[N_ hk]at h ⊢;exact h
theorem Hh (e:Ext W W'):∀(l:List Br) (nm:ByteArray) (a:List T) (r:Option (T×List T)),mtB C W l nm a=some r->mtB C W' l nm a=some r
 |[],_,_,_,h=>by unfold mtB at h ⊢;exact h
 |.mk c d t::l,nm,a,r,h=>by
  unfold mtB at h ⊢;by_cases b:c=nm
  ·rw[P_ b]at h ⊢;cases d with
   |true=>exact h
   |false=>exact He e t a r h
  rw[N_ b]at h ⊢;exact Hh e l nm a r h
end
theorem BM (e:Ext W W')(h:T)(as:List T)(r:Nx)(q:step C W h as=some r):step C W' h as=some r:=by
 have⟨_,_,nm,ls,_⟩:=h;unfold step at q ⊢;simp only[T.D,T.K,T.N,T.L]at q ⊢;split at q
 ·exact q
 ·exact q
 ·exact q
 ·rename_i n;cases b:W n with
  |none=>rw[b]at q;cases q
  |some p=>rw[b]at q;simp only[e _ _ b];exact q
 ·rename_i n;cases b:W n with
  |none=>rw[b]at q;cases q
  |some p=>rw[b]at q;simp only[e _ _ b];exact q
 ·cases f:C.cst nm ls.length with
  |rigid=>rw[f]at q;exact q
  |dfn v=>rw[f]at q;exact q
  |rcr first j s g=>
   rw[f]at q;simp only at q ⊢;cases o:as[j]? with
   |none=>rw[o]at q;exact q
   |some a=>
    rw[o]at q;simp only at q ⊢;cases b:W a with
    |none=>rw[b]at q;cases q
    |some p=>rw[b]at q;simp only[e _ _ b];exact q
  |fn c d=>
   rw[f]at q;simp only at q ⊢;split at q
   ·rename_i l;rw[P_ l];exact q
   rename_i l;rw[N_ l];cases hm:mtT C W d (as.take c) with
   |none=>rw[hm]at q;cases q
   |some m=>rw[hm]at q;rw[He e _ _ _ hm];exact q
 exact q
theorem KT:∀(n:Nat) (h:T) (as:List T) (u:T),wf C n h as=some u->wf C (n+1) h as=some u:=by
 intro n;induction n with
 |zero=>intro h as u q;cases q
 |succ n b=>
  intro h as u q;unfold wf at q ⊢;cases hs:step C (λt=>wf C n t []) h as with
  |none=>rw[hs]at q;cases q
  |some r=>
   rw[hs]at q;rw[BM (W':=λt=>wf C (n+1) t []) (λt u q=>b t [] u q) h as r hs];cases r with
   |stuck c a=>exact q
   |next c a=>exact b _ _ _ q
theorem xI {n m:Nat}(le:n<=m){h:T}{as:List T}{u:T}(q:wf C n h as=some u):wf C m h as=some u:=by
 induction le with
 |refl=>exact q
 |step _ a=>exact KT _ _ _ _ a
theorem ac2 {n m:Nat}{h:T}{as:List T}{u v:T}(p:wf C n h as=some u)(q:wf C m h as=some v):u=v:=by
 have a:=xI (Nat.le_max_left n m) p;have b:=xI (Nat.le_max_right n m) q;rw[a]at b;exact Option.some.inj b
theorem iQ {f g:T->Option T}(e:Ext f g):∀(l r:List T),ju f l=some r->ju g l=some r
 |[],r,h=>h
 |t::l,r,h=>by
  unfold ju at h ⊢;cases b:f t with
  |none=>rw[b]at h;cases h
  |some x=>
   rw[b]at h;rw[e _ _ b];simp only at h ⊢;cases a:ju f l with
   |none=>rw[a]at h;cases h
   |some s=>rw[a]at h;rw[iQ e l s a];exact h
theorem tN {f g:T->Option T}(e:Ext f g)(p u:T)(h:parts f p=some u):parts g p=some u:=by
 unfold parts at h ⊢;cases b:ju f (aT p).1.K with
 |none=>rw[b]at h;cases h
 |some c=>
  rw[b]at h;rw[iQ e _ _ b];simp only at h ⊢;cases a:ju f (aT p).2 with
  |none=>rw[a]at h;cases h
  |some as=>rw[a]at h;rw[iQ e _ _ a];exact h
theorem Ei:∀(n:Nat) (t u:T),nf C n t=some u->nf C (n+1) t=some u:=by
 intro n;induction n with
 |zero=>intro t u q;cases q
 |succ n b=>
  intro t u q;unfold nf at q ⊢;cases a:wf C n t [] with
  |none=>rw[a]at q;cases q
  |some p=>rw[a]at q;rw[KT _ _ _ _ a];exact tN b p u q
theorem ui {n m:Nat}(le:n<=m){t u:T}(q:nf C n t=some u):nf C m t=some u:=by
 induction le with
 |refl=>exact q
 |step _ a=>exact Ei _ _ _ a
theorem adG {n m:Nat}{t u v:T}(p:nf C n t=some u)(q:nf C m t=some v):u=v:=by
 have a:=ui (Nat.le_max_left n m) p;have b:=ui (Nat.le_max_right n m) q;rw[a]at b;exact Option.some.inj b
end
theorem Ru (C:Cx){h:T}(as:List T):∀(l:List T) {n:Nat} {u:T},wf C n (bA h l) as=some u->∃m,m<=n/\wf C m h (l++as)=some u:=by
 intro l;induction l generalizing h as with
 |nil=>intro n u q;exact⟨n,e_ _,q⟩
 |cons a l b=>
  intro n u q;have⟨m,_,q⟩:=b (h:=app h a) as q;cases m with
  |zero=>cases q
  |succ m=>
   refine⟨m,o_,?_⟩;unfold wf at q;exact q
theorem AM (C:Cx){h:T}(as:List T):∀(l:List T) {n:Nat} {u:T},wf C n h (l++as)=some u->wf C (n+l.length) (bA h l) as=some u:=by
 intro l;induction l generalizing h as with
 |nil=>intro n u q;exact q
 |cons a l b=>
  intro n u q;have e:wf C (n+1) (app h a) (l++as)=some u:=by
   unfold wf;exact q
  have:=b (h:=app h a) as e;rw[M_,show n+(l.length+1)=n+1+l.length by omega];exact this
end Go.AG.MK
namespace Go.AG.MK
section
variable {C:Cx}
def Sk (C:Cx)(W:T->Option T)(h:T)(as:List T):Prop:=Hd h/\step C W h as=some (.stuck h as)
theorem ZL (k:Int)(p:T)(hk:k≠4):Hd (iL k p):=by intro e;cases hk e
theorem yw {W:T->Option T}{h c:T}{as b:List T}(q:step C W h as=some (.stuck c b)):
  b=as/\Hd h/\((c=h/\¬((h.D=9\/h.D=10)/\h.K.length=1))\/∃k p,(h.D=9\/h.D=10)/\h.K=[k]/\W k=some p/\tI h.D p=none/\c=iL h.D p):=by
 have⟨_,i,nm,ls,d⟩:=h;unfold step at q;simp only[T.D,T.K,T.N,T.L]at q ⊢;split at q
 ·grind
 ·split at q
  ·cases q;exact⟨rfl,λe=>absurd e (by simp[T.D]),g_⟩
  grind
 ·grind
 ·rename_i n;cases r:W n with
  |none=>grind
  |some p=>
   rw[r]at q;simp only at q;cases o:tI 9 p with
   |some x=>grind
   |none=>rw[o]at q;cases q;exact⟨rfl,λe=>absurd e (by simp[T.D]),g_⟩
 ·rename_i n;cases r:W n with
  |none=>grind
  |some p=>
   rw[r]at q;simp only at q;cases o:tI 10 p with
   |some x=>grind
   |none=>rw[o]at q;cases q;exact⟨rfl,λe=>absurd e (by simp[T.D]),g_⟩
 ·have fin:∀{x y:T} {l m:List T},(some (Nx.stuck x l)=some (Nx.stuck y m))->y=x/\m=l:=g_;have B:Hd (.mk 3 i nm ls d):=λe=>absurd e (by simp[T.D]);have u:c=.mk 3 i nm ls d/\b=as:=by
   cases w:C.cst nm ls.length with
   |rigid=>grind
   |dfn v=>
    grind
   |rcr first j z g=>
    rw[w]at q;simp only at q;cases A:as[j]? with
    |none=>grind
    |some a=>
     rw[A]at q;grind
   |fn s t=>
    grind
  grind
 rename_i G I E H F D;cases q;refine⟨rfl,?_,.inl ⟨rfl,?_⟩⟩
 ·intro e l;simp only[T.D,T.K]at e l
  match d,l with
  |[f,a],_=>grind
 rintro⟨e,l⟩
 match d,l with
 |[a],_=>
  grind
theorem Gj:∀(n:Nat) (h:T) (as:List T) (u:T),wf C n h as=some u->∃e b,u=bA e b/\∃m,Sk C (λt=>wf C m t []) e b:=by
 intro n;induction n with
 |zero=>intro h as u q;cases q
 |succ n g=>
  intro h as u q;unfold wf at q;cases hs:step C (λt=>wf C n t []) h as with
  |none=>grind
  |some r=>
   rw[hs]at q;cases r with
   |next f c=>exact g _ _ _ q
   |stuck f c=>
    cases q;refine⟨f,c,rfl,?_⟩;obtain⟨rfl,i,⟨rfl,_⟩|⟨_,_,_,_,s,_,rfl⟩⟩:=yw hs
    ·exact⟨n,i,hs⟩
    obtain⟨d,a,rfl,m,_,_⟩:=g _ _ _ s;have v:wf C (m+1) d a=some (bA d a):=by grind [wf]
    have w:=AM C [] a (h:=d) (n:=m+1) (by rw[A_];omega);refine⟨m+1+a.length,ZL _ _ o_,?_⟩;grind [step,iL,T.D,T.K]
theorem sk_wf {n:Nat}{h:T}{as:List T}(s:Sk C (λt=>wf C n t []) h as):∃m,wf C m (bA h as) []=some (bA h as):=
 ⟨_,AM C [] as (n:=n+1) (by rw[A_];unfold wf;rw[s.2])⟩
inductive Nf (C:Cx):T->Prop where
 |mk (h:T) (as:List T):(∀x∈h.K,Nf C x)->(∀x∈as,Nf C x)->Sk C some h as->Nf C (bA h as)
theorem Nf.inv {u:T}(q:Nf C u):∃h as,u=bA h as/\(∀x∈h.K,Nf C x)/\(∀x∈as,Nf C x)/\Sk C some h as:=by
 cases q with
 |mk h as a b c=>grind
theorem Cu {h x:T}(hx:x∈h.K):aO x<aO h:=by
 have⟨_,_,_,_,a⟩:=h;have:=cH (l:=a) hx;simp only[aO];omega
theorem rA {c:T}{d:FZ}(e:cR C c=some d):∀x∈d.fields,x∈(aT c).2:=by
 grind [cR,List.mem_of_mem_drop]
theorem ON {c:T}{d:FZ}(n:Nf C c)(e:cR C c=some d):∀x∈d.fields,Nf C x/\aO x<aO c:=by
 obtain⟨_,_,rfl,_,_,s⟩:=n.inv;intro x hx;have hm:=rA e x hx;rw[lI s.1]at hm;have hs:=cH hm;grind [cd,bI]
section
set_option linter.unusedSectionVars false
variable {W:T->Option T}{M:Nat}(hW:∀x,aO x<=M->Nf C x->∀y,W x=some y->y=x)
include hW
end
inductive F2 (R:T->T->Prop):List T->List T->Prop where
 |nil:F2 R [] []
 |cons {a b:T} {l m:List T} : R a b->F2 R l m->F2 R (a::l) (b::m)
def Rl (C:Cx)(x y:T):Prop:=∃n,nf C n x=some y
theorem Rl.wf {x y:T}(q:Rl C x y){n:Nat}{c:T}(e:wf C n x []=some c):Hd (aT c).1/\∃a as,F2 (Rl C) (aT c).1.K a/\F2 (Rl C) (aT c).2 as/\
  y=bA (.mk (aT c).1.D (aT c).1.X (aT c).1.N (aT c).1.L a) as:=by
 have⟨m,q⟩:=q;cases m with
 |zero=>cases q
 |succ m=>
  unfold nf at q;cases f:MK.wf C m x [] with
  |none=>grind
  |some p=>
   have:=ac2 f e;refine⟨uW _,?_⟩;have map:∀{l r:List T},ju (nf C m) l=some r->F2 (Rl C) l r:=by
    intro l;induction l with
    |nil=>intro r h;cases h;exact .nil
    |cons t l g=>
     intro r h;unfold ju at h;cases b:nf C m t with
     |none=>grind
     |some x=>
      rw[b]at h;cases d:ju (nf C m) l with
      |none=>grind
      |some s=>rw[d]at h;cases h;exact .cons ⟨m,b⟩ g_
   grind [parts,ju,nf,aT]
theorem uQ {R:T->T->Prop}{l m:List T}(h:F2 R l m):l.length=m.length:=by
 induction h with
 |nil=>rfl
 |cons _ _ a=>grind
theorem f2_get {R:T->T->Prop}{l m:List T}(h:F2 R l m):∀(i:Nat),(l[i]?=none/\m[i]?=none)\/∃x y,l[i]?=some x/\m[i]?=some y/\R x y:=by
 induction h with
 |nil=>grind
 |cons a _ b=>
  grind
theorem Zg {R:T->T->Prop}{l m:List T}(h:F2 R l m):∀(i:Nat),F2 R (l.drop i) (m.drop i):=by
 induction h with
 |nil=>intro i;simp;exact .nil
 |cons a b c=>
  intro i;cases i with
  |zero=>exact .cons a b
  |succ i=>grind
theorem Zf {R:T->T->Prop}{l m:List T}(h:F2 R l m):∀(i:Nat),F2 R (l.take i) (m.take i):=by
 induction h with
 |nil=>intro i;simp;exact .nil
 |cons a b c=>
  intro i;cases i with
  |zero=>exact .nil
  |succ i=>exact .cons a g_
theorem UU {R:T->T->Prop}{l m b c:List T}(h:F2 R l m)(e:F2 R b c):F2 R (l++b) (m++c):=by
 induction h with
 |nil=>grind
 |cons a _ d=>exact .cons a d
theorem ctor_rl {x y c:T}{n:Nat}(q:Rl C x y)(m:wf C n x []=some c):(cR C c=none/\cR C y=none)\/
  ∃d g,cR C c=some d/\cR C y=some ⟨d.fam,d.j,d.N,g⟩/\F2 (Rl C) d.fields g:=by
 obtain⟨k,a,as,l,o,rfl⟩:=q.wf m;have h:Hd (.mk (aT c).1.D (aT c).1.X (aT c).1.N (aT c).1.L a):=by
  intro e;rw[show T.K (.mk _ _ _ _ a)=a from rfl,<-uQ l];exact k e
 unfold cR;rw[lI h];by_cases hk:(aT c).1.D=3
 ·rw[P_ hk,P_ (show(T.mk (aT c).1.D (aT c).1.X (aT c).1.N (aT c).1.L a).D=3 from hk)];show _\/∃d g,_/\(match C.ctor (aT c).1.N with|some (b,j,n,f,nm)=>if as.length=n/\f<=n then some (⟨b,j,nm,as.drop f⟩:FZ) else none|none=>none)=_/\_;cases p:C.ctor (aT c).1.N with
  |none=>grind [T.N]
  |some r=>
   have⟨_,_,n,f,_⟩:=r;simp only[<-uQ o];by_cases i:(aT c).2.length=n/\f<=n
   ·rw[P_ i,P_ i];grind [Zg]
   grind [T.N,uQ]
 rw[N_ hk,N_ (show ¬(T.mk (aT c).1.D (aT c).1.X (aT c).1.N (aT c).1.L a).D=3 from hk)];grind
def Rr (C:Cx):Option (T×List T)->Option (T×List T)->Prop
 |none,none=>True
 |some (b,l),some (c,a)=>b=c/\F2 (Rl C) l a
 |_,_=>False
section
variable {m:Nat}
mutual
theorem UG:∀(t:gK) (b a:List T) (r:Option (T×List T)),F2 (Rl C) b a->mtT C (λt=>wf C m t []) t b=some r->∃p,mtT C some t a=some p/\Rr C r p
 |.mk k o v g,b,a,r,j,h=>by
  unfold mtT at h ⊢;by_cases hk:k=1
  ·rw[P_ hk]at h ⊢;by_cases e:0<=v
   ·rw[P_ e]at h ⊢;rcases f2_get j v.toNat with⟨i,f⟩|⟨x,y,i,f,s⟩
    ·rw[i]at h;rw[f];cases h;exact⟨_,rfl,trivial⟩
    rw[i]at h;rw[f];simp only at h ⊢;cases q:wf C m x [] with
    |none=>grind
    |some c=>
     rw[q]at h;simp only at h;rcases ctor_rl s q with⟨n,l⟩|⟨d,u,n,l,c3⟩
     ·rw[n]at h;rw[l];cases h;exact⟨_,rfl,trivial⟩
     rw[n]at h;rw[l];exact UI g _ _ _ _ (UU j c3) h
   rw[N_ e]at h ⊢;cases h;exact⟨_,rfl,trivial⟩
  rw[N_ hk]at h ⊢;cases h;exact⟨_,rfl,rfl,j⟩
theorem UI:∀(l:List Br) (nm:ByteArray) (b a:List T) (r:Option (T×List T)),F2 (Rl C) b a->mtB C (λt=>wf C m t []) l nm b=some r->∃f,mtB C some l nm a=some f/\Rr C r f
 |[],_,_,_,_,_,h=>by cases h;exact⟨_,rfl,trivial⟩
 |.mk c g t::l,nm,b,a,r,d,h=>by
  unfold mtB at h ⊢;by_cases e:c=nm
  ·rw[P_ e]at h ⊢;cases g with
   |true=>cases h;exact⟨_,rfl,trivial⟩
   |false=>exact UG t b a r d h
  rw[N_ e]at h ⊢;exact UI l nm b a r d h
end
end
theorem sy {k:Int}{p:T}: tI k p=none<->p.D≠8:=by
 grind [tI]
theorem NW {t:T}(h:(aT t).2=[]):(aT t).1=t:=by
 by_cases q:Hd t
 ·grind [mw]
 have⟨_,_,_,_,b⟩:=t;unfold Hd at q;simp only[T.D,T.K,Classical.not_imp,Decidable.not_not]at q
 match b,q with
 |[f,a],_=>grind [iE]
theorem kind_apply (h:T)(as:List T):(as=[]/\bA h as=h)\/(as≠[]/\(bA h as).D=4):=by
 rcases as.eq_nil_or_concat with rfl|⟨l,a,rfl⟩
 ·exact .inl ⟨rfl,rfl⟩
 rw[List.concat_eq_append,lL];exact .inr ⟨by simp,rfl⟩
theorem Yb {x y c:T}{n:Nat}{k:Int}(q:Rl C x y)(b:wf C n x []=some c)(h:tI k c=none):tI k y=none:=by
 obtain⟨_,a,as,_,d,rfl⟩:=q.wf b;rw[sy]at h ⊢;rcases kind_apply (.mk (aT c).1.D (aT c).1.X (aT c).1.N (aT c).1.L a) as with⟨rfl,e⟩|⟨_,e⟩
 ·have:=NW (t:=c) (List.length_eq_zero_iff.1 (by rw[uQ d];rfl));rw[this];exact h
 omega
theorem sk_rl {m:Nat}{h:T}{as j l:List T}(s:Sk C (λt=>wf C m t []) h as)(hk:F2 (Rl C) h.K j)(u:F2 (Rl C) as l):
  Sk C some (.mk h.D h.X h.N h.L j) l:=by
 have⟨G,s⟩:=s;refine⟨λe=>by rw[show T.K (.mk _ _ _ _ j)=j from rfl,<-uQ hk];exact G e,?_⟩;have⟨_,_,I⟩:=yw s;have⟨k,i,nm,ls,n⟩:=h;simp only[T.D,T.K,T.X,T.N,T.L]at *;have D:∀{g:T} {q:Int},(q=9\/q=10)->k=q->n=[g]->∃y,j=[y]/\i=0/\nm=bs []/\ls=[]/\tI q y=none:=by
  rintro g q K rfl rfl;rcases I with⟨_,F⟩|⟨X,p,Y,F,c3,O,A⟩
  ·grind
  cases F;unfold iL at A;injection A with d1 d2 d3 d4 d5;injection d5 with d5;cases hk with
  |cons o hk=>cases hk with
   |nil=>grind [Yb]
 unfold step at s ⊢;simp only[T.D,T.K,T.N,T.L]at s ⊢;split at s
 ·grind
 ·split at s
  ·cases u;grind
  grind
 ·grind
 ·rename_i g;obtain⟨y,rfl,rfl,rfl,rfl,e⟩:=D o_ rfl rfl;simp only[e];rfl
 ·rename_i g;obtain⟨y,rfl,rfl,rfl,rfl,e⟩:=D o_ rfl rfl;simp only[e];rfl
 ·cases B:C.cst nm ls.length with
  |rigid=>rfl
  |dfn v=>
   grind
  |rcr first z J w=>
   rw[B]at s;simp only at s ⊢;rcases f2_get u z with⟨E,L⟩|⟨x,y,E,L,R⟩
   ·grind
   rw[E]at s;grind [wf,ctor_rl]
  |fn c d=>
   rw[B]at s;simp only[<-uQ u]at s ⊢;split at s
   ·grind
   rename_i H;rw[N_ H];cases hm:mtT C (λt=>wf C m t []) d (as.take c) with
   |none=>grind
   |some r=>
    rw[hm]at s;have⟨_,_,_⟩:=UG d _ _ _ (Zf u c) hm;grind [absurd,Rr]
 rename_i W h2 Q Z U P;have two:∀{q:Int},(∀f a,k=q->n=[f,a]->False)->∀f a,k=q->j=[f,a]->False:=by
  rintro q K f a e rfl;cases hk with
  |cons o hk=>cases hk with
   |cons M hk=>cases hk;simp_all
 split
 ·grind
 ·grind
 ·rename_i a v b;cases hk with
  |cons o hk=>cases hk with
   |cons M hk=>cases hk with
    |cons S hk=>cases hk;grind
 ·rename_i g;cases hk with
  |cons o hk=>cases hk;grind
 ·rename_i g;cases hk with
  |cons o hk=>cases hk;grind
 all_goals grind
theorem An {f:T->Option T}: ∀{l r:List T},ju f l=some r->∀y∈r,∃x∈l,f x=some y
 |[],r,h,y,a=>by cases h;grind
 |t::l,r,h,y,a=>by
  unfold ju at h;cases c:f t with
  |none=>grind
  |some x=>
   rw[c]at h;cases b:ju f l with
   |none=>grind
   |some s=>
    rw[b]at h;cases h;rcases X_.1 a with rfl|a
    ·grind
    have⟨_,_,_⟩:=An b y a;grind
theorem nf_is:∀(n:Nat) (t u:T),nf C n t=some u->Nf C u:=by
 intro n;induction n with
 |zero=>intro t u h;cases h
 |succ n j=>
  intro t u h;have o:=h;unfold nf at h;cases a:wf C n t [] with
  |none=>grind
  |some p=>
   rw[a]at h;obtain⟨i,hs,rfl,_,s⟩:=Gj _ _ _ _ a;have e:=lI s.1 hs;unfold parts at h;simp only[e]at h;cases c:ju (nf C n) i.K with
   |none=>grind
   |some v=>
    rw[c]at h;cases g:ju (nf C n) hs with
    |none=>grind
    |some as=>
     rw[g]at h;cases h;have fin:∀{l r:List T},ju (nf C n) l=some r->F2 (Rl C) l r:=by
      intro l;induction l with
      |nil=>intro r h;cases h;exact .nil
      |cons t l f=>
       intro r h;unfold ju at h;cases b:nf C n t with
       |none=>grind
       |some x=>
        rw[b]at h;cases d:ju (nf C n) l with
        |none=>grind
        |some q=>rw[d]at h;cases h;exact .cons ⟨n,b⟩ g_
     exact .mk _ _ (λx hx=>by have⟨_,_,_⟩:=An c x hx;grind) (λx hx=>by grind [An]) (sk_rl s g_ g_)
end
end Go.AG.MK
namespace Go.AG.MK
def fQ:T:=.mk 1 0 (bs []) [] []
def rD:T:=.mk 0 0 (bs []) [] []
def ptT (C:Cx)(t:T):Bool:=(aT t).1.D=3&&match C.cst (aT t).1.N (aT t).1.L.length with
 |.fn a _=>decide ((aT t).2.length<a)
 |_=>false
def ex (C:Cx):Nat->T->Option T
 |0,_=>none
 |n+1,t=>if ptT C t then
   match nf C n (app (cZ 1 t 0) rD) with
   |none=>none
   |some u=>match ex C n u with
    |none=>none
    |some v=>some (.mk 5 0 (bs []) [] [fQ,v])
  else parts (ex C n) t
section
variable {C:Cx}
theorem MU:∀(n:Nat) (t u:T),ex C n t=some u->ex C (n+1) t=some u:=by
 intro n;induction n with
 |zero=>intro t u q;cases q
 |succ n a=>
  intro t u q;unfold ex at q ⊢;by_cases b:ptT C t
  ·grind [nf,app,cZ,rD,Ei,ex]
  rw[N_ b]at q ⊢;exact tN a t u q
theorem AP {n m:Nat}(le:n<=m){t u:T}(q:ex C n t=some u):ex C m t=some u:=by
 induction le with
 |refl=>omega
 |step _ a=>grind [MU]
theorem adX {n m:Nat}{t u v:T}(p:ex C n t=some u)(q:ex C m t=some v):u=v:=by
 have a:=AP (Nat.le_max_left n m) p;grind [AP,Nat.le_max_right,Option.some.inj]
end
mutual
def occ:T->Int->Bool
 |.mk k i _ _ a,d=>if k=0 then decide (i=d) else ue k 0 a d
def ue (k:Int):Nat->List T->Int->Bool
 |_,[],_=>false
 |j,t::l,d=>occ t (d+bK k j)||ue k (j+1) l d
end
open Classical in
def qQ (t:T):T:=match t.D,t.K with
 |5,[_,.mk 4 _ _ _ [f,.mk 0 0 _ _ _]]=>if occ f 0 then t else cZ (-1) f 0
 |8,[_,.mk 9 _ _ _ [p],.mk 10 _ _ _ [q]]=>if p=q then p else t
 |_,_=>t
mutual
def sh:T->T
 |.mk k i nm ls a=>qQ (.mk k i nm ls (shs (k=5\/k=8) a))
def shs (p:Bool):List T->List T
 |[]=>[]
 |t::l=>(if p then fQ else sh t)::shs false l
end
end Go.AG.MK
namespace Go.AG.MK
theorem vD:∀l:List T,shs false l=l.map sh
 |[]=>by rfl
 |t::l=>by rw[shs,vD l];simp
theorem wJ {u:T}(a:u.D≠5)(b:u.D≠8):qQ u=u:=by
 grind [T.D,qQ,T.K,absurd]
theorem Kz {i:Int}{nm:ByteArray}{ls:List LL}{a f v b:T}(d:b=.mk 4 b.X b.N b.L [f,v])(c:v.D=0)(hi:v.X=0)(e:v.K=[])(ho:occ f 0=false):qQ (.mk 5 i nm ls [a,b])=cZ (-1) f 0:=by
 have⟨_,_,_,_,_⟩:=v;subst c hi e;rw[d];unfold qQ;simp only[T.D,T.K];rw[ho];rfl
theorem KB {i:Int}{nm:ByteArray}{ls:List LL}{a b:T}(h:∀f v,b.D=4->b.K=[f,v]->v.D=0->v.X=0->occ f 0=true):qQ (.mk 5 i nm ls [a,b])=.mk 5 i nm ls [a,b]:=by
 unfold qQ;simp only[T.D,T.K];split
 ·rename_i d e f j g c;cases c;split
  ·rfl
  rename_i q;cases q (h _ _ rfl rfl rfl rfl)
 all_goals grind
theorem Kx {i:Int}{nm:ByteArray}{ls:List LL}{z a b p:T}(d:a=.mk 9 a.X a.N a.L [p])(c:b=.mk 10 b.X b.N b.L [p]):qQ (.mk 8 i nm ls [z,a,b])=p:=by
 grind [qQ,T.D,T.K]
theorem Ky {i:Int}{nm:ByteArray}{ls:List LL}{z a b:T}(h:∀p q,a.D=9->a.K=[p]->b.D=10->b.K=[q]->p≠q):qQ (.mk 8 i nm ls [z,a,b])=.mk 8 i nm ls [z,a,b]:=by
 unfold qQ;simp only[T.D,T.K];split
 ·omega
 ·rename_i c;cases c;rw[N_ (h _ _ rfl rfl rfl rfl)]
 grind
def FmT (C:MK.Cx)(t x:T):Prop:=∃n m u v,nf C n t=some u/\ex C m u=some v/\x=sh v
theorem FmT.det {C:MK.Cx}{t x y:T}(a:FmT C t x)(b:FmT C t y):x=y:=by
 obtain⟨_,_,_,_,_,_,rfl⟩:=a;obtain⟨_,_,_,_,_,_,rfl⟩:=b;grind [adG,adX]
