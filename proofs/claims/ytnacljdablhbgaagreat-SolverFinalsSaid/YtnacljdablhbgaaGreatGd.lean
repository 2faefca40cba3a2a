/- SolverFinals: what filling is: with the reference's count, and as big steps (no condition). -/
import Derived.Test.YtnacljdablhbgaaGreatGc
import Derived.Test.YtnacljdablhbgaaGreatEd
namespace Go.Proofs.YtnacljdablhbgaaGreat
open Go.AG
def cd (ms:List MV)(h:T):Option T:=if h.kind=12 then (match ms[h.i.toNat]? with|some m=>if m.known=true then some m.val else none|none=>none) else none
def cj (F:T->Option Int->T×Int×Option Int):List T->Option Int->List T×Int×Option Int
 |[],c=>([],0,c)
 |t::l,c=>if (F t c).2.1≠0 then ([],(F t c).2.1,(F t c).2.2) else if (cj F l (F t c).2.2).2.1≠0 then ([],(cj F l (F t c).2.2).2.1,(cj F l (F t c).2.2).2.2) else ((F t c).1::(cj F l (F t c).2.2).1,0,(cj F l (F t c).2.2).2.2)
noncomputable def cY:T->List T->Option Int->T×List T×Option Int
 |v,[],c=>(v,[],c)
 |v,x::l,c=>if v.kind=5/\c≠none then cY (gu (v.K.getD 1 tZ) [x]).1 l (eP (gu (v.K.getD 1 tZ) [x]).1 (gu (v.K.getD 1 tZ) [x]).2 c) else (v,x::l,c)
def Fo:T->List T->T×List T
 |v,[]=>(v,[])
 |v,x::l=>if v.kind=5 then Fo (gA [x] (v.K.getD 1 tZ) 0) l else (v,x::l)
noncomputable def ge (ms:List MV):Nat->T->List Int->Option Int->T×Int×Option Int
 |0,_,_,_=>(tZ,11,none)
 |n+1,t,above,c=>
  if c=none then (tZ,11,none) else
  match cd ms (aD t).1 with
  |none=>
   let q:=cj (fun x c=>ge ms n x above c) (aD t).1.K c
   if q.2.1≠0 then (tZ,q.2.1,q.2.2) else
   let p:=cj (fun x c=>ge ms n x above c) (aD t).2 q.2.2
   if p.2.1≠0 then (tZ,p.2.1,p.2.2) else
   let r:=gB (.mk (aD t).1.kind (aD t).1.i (aD t).1.name (aD t).1.L q.1) p.1
   (r,0,jf r p.2.2)
  |some v=>
   if (aD t).1.i∈above then (tZ,22,c) else
   let q:=ge ms n v (above++[(aD t).1.i]) c
   if q.2.1≠0 then (tZ,q.2.1,q.2.2) else
   let p:=cj (fun x c=>ge ms n x above c) (aD t).2 (eP q.1 0 q.2.2)
   if p.2.1≠0 then (tZ,p.2.1,p.2.2) else
   let b:=cY q.1 p.1 p.2.2
   (gB b.1 b.2.1,0,eP (gB b.1 b.2.1) 0 b.2.2)
def pR (F:T->T->Prop):List T->List T->Prop
 |[],[]=>True
 |t::l,r::m=>F t r/\pR F l m
 |_,_=>False
def Fl (ms:List MV):Nat->T->T->Prop
 |0,_,_=>False
 |n+1,t,r=>match cd ms (aD t).1 with
  |none=>∃ks az,pR (Fl ms n) (aD t).1.K ks/\pR (Fl ms n) (aD t).2 az/\r=gB (.mk (aD t).1.kind (aD t).1.i (aD t).1.name (aD t).1.L ks) az
  |some v=>∃w az,Fl ms n v w/\pR (Fl ms n) (aD t).2 az/\r=gB (Fo w az).1 (Fo w az).2
theorem pR.mono {F G:T->T->Prop}(h:∀t r,F t r->G t r):∀{l m},pR F l m->pR G l m
 |[],[],_=>trivial
 |_t::_l,_r::_m,q=>⟨h _ _ q.1,pR.mono h q.2⟩
 |[],_::_,q=>q.elim
 |_::_,[],q=>q.elim
theorem pR.fn {F G:T->T->Prop}(h:∀t r s,F t r->G t s->r=s):∀{l m k},pR F l m->pR G l k->m=k
 |[],[],[],_,_=>rfl
 |t::l,r::m,s::k,q,p=>by rw[h _ _ _ q.1 p.1,pR.fn h q.2 p.2]
 |[],_::_,_,q,_=>q.elim
 |_::_,[],_,q,_=>q.elim
 |[],[],_::_,_,p=>p.elim
 |_::_,_::_,[],_,p=>p.elim
theorem Fl.mono {ms:List MV}: ∀n t r,Fl ms n t r->Fl ms (n+1) t r
 |0,_,_,h=>h.elim
 |n+1,t,r,h=>by
  unfold Fl at h ⊢;cases hk:cd ms (aD t).1 with
  |none=>
   rw[hk]at h;obtain⟨ks,az,h1,h2,h3⟩:=h;exact⟨ks,az,h1.mono (Fl.mono n),h2.mono (Fl.mono n),h3⟩
  |some v=>
   rw[hk]at h;obtain⟨w,az,h1,h2,h3⟩:=h;exact⟨w,az,Fl.mono n _ _ h1,h2.mono (Fl.mono n),h3⟩
theorem Fl.le {ms:List MV}{n m:Nat}(h:n<=m){t r:T}(x:Fl ms n t r):Fl ms m t r:=by
 induction m with
 |zero=>
      obtain rfl:n=0:=by omega
      exact x
 |succ m ih=>
  by_cases q:n<=m
  ·exact Fl.mono _ _ _ (ih q)
  ·obtain rfl:n=m+1:=by omega
   exact x
theorem Fl.fn {ms:List MV}: ∀n m t r s,Fl ms n t r->Fl ms m t s->r=s
 |0,_,_,_,_,h,_=>h.elim
 |_,0,_,_,_,_,h=>h.elim
 |n+1,m+1,t,r,s,h,g=>by
  unfold Fl at h g;cases hk:cd ms (aD t).1 with
  |none=>
   rw[hk]at h g;obtain⟨ks,az,h1,h2,rfl⟩:=h;obtain⟨ks',az',g1,g2,rfl⟩:=g;rw[h1.fn (Fl.fn n m) g1,h2.fn (Fl.fn n m) g2]
  |some v=>
   rw[hk]at h g;obtain⟨w,az,h1,h2,rfl⟩:=h;obtain⟨w',az',g1,g2,rfl⟩:=g;rw[Fl.fn n m _ _ _ h1 g1,h2.fn (Fl.fn n m) g2]
theorem dn {t:T}{e:Int}{c:Option Int}{f:Int}(h:eP t e c=some f):e=0/\c≠none/\¬lH t:=by
 cases c with
 |none=>simp[eP]at h
 |some g=>
  simp only[eP]at h;split at h
  ·cases h
  ·rename_i q;refine⟨?_,by simp,fun hb=>q (.inr (.inr hb))⟩;rcases Int.lt_trichotomy e 0 with w|w|w
   ·exact absurd (.inl (by omega)) q
   ·exact w
   ·exact absurd (.inl (by omega)) q
theorem uL {t:T}{vs:List T}(h:(gu t vs).2=0):(gu t vs).1=gA vs t 0:=by
 unfold gu at h ⊢;split
 ·rename_i q;rw[wae q]at h;cases h
 ·rename_i q;rw[wad q]at h;split
  ·rename_i q2;rw[wae q2]at h;cases h
  ·rfl
theorem pB (v:T):∀l,cY v l none=(v,l,none)
 |[]=>rfl
 |x::l=>by simp[cY]
theorem Da:∀(l:List T) (v:T) (c:Option Int) (f:Int),(cY v l c).2.2=some f->((cY v l c).1,(cY v l c).2.1)=Fo v l
 |[],v,c,f,_=>rfl
 |x::l,v,c,f,h=>by
  unfold cY at h ⊢;unfold Fo;split
  ·rename_i q;rw[wae q]at h;rw[wae q.1];have key:∀c',c'=eP (gu (v.K.getD 1 tZ) [x]).1 (gu (v.K.getD 1 tZ) [x]).2 c->c'≠none:=by
    intro c' hc' hn;rw[<-hc',hn,pB]at h;cases h
   obtain⟨f',hf'⟩:=waf.1 (key _ rfl);obtain⟨e0,_,_⟩:=dn hf';have:=Da l _ _ f h;rw[this,uL e0]
  ·rename_i q;rw[wad q]at h;by_cases hk:v.kind=5
   ·exact absurd ⟨hk,by intro hn;rw[hn]at h;cases h⟩ q
   ·rw[wad hk]
theorem pR.all {ms:List MV}: ∀{l m:List T},pR (fun t r=>∃k,Fl ms k t r) l m->∃k,pR (Fl ms k) l m
 |[],[],_=>⟨0,trivial⟩
 |t::l,r::m,q=>by
  obtain⟨k1,h1⟩:=q.1;obtain⟨k2,h2⟩:=pR.all q.2;exact⟨max k1 k2,h1.le (by omega),h2.mono (fun t r x=>x.le (by omega))⟩
 |[],_::_,q=>q.elim
 |_::_,[],q=>q.elim
section
variable {F:T->Option Int->T×Int×Option Int}
theorem eS (hN:∀t,(F t none).2.1≠0/\(F t none).2.2=none):∀(l:List T) (c:Option Int) (f:Int),(cj F l c).2.2=some f->c≠none
 |[],c,f,h=>by intro hc;subst hc;cases h
 |t::l,c,f,h=>by
  intro hc;subst hc;unfold cj at h;rw[wae (hN t).1,(hN t).2]at h;cases h
theorem uM {R:T->T->Prop}(hN:∀t,(F t none).2.1≠0/\(F t none).2.2=none)(hF:∀t c f,(F t c).2.1=0->(F t c).2.2=some f->R t (F t c).1):
  ∀(l:List T) (c:Option Int) (f:Int),(cj F l c).2.1=0->(cj F l c).2.2=some f->pR R l (cj F l c).1
 |[],_,_,_,_=>trivial
 |t::l,c,f,h0,h1=>by
  unfold cj at h0 h1 ⊢;by_cases q:(F t c).2.1≠0
  ·rw[wae q]at h0;exact absurd h0 q
  ·rw[wad q]at h0 h1 ⊢;by_cases q2:(cj F l (F t c).2.2).2.1≠0
   ·rw[wae q2]at h0;exact absurd h0 q2
   ·rw[wad q2]at h0 h1 ⊢;have q:(F t c).2.1=0:=by simpa using q
    have q2:(cj F l (F t c).2.2).2.1=0:=by simpa using q2
    have hs:=eS hN l _ f h1;obtain⟨f',hf'⟩:=waf.1 hs;exact⟨hF t c f' q hf',uM hN hF l _ f q2 h1⟩
theorem vg (hN:∀t,(F t none).2.1≠0/\(F t none).2.2=none):∀(l:List T) (c:Option Int) (f:Int),(cj F l c).2.1≠0->(cj F l c).2.2=some f->∃t c',t∈l/\(F t c').2.1=(cj F l c).2.1/\(F t c').2.2=some f
 |[],_,_,h0,_=>absurd rfl h0
 |t::l,c,f,h0,h1=>by
  unfold cj at h0 h1 ⊢;by_cases q:(F t c).2.1≠0
  ·rw[wae q]at h0 h1 ⊢;exact⟨t,c,by simp,rfl,h1⟩
  ·rw[wad q]at h0 h1 ⊢;by_cases q2:(cj F l (F t c).2.2).2.1≠0
   ·rw[wae q2]at h0 h1 ⊢;obtain⟨t',c',h2,h3,h4⟩:=vg hN l _ f q2 h1;exact⟨t',c',by simp[h2],h3,h4⟩
   ·rw[wad q2]at h0;exact absurd rfl h0
end
theorem mC (ms:List MV)(n:Nat)(t:T)(above:List Int):ge ms n t above none=(tZ,11,none):=by
 cases n<;>simp[ge]
theorem da (ms:List MV)(n:Nat)(above:List Int):∀t,(ge ms n t above none).2.1≠0/\(ge ms n t above none).2.2=none:=by
 intro t;rw[mC];exact⟨by decide,rfl⟩
theorem iU {t:T}{c:Option Int}{f:Int}(h:jf t c=some f):c≠none/\¬lH t:=by
 cases c with
 |none=>simp[jf]at h
 |some g=>
  simp only[jf]at h;split at h
  ·cases h
  ·rename_i q;exact⟨by simp,q⟩
theorem ik {v:T}{l:List T}{c:Option Int}{f:Int}(h:(cY v l c).2.2=some f):c≠none:=by
 intro hc;subst hc;rw[pB]at h;cases h
theorem CL (ms:List MV):∀n t above c f,(ge ms n t above c).2.1=0->(ge ms n t above c).2.2=some f->∃k,Fl ms k t (ge ms n t above c).1:=by
 intro n;induction n with
 |zero=>intro t above c f h;simp[ge]at h
 |succ n ih=>
  intro t above c f h0 h1;unfold ge at h0 h1 ⊢;by_cases hc:c=none
  ·rw[wae hc]at h0;simp at h0
  ·rw[wad hc]at h0 h1 ⊢;cases hk:cd ms (aD t).1 with
   |none=>
    simp only[hk]at h0 h1 ⊢;split at h0
    ·rename_i q;exact absurd h0 q
    ·rename_i q;simp only[wad q]at h1 ⊢;split at h0
     ·rename_i q2;exact absurd h0 q2
     ·rename_i q2;simp only[wad q2]at h1 ⊢;obtain⟨f2,hf2⟩:=waf.1 (iU h1).1;obtain⟨f1,hf1⟩:=waf.1 (eS (da ms n above) _ _ _ hf2);have a1:=uM (R:=fun t r=>∃k,Fl ms k t r) (da ms n above) (fun t c f=>ih t above c f) _ _ _ (by simpa using q) hf1;have a2:=uM (R:=fun t r=>∃k,Fl ms k t r) (da ms n above) (fun t c f=>ih t above c f) _ _ _ (by simpa using q2) hf2;obtain⟨k1,b1⟩:=a1.all;obtain⟨k2,b2⟩:=a2.all;refine⟨max k1 k2+1,?_⟩;unfold Fl;rw[hk];exact⟨_,_,b1.mono (fun t r x=>x.le (by omega)),b2.mono (fun t r x=>x.le (by omega)),rfl⟩
   |some v=>
    simp only[hk]at h0 h1 ⊢;split at h0
    ·simp at h0
    ·rename_i q0;simp only[wad q0]at h1 ⊢;split at h0
     ·rename_i q;exact absurd h0 q
     ·rename_i q;simp only[wad q]at h1 ⊢;split at h0
      ·rename_i q2;exact absurd h0 q2
      ·rename_i q2;simp only[wad q2]at h1 ⊢;obtain⟨f3,hf3⟩:=waf.1 (dn h1).2.1;obtain⟨f2,hf2⟩:=waf.1 (ik hf3);obtain⟨f1,hf1⟩:=waf.1 (eS (da ms n above) _ _ _ hf2);obtain⟨f0,hf0⟩:=waf.1 (dn hf1).2.1;obtain⟨k1,b1⟩:=ih v _ c f0 (by simpa using q) hf0;have a2:=uM (R:=fun t r=>∃k,Fl ms k t r) (da ms n above) (fun t c f=>ih t above c f) _ _ _ (by simpa using q2) hf2;obtain⟨k2,b2⟩:=a2.all;have hb:=Da _ _ _ _ hf3;refine⟨max k1 k2+1,?_⟩;unfold Fl;rw[hk];refine⟨_,_,b1.le (by omega),b2.mono (fun t r x=>x.le (by omega)),?_⟩;rw[<-hb]
def kv (ms:List MV)(j:Int):Option T:=match ms[j.toNat]? with|some m=>if m.known=true then some m.val else none|none=>none
theorem pq {ms:List MV}{h:T}{v:T}(e:cd ms h=some v):kv ms h.i=some v:=by
 unfold cd at e;split at e
 ·exact e
 ·cases e
theorem pR.mem {R:T->T->Prop}: ∀{l m:List T} {t:T},pR R l m->t∈l->∃r,R t r
 |x::l,r::m,t,q,h=>by
  rcases List.mem_cons.1 h with rfl|h
  ·exact⟨r,q.1⟩
  ·exact pR.mem q.2 h
 |[],_,_,_,h=>by simp at h
 |_::_,[],_,q,_=>q.elim
def Up (ms:List MV)(above:List Int)(t:T):Prop:=∀j∈above,∀v,kv ms j=some v->∀n r,Fl ms n v r->∃n',n'<=n/\∃r',Fl ms n' t r'
theorem Up.part {ms:List MV}{above:List Int}{t t':T}(u:Up ms above t)(h:∀n r,Fl ms n t r->∃n',n'<=n/\∃r',Fl ms n' t' r'):Up ms above t':=by
 intro j hj v hv n r hr;obtain⟨n1,h1,r1,q1⟩:=u j hj v hv n r hr;obtain⟨n2,h2,r2,q2⟩:=h n1 r1 q1;exact⟨n2,by omega,r2,q2⟩
theorem Fl.arg {ms:List MV}{n:Nat}{t r x:T}(h:Fl ms n t r)(hx:x∈(aD t).2):∃n',n'+1=n/\∃r',Fl ms n' x r':=by
 cases n with
 |zero=>exact h.elim
 |succ n=>
  unfold Fl at h;cases hk:cd ms (aD t).1 with
  |none=>
   rw[hk]at h;obtain⟨ks,az,h1,h2,h3⟩:=h;obtain⟨r',q⟩:=h2.mem hx;exact⟨n,rfl,r',q⟩
  |some v=>
   rw[hk]at h;obtain⟨w,az,h1,h2,h3⟩:=h;obtain⟨r',q⟩:=h2.mem hx;exact⟨n,rfl,r',q⟩
theorem Fl.kid {ms:List MV}{n:Nat}{t r x:T}(h:Fl ms n t r)(hk:cd ms (aD t).1=none)(hx:x∈(aD t).1.K):∃n',n'+1=n/\∃r',Fl ms n' x r':=by
 cases n with
 |zero=>exact h.elim
 |succ n=>
  unfold Fl at h;rw[hk]at h;obtain⟨ks,az,h1,h2,h3⟩:=h;obtain⟨r',q⟩:=h1.mem hx;exact⟨n,rfl,r',q⟩
theorem Fl.val {ms:List MV}{n:Nat}{t r v:T}(h:Fl ms n t r)(hk:cd ms (aD t).1=some v):∃n',n'+1=n/\∃r',Fl ms n' v r':=by
 cases n with
 |zero=>exact h.elim
 |succ n=>
  unfold Fl at h;rw[hk]at h;obtain⟨w,az,h1,h2,h3⟩:=h;exact⟨n,rfl,w,h1⟩
theorem uA (ms:List MV):∀n t above c f,(ge ms n t above c).2.1≠0->(ge ms n t above c).2.2=some f->Up ms above t->(ge ms n t above c).2.1=22/\∀k r,¬Fl ms k t r:=by
 intro n;induction n with
 |zero=>intro t above c f h0 h1;simp[ge]at h1
 |succ n ih=>
  intro t above c f h0 h1 u;have args:∀c,(cj (fun x c=>ge ms n x above c) (aD t).2 c).2.1≠0->(cj (fun x c=>ge ms n x above c) (aD t).2 c).2.2=some f->(cj (fun x c=>ge ms n x above c) (aD t).2 c).2.1=22/\∀k r,¬Fl ms k t r:=by
   intro c q0 q1;obtain⟨x,c',hx,e1,e2⟩:=vg (da ms n above) _ _ _ q0 q1;have:=ih x above c' f (by rw[e1];exact q0) e2 (u.part fun n r h=>by obtain⟨n',a,b⟩:=h.arg hx;exact⟨n',by omega,b⟩);refine⟨by rw[<-e1];exact this.1,fun k r h=>?_⟩;obtain⟨n',_,r',q⟩:=h.arg hx;exact this.2 _ _ q
  unfold ge at h0 h1 ⊢;by_cases hc:c=none
  ·rw[wae hc]at h1;cases h1
  ·rw[wad hc]at h0 h1 ⊢;cases hk:cd ms (aD t).1 with
   |none=>
    simp only[hk]at h0 h1 ⊢;split at h0
    ·rename_i q;simp only[wae q]at h1 ⊢;obtain⟨x,c',hx,e1,e2⟩:=vg (da ms n above) _ _ _ q h1;have:=ih x above c' f (by rw[e1];exact q) e2 (u.part fun n r h=>by obtain⟨n',a,b⟩:=h.kid hk hx;exact⟨n',by omega,b⟩);refine⟨by rw[<-e1];exact this.1,fun k r h=>?_⟩;obtain⟨n',_,r',q⟩:=h.kid hk hx;exact this.2 _ _ q
    ·rename_i q;simp only[wad q]at h1 ⊢;split at h0
     ·rename_i q2;simp only[wae q2]at h1 ⊢;exact args _ q2 h1
     ·exact absurd rfl h0
   |some v=>
    simp only[hk]at h0 h1 ⊢;have hv:=pq hk;split at h0
    ·rename_i q0;simp only[wae q0]at h1 ⊢;refine⟨by simp,fun k r h=>?_⟩;have desc:∀k,∀r,¬Fl ms k v r:=by
      intro k;induction k using Nat.strongRecOn with
      |_ k ihk=>
       intro r h;obtain⟨n',a,r',q⟩:=u _ q0 v hv k r h;obtain⟨m,b,r2,q2⟩:=q.val hk;exact ihk m (by omega) r2 q2
     obtain⟨m,_,r2,q2⟩:=h.val hk;exact desc m r2 q2
    ·rename_i q0;simp only[wad q0]at h1 ⊢;split at h0
     ·rename_i q;simp only[wae q]at h1 ⊢;have:=ih v (above++[(aD t).1.i]) c f q h1 (by
       intro j hj w hw m r hr;rcases List.mem_append.1 hj with hj|hj
       ·obtain⟨n1,a1,r1,b1⟩:=u j hj w hw m r hr;obtain⟨n2,a2,r2,b2⟩:=b1.val hk;exact⟨n2,by omega,r2,b2⟩
       ·simp at hj;subst hj;rw[hv]at hw;cases hw;exact⟨m,Fv _,r,hr⟩)
      refine⟨this.1,fun k r h=>?_⟩;obtain⟨m,_,r2,q2⟩:=h.val hk;exact this.2 _ _ q2
     ·rename_i q;simp only[wad q]at h1 ⊢;split at h0
      ·rename_i q2;simp only[wae q2]at h1 ⊢;exact args _ q2 h1
      ·exact absurd rfl h0
structure KF (K:aG):Prop where
 r246:∀t,size t<=1000000000000->∀h,K (.fn 246 [] []) [enc t] .no h=some (.ret (wt (io t)),.no,h)
theorem KF.c246 {K:aG}(kf:KF K)(m:Nat)(t:T)(hs:size t<=1000000000000)(h:AH):cS K m (.fn 246 [] []) [enc t] .no h=some (.ret (wt (io t)),.no,h):=
 dP (ae (aP _ _) (aB _)) (kf.r246 t hs h) rfl m
theorem c206 {K:aG}(hK:bW K)(kb:KB K)(kf:KF K)(t:T)(m:Nat)(hm:size t+4<=m)(h50:size t<=4096)(hd:io t<=200)(h:AH):
  ∃v h',cS K (m+1) (.fn 206 [] []) [enc t] .no h=some (.ret v,.no,h')/\v=.bool false/\HK h h':=by
 obtain⟨m,rfl⟩:∃m',m=m'+1:=⟨m-1,by omega⟩
 refine cm hK cf206 (ae (aP _ _) (aB _)) ?_;simp only[wab];have c246:=fun h=>kf.c246 (m+1) t (by omega) h
 rw[aA t]at c246 ⊢;unfold b206;simp only[go_sem,simprocAttr];obtain⟨H,hH⟩:∃H:AH,H=h.new (.box [wt t.kind,wt t.i,.str t.name,.ls (t.L.map aK),.ls (t.K.map enc)]):=⟨_,rfl⟩
 rw[<-hH];have k0:HK h H:=by subst hH;exact HK.new _ _
 have b4:H.get h.z=some (.box [wt t.kind,wt t.i,.str t.name,.ls (t.L.map aK),.ls (t.K.map enc)]):=by subst hH;exact aE _ _
 have n4:H.z=h.z+1:=by subst hH;exact ci _ _
 clear hH;obtain⟨_,H2,e2,rfl,k2⟩:=c245 hK kb m t H (by omega) (by omega);rw[aA t]at e2;have b4':=(k2.kw _ (by omega)).trans b4;have h1':decide ((4096:Int)<(size t:Int))=false:=by simp;omega
 have h2':decide ((200:Int)<(io t:Int))=false:=by simp;omega
 simp only[go_sem,simprocAttr,QB,b4,e2,h1',b4',c246,h2'];exact⟨rfl,rfl,.inr rfl,[.bool false],by simp only[go_sem,simprocAttr,r206],.bool false,H2,rfl,rfl,k0.trans k2⟩
theorem c156 {K:aG}(hK:bW K)(kb:KB K)(kf:KF K)(t:T)(m:Nat)(hm:size t+5<=m)(h50:size t<=4096)(hd:io t<=200)(h:AH):
  ∃v h',cS K (m+1) (.fn 156 [] []) [enc t,wt 0] .no h=some (.ret v,.no,h')/\v=enc t/\HK h h':=by
 obtain⟨m,rfl⟩:∃m',m=m'+1:=⟨m-1,by omega⟩
 refine cm hK cf156 (ae (aP _ _) (ae (ba _ _ _) (aB _))) ?_;simp only[wab];obtain⟨r,hr⟩:∃r,r=enc t:=⟨_,rfl⟩
 have J0:=kS.init t h;rw[<-hr];have hr':=hr;rw[aA t]at hr';rw[hr'];unfold b156;unfold au at J0;simp only[go_sem,simprocAttr];revert J0;generalize ((h.new (.box [wt t.kind,wt t.i,.str t.name,.ls (t.L.map aK),.ls (t.K.map enc)])).new (.box [wt 0,wt 0,.str (bs []),.nl,.nl]))=H;intro J0;have b6:=J0.b6;have b10:=J0.b10;unfold au at b6;have nx:=J0.nx;obtain⟨_,H2,e2,rfl,k2⟩:=c206 hK kb kf t m (by omega) h50 hd H;rw[aA t]at e2;have b6':=(k2.kw _ (by omega)).trans b6;have b10':=(k2.kw _ (by omega)).trans b10;simp only[go_sem,simprocAttr,ci,Rx,b6,e2,Ry,b6',b10'];exact⟨rfl,rfl,.inr rfl,[.agg [_,_,_,_,_]],by simp only[go_sem,simprocAttr,r156],_,_,cC (by intro l e;cases e) (iG (ir (eC _) (eL _)) _),aA t,(J0.kw.trans k2).set _ (by omega)⟩
theorem c89 {K:aG}(hK:bW K)(m:Nat)(i:Int)(h:AH)(hi:i<=65535):
  ∃v h',cS K (m+1) (.fn 89 [] []) [wt i] .no h=some (.ret v,.no,h')/\v=enc (.mk 0 i (bs []) [] [])/\HK h h':=by
 refine cm hK cf89 (ae (ba _ _ _) (aB _)) ?_;have hb:decide (65535<i)=false:=by simp;omega
 unfold b89;simp only[wab,go_sem,simprocAttr,ZG,hb,ZH];refine⟨rfl,rfl,.inr rfl,[.agg [_,_,_,_,_]],by simp only[go_sem,simprocAttr,r89];rfl,_,_,cC (by intro l e;cases e) (iG (lB (ls:=[]) (ks:=[]) rfl rfl) _),rfl,(HK.new _ _).set _ (Fv _)⟩
mutual
def Ok (P:LL->Prop)(n:Int):T->Int->Prop
 |.mk k i _ ls ks,d=>(k=0->ks=[]/\0<=i/\i<d)/\(k=12->0<=i/\i<n)/\(k=5->ks.length=2)/\(ls.length<=20/\∀l∈ls,P l)/\Oks P n k 0 ks d
def Oks (P:LL->Prop)(n k:Int):Nat->List T->Int->Prop
 |_,[],_=>True
 |j,t::l,d=>Ok P n t (d+aV k j)/\Oks P n k (j+1) l d
end
section
variable {P:LL->Prop}{n:Int}
theorem rV {k:Int}: ∀{ks:List T} {j a:Nat} {t:T} {d:Int},Oks P n k j ks d->ks[a]?=some t->Ok P n t (d+aV k ((j+a:Nat):Int))
 |t::l,j,0,_,d,h,e=>by cases e;exact h.1
 |t::l,j,a+1,_,d,h,e=>by
  have:=rV (j:=j+1) (a:=a) h.2 (by simpa using e);rw[show j+(a+1)=j+1+a by omega];exact this
mutual
theorem rL:∀(t:T) (d d':Int),d<=d'->Ok P n t d->Ok P n t d'
 |.mk k i nm ls ks,d,d',h,x=>by
  unfold Ok at x ⊢;obtain⟨x1,x2,x3,x4,x5⟩:=x;exact⟨fun q=>⟨(x1 q).1,(x1 q).2.1,by have:=(x1 q).2.2;omega⟩,x2,x3,x4,Cq k 0 ks d d' h x5⟩
theorem Cq (k:Int):∀(j:Nat) (ks:List T) (d d':Int),d<=d'->Oks P n k j ks d->Oks P n k j ks d'
 |_,[],_,_,_,_=>by unfold Oks;trivial
 |j,t::l,d,d',h,x=>by
  unfold Oks at x ⊢;exact⟨rL t _ _ (by omega) x.1,Cq k (j+1) l d d' h x.2⟩
end
theorem fO (k j:Int):0<=aV k j/\aV k j<=1:=by
 unfold aV;split<;>omega
mutual
theorem Fe {M:Int}: ∀(t:T) (d:Int),Ok P n t d->d+io t<=M+1->Vb M t
 |.mk k i nm ls ks,d,x,h=>by
  unfold Ok at x;obtain⟨x1,x2,x3,x4,x5⟩:=x;simp only[io]at h;unfold Vb;exact⟨fun q=>⟨(x1 q).1,(x1 q).2.1,by have:=(x1 q).2.2;omega⟩,Tu k 0 ks d x5 (by omega)⟩
theorem Tu {M:Int}(k:Int):∀(j:Nat) (ks:List T) (d:Int),Oks P n k j ks d->d+1+depths ks<=M+1->Vbs M ks
 |_,[],_,_,_=>by unfold Vbs;trivial
 |j,t::l,d,x,h=>by
  unfold Oks at x;simp only[depths]at h;have:=fO k j;unfold Vbs;exact⟨Fe t _ x.1 (by omega),Tu k (j+1) l d x.2 (by omega)⟩
end
mutual
theorem Cr (b:Int)(hb:0<=b):∀(t:T) (d c:Int),Ok P n t d->Ok P n (eh b t c) (d+b)
 |.mk k i nm ls ks,d,c,x=>by
  have x0:=x;unfold Ok at x;obtain⟨x1,x2,x3,x4,x5⟩:=x;unfold eh;by_cases hk:k=0
  ·rw[wae hk];obtain⟨y1,y2,y3⟩:=x1 hk;split
   ·exact rL _ _ _ (by omega) x0
   ·unfold Ok;refine⟨fun _=>⟨rfl,by omega,by omega⟩,fun q=>by omega,fun q=>by omega,⟨by simp,by simp⟩,?_⟩;unfold Oks;trivial
  ·rw[wad hk];unfold Ok;exact⟨fun q=>absurd q hk,x2,fun q=>by rw[nE];exact x3 q,x4,xH b hb k 0 ks d c x5⟩
theorem xH (b:Int)(hb:0<=b)(k:Int):∀(j:Nat) (ks:List T) (d c:Int),Oks P n k j ks d->Oks P n k j (eJ b k j ks c) (d+b)
 |_,[],_,_,_=>by unfold eJ Oks;trivial
 |j,t::l,d,c,x=>by
  unfold Oks at x;unfold eJ Oks;refine⟨?_,xH b hb k (j+1) l d c x.2⟩;rw[show d+b+aV k j=d+aV k j+b by omega];exact Cr b hb t _ _ x.1
end
section
variable (vs:List T){n0:Int}(h0:0<=n0)(hv:∀x∈vs,Ok P n x n0)
set_option linter.unusedSectionVars false
include h0 hv
mutual
theorem qQ:∀(t:T) (d:Int),0<=d->Ok P n t (d+vs.length+n0)->Ok P n (gA vs t d) (d+n0)
 |.mk k i nm ls ks,d,hd,x=>by
  have x0:=x;unfold Ok at x;obtain⟨x1,x2,x3,x4,x5⟩:=x;unfold gA;by_cases hk:k=0
  ·rw[wae hk];obtain⟨y1,y2,y3⟩:=x1 hk;by_cases hle:d<=i
   ·rw[wae hle];cases hg:vs[(i-d).toNat]? with
    |some x=>
     have:=Cr d hd x n0 0 (hv x (wS hg));simp only[Int.add_comm d n0];exact this
    |none=>
     have:=List.getElem?_eq_none_iff.1 hg;simp only;unfold Ok;refine⟨fun _=>⟨rfl,by omega,by omega⟩,fun q=>by omega,fun q=>by omega,⟨by simp,by simp⟩,?_⟩;unfold Oks;trivial
   ·rw[wad hle];unfold Ok;refine⟨fun _=>⟨y1,y2,by omega⟩,x2,x3,x4,?_⟩;rw[y1];unfold Oks;trivial
  ·rw[wad hk];unfold Ok;exact⟨fun q=>absurd q hk,x2,fun q=>by rw[nC];exact x3 q,x4,xG k 0 ks d hd x5⟩
theorem xG (k:Int):∀(j:Nat) (ks:List T) (d:Int),0<=d->Oks P n k j ks (d+vs.length+n0)->Oks P n k j (dr vs k j ks d) (d+n0)
 |_,[],_,_,_=>by unfold dr Oks;trivial
 |j,t::l,d,hd,x=>by
  unfold Oks at x;unfold dr Oks;have hb:=fO k j;refine⟨?_,xG k (j+1) l d hd x.2⟩;rw[show d+n0+aV k j=d+aV k j+n0 by omega];refine qQ t _ (by omega) ?_;rw[show d+aV k j+vs.length+n0=d+vs.length+n0+aV k j by omega];exact x.1
end
end
theorem sx:∀(az:List T) (f:T) (d:Int),Ok P n f d->(∀x∈az,Ok P n x d)->Ok P n (gB f az) d
 |[],f,d,h,_=>h
 |a::l,f,d,h,hl=>by
  unfold gB;refine sx l _ d ?_ (fun x hx=>hl x (by simp[hx]));unfold Ok;refine⟨fun q=>by omega,fun q=>by omega,fun q=>by omega,⟨by simp,by simp⟩,?_⟩;unfold Oks Oks Oks;have e0:aV 4 ((0:Nat):Int)=0:=rfl;have e1:aV 4 ((0+1:Nat):Int)=0:=rfl;rw[e0,e1,Int.add_zero];exact⟨h,hl a (by simp),trivial⟩
theorem sw:∀(m:Nat) (t:T) (d:Int),size t<=m->Ok P n t d->Ok P n (aD t).1 d/\∀x∈(aD t).2,Ok P n x d:=by
 intro m;induction m with
 |zero=>intro t d h;have:=cG t;omega
 |succ m ih=>
  intro t d h x;obtain⟨k,i,nm,ls,ks⟩:=t;by_cases hk:k=4
  ·by_cases hl:ks.length=2
   ·match ks,hl with
    |[f,a],_=>
     subst hk;rw[ko];have e:size (.mk 4 i nm ls [f,a])=1+(size f+(size a+0)):=by simp only[size,aW]
     rw[e]at h;unfold Ok at x;obtain⟨x1,x2,x3,x4,x5⟩:=x;unfold Oks Oks Oks at x5;have e0:aV 4 ((0:Nat):Int)=0:=rfl;have e1:aV 4 ((0+1:Nat):Int)=0:=rfl;rw[e0,e1,Int.add_zero]at x5;obtain⟨y1,y2⟩:=ih f d (by omega) x5.1;refine⟨y1,fun z hz=>?_⟩;rcases List.mem_append.1 hz with q|q
     ·exact y2 z q
     ·simp at q;subst q;exact x5.2.1
   ·rw[jo hl];exact⟨x,by simp⟩
  ·rw[jn hk];exact⟨x,by simp⟩
theorem zn {v:T}{d:Int}(h:Ok P n v d)(hk:v.kind=5):∃a b,v.K=[a,b]/\Ok P n a d/\Ok P n b (d+1):=by
 obtain⟨k,i,nm,ls,ks⟩:=v;unfold Ok at h;obtain⟨x1,x2,x3,x4,x5⟩:=h;have hl:=x3 hk
 match ks,hl with
 |[a,b],_=>
  unfold Oks Oks Oks at x5;simp only[T.kind]at hk;subst hk;have e0:aV 5 ((0:Nat):Int)=0:=rfl;have e1:aV 5 ((0+1:Nat):Int)=1:=rfl;rw[e0,e1,Int.add_zero]at x5;exact⟨a,b,rfl,x5.1,x5.2.1⟩
theorem Db:∀(l:List T) (v:T) (c:Option Int) (f:Int) (d:Int),0<=d->Ok P n v d->(∀x∈l,Ok P n x d)->(cY v l c).2.2=some f->Ok P n (cY v l c).1 d/\∀x∈(cY v l c).2.1,Ok P n x d
 |[],v,c,f,d,_,hv,hl,_=>⟨hv,hl⟩
 |x::l,v,c,f,d,hd,hv,hl,h=>by
  unfold cY at h ⊢;split
  ·rename_i q;rw[wae q]at h;obtain⟨f',hf'⟩:=waf.1 (ik h);obtain⟨e0,_,_⟩:=dn hf';obtain⟨a,b,ek,ha,hb⟩:=zn hv q.1;have eb:v.K.getD 1 tZ=b:=by rw[ek];rfl
   refine Db l _ _ f d hd ?_ (fun y hy=>hl y (by simp[hy])) h;rw[uL e0,eb];have:=qQ [x] hd (fun y hy=>by simp at hy;subst hy;exact hl _ (by simp)) b 0 (Int.le_refl 0) (by
    rw[show(0:Int)+(([x]:List T).length:Int)+d=d+1 by simp;omega];exact hb)
   rw[Int.zero_add]at this;exact this
  ·exact⟨hv,hl⟩
theorem lZ {F:T->Option Int->T×Int×Option Int}: ∀(l:List T) (c:Option Int),(cj F l c).2.1=0->(cj F l c).1.length=l.length
 |[],_,_=>rfl
 |t::l,c,h0=>by
  unfold cj at h0 ⊢;by_cases q:(F t c).2.1≠0
  ·rw[wae q]at h0;exact absurd h0 q
  ·rw[wad q]at h0 ⊢;by_cases q2:(cj F l (F t c).2.2).2.1≠0
   ·rw[wae q2]at h0;exact absurd h0 q2
   ·rw[wad q2];simp only[List.length_cons,lZ l _ (by simpa using q2)]
theorem nU {F:T->Option Int->T×Int×Option Int}(hN:∀t,(F t none).2.1≠0/\(F t none).2.2=none):
  ∀(l:List T) (c:Option Int) (f:Int),(cj F l c).2.1=0->(cj F l c).2.2=some f->∀(a:Nat) x,(cj F l c).1[a]?=some x->∃t c' f',l[a]?=some t/\(F t c').2.1=0/\(F t c').2.2=some f'/\x=(F t c').1
 |[],_,_,_,_,a,x,hx=>by simp[cj]at hx
 |t::l,c,f,h0,h1,a,x,hx=>by
  unfold cj at h0 h1 hx;by_cases q:(F t c).2.1≠0
  ·rw[wae q]at h0;exact absurd h0 q
  ·rw[wad q]at h0 h1 hx;by_cases q2:(cj F l (F t c).2.2).2.1≠0
   ·rw[wae q2]at h0;exact absurd h0 q2
   ·rw[wad q2]at h0 h1 hx;have q:(F t c).2.1=0:=by simpa using q
    have q2:(cj F l (F t c).2.2).2.1=0:=by simpa using q2
    obtain⟨f',hf'⟩:=waf.1 (eS hN l _ f h1);cases a with
    |zero=>
     simp at hx;exact⟨t,c,f',rfl,q,hf',hx.symm⟩
    |succ a=>
     obtain⟨t',c',f2,e1,e2,e3,e4⟩:=nU hN l _ f q2 h1 a x (by simpa using hx);exact⟨t',c',f2,by simpa using e1,e2,e3,e4⟩
theorem qt {ms:List MV}{h v:T}(e:cd ms h=some v):h.kind=12/\∃m,ms[h.i.toNat]?=some m/\m.known=true/\v=m.val:=by
 unfold cd at e;by_cases q:h.kind=12
 ·rw[wae q]at e;cases hm:ms[h.i.toNat]? with
  |none=>rw[hm]at e;cases e
  |some m=>
   rw[hm]at e;simp only at e;by_cases q2:m.known=true
   ·rw[wae q2]at e;cases e;exact⟨q,m,rfl,q2,rfl⟩
   ·rw[wad q2]at e;cases e
 ·rw[wad q]at e;cases e
theorem Xf {k i:Int}{nm:ByteArray}{ls:List LL}{ks ks':List T}{d:Int}(h:Ok P n (.mk k i nm ls ks) d)(hl:ks'.length=ks.length)(hk:∀(a:Nat) x,ks'[a]?=some x->Ok P n x (d+aV k a))(h0:ks=[]->ks'=[]):Ok P n (.mk k i nm ls ks') d:=by
 unfold Ok at h ⊢;obtain⟨x1,x2,x3,x4,x5⟩:=h;refine⟨fun q=>⟨h0 (x1 q).1,(x1 q).2⟩,x2,fun q=>by rw[hl];exact x3 q,x4,?_⟩;have key:∀(l:List T) (j:Nat),(∀(a:Nat) x,l[a]?=some x->Ok P n x (d+aV k ((j+a:Nat):Int)))->Oks P n k j l d:=by
  intro l;induction l with
  |nil=>intro j _;unfold Oks;trivial
  |cons y l ih=>
   intro j hj;unfold Oks;refine⟨by simpa using hj 0 y rfl,ih (j+1) (fun a x e=>?_)⟩;have:=hj (a+1) x (by simpa using e);rw[show j+1+a=j+(a+1) by omega];exact this
 exact key ks' 0 (fun a x e=>by simpa using hk a x e)
end
