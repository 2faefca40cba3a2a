/- AbsGo: regions that draw their order: the sets (plain; no condition). -/
import Derived.Test.YtnacljdablhbgaaGreatAh
noncomputable section
namespace Go.AG
theorem uZ (m i:Nat):bit m i=m.testBit i:=by
 unfold bit Nat.testBit;show Nat.beq ((m >>> i) &&& 1) 1=(1 &&& (m >>> i) != 0);rw[Nat.and_comm,Nat.one_and_eq_mod_two];rcases Nat.mod_two_eq_zero_or_one (m >>> i) with h|h<;>rw[h]<;>rfl
theorem iB (m i j:Nat):(gR m i).testBit j=(m.testBit j||decide (i=j)):=by
 unfold gR;show(m ||| (1 <<< i)).testBit j=_;rw[Nat.testBit_or,Nat.one_shiftLeft,Nat.testBit_two_pow]
theorem sf {a b t:Nat}(h:UE (Nat.land a b)=true)(h1:a.testBit t=true)(h2:b.testBit t=true):False:=by
 have e:a &&& b=0:=beq_eq h;have:(a &&& b).testBit t=true:=by rw[Nat.testBit_and,h1,h2];rfl
 rw[e]at this;simp at this
def rJ (acc:List Nat)(l:List Nat):Nat->Nat:=List.rec (fun m=>m) (fun j _ ih m=>ih (Nat.lor (gR m j) ((acc[j]?).getD 0))) l
theorem yN (acc:List Nat)(j:Nat)(l:List Nat)(m:Nat):rJ acc (j::l) m=rJ acc l (Nat.lor (gR m j) ((acc[j]?).getD 0)):=rfl
theorem qj (acc:List Nat):∀(l:List Nat) (m t:Nat),(rJ acc l m).testBit t=true↔(m.testBit t=true∨∃j,j∈l/\(j=t∨((acc[j]?).getD 0).testBit t=true))
 |[],m,t=>by simp[rJ]
 |j::l,m,t=>by
  rw[yN,qj acc l];show(((gR m j) ||| ((acc[j]?).getD 0)).testBit t=true∨_)↔_;rw[Nat.testBit_or,iB];simp only[Bool.or_eq_true,decide_eq_true_eq,List.mem_cons];constructor
  ·rintro(((h|h)|h)|⟨j',h1,h2⟩)
   ·exact .inl h
   ·exact .inr ⟨j,.inl rfl,.inl h⟩
   ·exact .inr ⟨j,.inl rfl,.inr h⟩
   ·exact .inr ⟨j',.inr h1,h2⟩
  ·rintro(h|⟨j',h1|h1,h2⟩)
   ·exact .inl (.inl (.inl h))
   ·subst h1;rcases h2 with h2|h2
    ·exact .inl (.inl (.inr h2))
    ·exact .inl (.inr h2)
   ·exact .inr ⟨j',h1,h2⟩
theorem DC (acc:List Nat)(l:List Nat)(t:Nat):(Fa acc l).testBit t=true↔∃j,j∈l/\(j=t∨((acc[j]?).getD 0).testBit t=true):=by
 show(rJ acc l 0).testBit t=true↔_;rw[qj];simp
theorem mI {i:Nat}: ∀{l:List Nat},ml i l=true->∀j∈l,j<i
 |[],_,j,h=>by simp at h
 |a::l,h,j,hj=>by
  obtain⟨h1,h2⟩:=dd (show and (Nat.blt a i) (ml i l)=true from h);cases hj with
  |head=>exact jL h1
  |tail _ hj=>exact mI h2 j hj
theorem wq (o:Oper)(l:List Oper)(i:Nat)(acc:List Nat):kW (o::l) i acc=bif ml i (eA o) then kW l (i+1) (acc++[Fa acc (eA o)]) else none:=rfl
structure acH (ops:List Oper)(ps:List Nat):Prop where
 len:ps.length=ops.length
 back:∀(i:Nat) (o:Oper),ops[i]?=some o->∀j∈eA o,j<i
 bits:∀(i:Nat) (o:Oper) (p:Nat),ops[i]?=some o->ps[i]?=some p->∀t,p.testBit t=true↔∃j,j∈eA o/\(j=t∨((ps[j]?).getD 0).testBit t=true)
theorem td:∀(l:List Oper) (i:Nat) (acc ps:List Nat),acc.length=i->kW l i acc=some ps->
  ps.length=i+l.length/\(∀j,j<i->ps[j]?=acc[j]?)/\
  ∀(k:Nat) (o:Oper),l[k]?=some o->(∀j∈eA o,j<i+k)/\∀p,ps[i+k]?=some p->∀t,p.testBit t=true↔∃j,j∈eA o/\(j=t∨((ps[j]?).getD 0).testBit t=true)
 |[],i,acc,ps,hl,e=>by
  cases e;exact⟨by simpa using hl,fun _ _=>rfl,fun k o h=>by simp at h⟩
 |o::l,i,acc,ps,hl,e=>by
  rw[wq]at e;obtain⟨hb,e⟩:=aH e;obtain⟨h1,h2,h3⟩:=td l (i+1) (acc++[Fa acc (eA o)]) ps (by simp[hl]) e;have hk:∀j,j<i->ps[j]?=acc[j]?:=fun j hj=>by rw[h2 j (by omega),List.getElem?_append_left (by omega)]
  refine⟨by rw[h1];simp;omega,hk,fun k o' ho=>?_⟩;cases k with
  |zero=>
   simp at ho;subst ho;refine⟨fun j hj=>mI hb j hj,fun p hp t=>?_⟩;have:ps[i]?=some (Fa acc (eA o)):=by rw[h2 i (by omega),List.getElem?_append_right (by omega)];simp[hl]
   rw[Nat.add_zero,this]at hp;cases hp;rw[DC];constructor
   ·rintro⟨j,hj,hh⟩;exact⟨j,hj,by rw[hk j (mI hb j hj)];exact hh⟩
   ·rintro⟨j,hj,hh⟩;exact⟨j,hj,by rw[hk j (mI hb j hj)]at hh;exact hh⟩
  |succ k=>
   obtain⟨a1,a2⟩:=h3 k o' (by simpa using ho);exact⟨fun j hj=>by have:=a1 j hj;omega,fun p hp=>a2 p (by rw[show i+1+k=i+(k+1) by omega];exact hp)⟩
theorem WJ {ops:List Oper}{ps:List Nat}(e:kW ops 0 []=some ps):acH ops ps:=by
 obtain⟨h1,_,h3⟩:=td ops 0 [] ps rfl e;exact⟨by simpa using h1,fun i o ho j hj=>by simpa using (h3 i o ho).1 j hj,fun i o p ho hp=>(h3 i o ho).2 p (by simpa using hp)⟩
theorem acH.closed {ops:List Oper}{ps:List Nat}(P:acH ops ps){S:Nat->Bool}(hS:∀(i:Nat) (o:Oper),ops[i]?=some o->S i=true->∀j∈eA o,S j=true):
  ∀(i:Nat) (o:Oper) (p:Nat),ops[i]?=some o->ps[i]?=some p->(∀j∈eA o,S j=true)->∀t,p.testBit t=true->S t=true:=by
 intro i;induction i using Nat.strongRecOn with
 |_ i ih=>
  intro o p ho hp hd t ht;obtain⟨j,hj,hh⟩:=(P.bits i o p ho hp t).1 ht;have hlt:=P.back i o ho j hj;rcases hh with rfl|hh
  ·exact hd _ hj
  ·have hi:i<ops.length:=(wah.1 ho).1;have hjo:ops[j]?=some ops[j]:=wO (by omega);have hjl:j<ps.length:=by rw[P.len];omega
   have hjp:ps[j]?=some ps[j]:=wO hjl;rw[hjp]at hh;exact ih j hlt _ _ hjo hjp (hS j _ hjo (hd j hj)) t hh
theorem Jy (o:aX)(l:List aX)(p:Nat)(ps:List Nat):tV (o::l) (p::ps)=⟨p,lG o.dst,nF o,yz o.op.cls⟩::tV l ps:=rfl
theorem BX:∀(l:List aX) (ps:List Nat),ps.length=l.length->(tV l ps).length=l.length/\∀(i:Nat) (o:aX) (p:Nat),l[i]?=some o->ps[i]?=some p->(tV l ps)[i]?=some ⟨p,lG o.dst,nF o,yz o.op.cls⟩
 |[],ps,_=>⟨rfl,fun i o p h=>by simp at h⟩
 |o::l,[],h=>by simp at h
 |o::l,p::ps,h=>by
  obtain⟨h1,h2⟩:=BX l ps (by simpa using h);rw[Jy];refine⟨by simp[h1],fun i o' p' ho hp=>?_⟩;cases i with
  |zero=>simp at ho hp;subst ho hp;rfl
  |succ i=>simpa using h2 i o' p' (by simpa using ho) (by simpa using hp)
theorem Bf (y x:OS)(l:List OS)(i:Nat):wG y (x::l) i=((bit y.pre i||wT x y)&&wG y l (i+1)):=rfl
theorem uk (y:OS):∀(l:List OS) (i:Nat),wG y l i=true->∀(k:Nat) (x:OS),l[k]?=some x->(bit y.pre (i+k)||wT x y)=true
 |[],i,_,k,x,h=>by simp at h
 |z::l,i,h,k,x,hx=>by
  rw[Bf]at h;simp only[Bool.and_eq_true]at h;cases k with
  |zero=>simp at hx;subst hx;exact h.1
  |succ k=>have:=uk y l (i+1) h.2 k x (by simpa using hx);rw[show i+(k+1)=i+1+k by omega];exact this
theorem yO (y:OS)(l acc:List OS):rK (y::l) acc=(wG y acc 0&&rK l (acc++[y])):=rfl
theorem te:∀(l acc:List OS),rK l acc=true->∀(i j:Nat) (x y:OS),i<j->acc.length<=j->(acc++l)[i]?=some x->(acc++l)[j]?=some y->(bit y.pre i||wT x y)=true
 |[],acc,_,i,j,x,y,hij,hj,hx,hy=>by
  rw[wab,List.getElem?_eq_none (by omega)]at hy;cases hy
 |z::l,acc,h,i,j,x,y,hij,hj,hx,hy=>by
  rw[yO]at h;simp only[Bool.and_eq_true]at h;by_cases hj':j=acc.length
  ·subst hj';rw[List.getElem?_append_right (Fv _)]at hy;simp at hy;subst hy;rw[List.getElem?_append_left hij]at hx;have:=uk z acc 0 h.1 i x hx;simpa using this
  ·have e:acc++z::l=(acc++[z])++l:=by simp
   rw[e]at hx hy;exact te l (acc++[z]) h.2 i j x y hij (by simp;omega) hx hy
theorem fJ (f:Nat->OS->Bool)(x:OS)(l:List OS)(i:Nat):gS f (x::l) i=bif f i x then gS f l (i+1)+1 else gS f l (i+1):=rfl
theorem iX {f f':Nat->OS->Bool}: ∀(l:List OS) (i:Nat),(∀k x,l[k]?=some x->f (i+k) x=true->f' (i+k) x=true)->gS f l i<=gS f' l i
 |[],i,_=>Fv _
 |x::l,i,h=>by
  rw[fJ,fJ];have ih:=iX (f:=f) (f':=f') l (i+1) fun k y hy=>by
   have:=h (k+1) y (by simpa using hy);rw[show i+(k+1)=i+1+k by omega]at this;exact this
  have h0:=h 0 x rfl;rw[Nat.add_zero]at h0;cases e:f i x with
  |false=>cases f' i x<;>simp<;>omega
  |true=>rw[h0 e];simpa using ih
theorem oE {f f':Nat->OS->Bool}(l:List OS)(i:Nat)(h:∀k x,l[k]?=some x->f (i+k) x=f' (i+k) x):gS f l i=gS f' l i:=
 Nat.le_antisymm (iX l i fun k x hx=>by rw[h k x hx];exact id) (iX l i fun k x hx=>by rw[h k x hx];exact id)
theorem tk {f f':Nat->OS->Bool}: ∀(l:List OS) (i j:Nat) (y:OS),l[j]?=some y->f (i+j) y=false->f' (i+j) y=true->(∀k x,k≠j->l[k]?=some x->f (i+k) x=f' (i+k) x)->gS f' l i=gS f l i+1
 |[],i,j,y,hy,_,_,_=>by simp at hy
 |x::l,i,0,y,hy,h1,h2,h=>by
  simp at hy;subst hy;rw[Nat.add_zero]at h1 h2;rw[fJ,fJ,h1,h2];have:=oE (f:=f) (f':=f') l (i+1) fun k x hx=>by
   have:=h (k+1) x (by omega) (by simpa using hx);rw[show i+(k+1)=i+1+k by omega]at this;exact this
  rw[this];rfl
 |x::l,i,j+1,y,hy,h1,h2,h=>by
  have ih:=tk (f:=f) (f':=f') l (i+1) j y (by simpa using hy) (by rw[show i+1+j=i+(j+1) by omega];exact h1) (by rw[show i+1+j=i+(j+1) by omega];exact h2) fun k x hk hx=>by
   have:=h (k+1) x (by omega) (by simpa using hx);rw[show i+(k+1)=i+1+k by omega]at this;exact this
  have h0:=h 0 x (by omega) rfl;rw[Nat.add_zero]at h0;rw[fJ,fJ,ih,h0];cases f' i x<;>rfl
theorem yk {f:Nat->OS->Bool}: ∀(l:List OS) (i:Nat),VY f l i=true->∀k x,l[k]?=some x->f (i+k) x=true
 |[],i,_,k,x,h=>by simp at h
 |y::l,i,h,k,x,hx=>by
  obtain⟨h1,h2⟩:=dd (show and (f i y) (VY f l (i+1))=true from h);cases k with
  |zero=>simp at hx;subst hx;exact h1
  |succ k=>have:=yk l (i+1) h2 k x (by simpa using hx);rw[show i+(k+1)=i+1+k by omega];exact this
theorem AM (all:List OS)(o:aX)(l:List aX)(i:Nat)(s:OS)(ss:List OS):qC all (o::l) i (s::ss)=(o,Fy all i s)::qC all l (i+1) ss:=rfl
theorem oY (all:List OS):∀(l:List aX) (i:Nat) (ss:List OS),ss.length=l.length->(qC all l i ss).length=l.length/\∀(k:Nat) (o:aX) (s:OS),l[k]?=some o->ss[k]?=some s->(qC all l i ss)[k]?=some (o,Fy all (i+k) s)
 |[],i,ss,_=>⟨rfl,fun k o s h=>by simp at h⟩
 |o::l,i,[],h=>by simp at h
 |o::l,i,s::ss,h=>by
  obtain⟨h1,h2⟩:=oY all l (i+1) ss (by simpa using h);rw[AM];refine⟨by simp[h1],fun k o' s' ho hs=>?_⟩;cases k with
  |zero=>simp at ho hs;subst ho hs;rfl
  |succ k=>have:=h2 k o' s' (by simpa using ho) (by simpa using hs);rw[show i+(k+1)=i+1+k by omega];simpa using this
theorem tn:∀(l:List aX),uY l=true->∀(i:Nat) (o:aX),l[i]?=some o->o.op.cls=.born->o.guard=none
 |[],_,i,o,h,_=>by simp at h
 |a::l,h,i,o,ho,hc=>by
  obtain⟨h1,h2⟩:=dd (show and (!(abK a.op.cls)||(Option.casesOn a.guard true fun _=>false)) (uY l)=true from h);cases i with
  |zero=>
   simp at ho;subst ho;rw[hc]at h1;cases hg:a.guard with
   |none=>rfl
   |some x=>rw[hg]at h1;cases h1
  |succ i=>exact tn l h2 i o (by simpa using ho) hc
def wc (o:aX)(tm tm':Tm):Prop:=∀t,(nF o).testBit t=true->nth tm t=nth tm' t
theorem qv (x:AX)(l:List AX)(m:Nat):rU (x::l) m=rU l (Hp x m):=rfl
theorem LH (x:AX)(m t:Nat)(h:m.testBit t=true):(Hp x m).testBit t=true:=by
 cases x with
 |t n=>show(gR m n).testBit t=true;rw[iB,h];rfl
 |c v=>exact h
theorem pC:∀(l:List AX) (m t:Nat),m.testBit t=true->(rU l m).testBit t=true
 |[],m,t,h=>h
 |x::l,m,t,h=>by rw[qv];exact pC l _ t (LH x m t h)
theorem tq:∀(l:List AX) (m n:Nat),AX.t n∈l->(rU l m).testBit n=true
 |[],m,n,h=>by simp at h
 |x::l,m,n,h=>by
  rw[qv];cases h with
  |head=>exact pC l _ n (by show(gR m n).testBit n=true;rw[iB];simp)
  |tail _ h=>exact tq l _ n h
section
variable {o:aX}{tm tm':Tm}{h:AH}
theorem wc.ev (a:wc o tm tm'){x:AX}(hx:x∈o.op.args):ev x tm=ev x tm':=by
 cases x with
 |t n=>exact a n (tq _ _ n hx)
 |c v=>rfl
theorem lS {l:List AX}(hl:∀x∈l,ev x tm=ev x tm'):evs l tm=evs l tm':=by
 induction l with
 |nil=>rfl
 |cons x l ih=>rw[mf,mf,hl x (by simp),ih fun y hy=>hl y (by simp[hy])]
theorem wc.wants (a:wc o tm tm'):wants o.guard tm=wants o.guard tm':=by
 cases hg:o.guard with
 |none=>rfl
 |some p=>
  show wantV (nth tm p.1) p.2=wantV (nth tm' p.1) p.2;rw[a p.1 (by
   unfold nF;refine pC _ _ _ ?_;rw[hg];show(gR 0 p.1).testBit p.1=true;rw[iB];simp)]
theorem mr {x:Option AX}(hx:∀y,x=some y->ev y tm=ev y tm')(d b:Nat):wW x tm d b=wW x tm' d b:=by
 cases x with
 |none=>rfl
 |some y=>show lX (ev y tm) b=lX (ev y tm') b;rw[hx y rfl]
theorem Ek (a:wc o tm tm'):evOp o.op tm h=evOp o.op tm' h:=by
 have ha:∀x∈o.op.args,ev x tm=ev x tm':=fun x hx=>a.ev hx
 clear a;generalize o.op=op at ha;cases op with
 |mv x=>show OpR.val (ev x tm) h=.val (ev x tm') h;rw[ha x (by simp[AOp.args])]
 |pick c x y=>
  show nv (ev c tm) h (ev x tm) (ev y tm)=nv (ev c tm') h (ev x tm') (ev y tm');rw[ha c (by simp[AOp.args]),ha x (by simp[AOp.args]),ha y (by simp[AOp.args])]
 |new z=>rfl
 |box n x=>show gU h n (ev x tm)=gU h n (ev x tm');rw[ha x (by simp[AOp.args])]
 |build z ps=>
  show cP h z (eW ps tm)=cP h z (eW ps tm');have:eW ps tm=eW ps tm':=by
   have hp:∀p∈ps,ev p.2.2 tm=ev p.2.2 tm':=fun p hp=>ha _ (by simp only[AOp.args];exact List.mem_map.2 ⟨p,hp,rfl⟩)
   clear ha;induction ps with
   |nil=>rfl
   |cons p ps ih=>
    show(p.1,p.2.1,ev p.2.2 tm)::eW ps tm=(p.1,p.2.1,ev p.2.2 tm')::eW ps tm';rw[hp p (by simp),ih fun q hq=>hp q (by simp[hq])]
  rw[this]
 |lit f ag s z n ps=>
  show iS f ag s z n (cr ps tm s) h=iS f ag s z n (cr ps tm' s) h;have:cr ps tm s=cr ps tm' s:=by
   have hp:∀p∈ps,ev p.2 tm=ev p.2 tm':=fun p hp=>ha _ (by simp only[AOp.args];exact List.mem_map.2 ⟨p,hp,rfl⟩)
   clear ha;induction ps with
   |nil=>rfl
   |cons p ps ih=>
    show(Nat.mul p.1 s,s,ev p.2 tm)::cr ps tm s=(Nat.mul p.1 s,s,ev p.2 tm')::cr ps tm' s;rw[hp p (by simp),ih fun q hq=>hp q (by simp[hq])]
  rw[this]
 |load ag s x=>show okV (dH (ev x tm) h ag s) h=okV (dH (ev x tm') h ag s) h;rw[ha x (by simp[AOp.args])]
 |store s x y=>show okH (cR (ev x tm) h s (ev y tm))=okH (cR (ev x tm') h s (ev y tm'));rw[ha x (by simp[AOp.args]),ha y (by simp[AOp.args])]
 |nilChk x=>show iN (ev x tm) h=iN (ev x tm') h;rw[ha x (by simp[AOp.args])]
 |bin op e x y=>show okV (mR (ev x tm) op e (ev y tm)) h=okV (mR (ev x tm') op e (ev y tm')) h;rw[ha x (by simp[AOp.args]),ha y (by simp[AOp.args])]
 |un op x=>show okV (Fx op (ev x tm)) h=okV (Fx op (ev x tm')) h;rw[ha x (by simp[AOp.args])]
 |convInt k x=>show okV (Ax k (ev x tm)) h=okV (Ax k (ev x tm')) h;rw[ha x (by simp[AOp.args])]
 |convId x=>show okV (rf (ev x tm)) h=okV (rf (ev x tm')) h;rw[ha x (by simp[AOp.args])]
 |mkIface t x=>show OpR.val (.ifc t (ev x tm)) h=.val (.ifc t (ev x tm')) h;rw[ha x (by simp[AOp.args])]
 |mkFn f x y=>
  show OpR.val (.fn f (evs x tm) (evs y tm)) h=.val (.fn f (evs x tm') (evs y tm')) h;rw[lS fun z hz=>ha z (by simp[AOp.args,hz]),lS (l:=y) fun z hz=>ha z (by simp[AOp.args,hz])]
 |mkMap=>rfl
 |mkSlice ag s bt z l c=>show pJ (fq h ag s bt z (ev l tm) (ev c tm))=pJ (fq h ag s bt z (ev l tm') (ev c tm'));rw[ha l (by simp[AOp.args]),ha c (by simp[AOp.args])]
 |slice str s x lo hi mx=>
  have h0:ev x tm=ev x tm':=ha x (by simp[AOp.args]);have h1:∀y,lo=some y->ev y tm=ev y tm':=fun y hy=>ha y (by simp[AOp.args,hy])
  have h2:∀y,hi=some y->ev y tm=ev y tm':=fun y hy=>ha y (by simp[AOp.args,hy])
  have h3:∀y,mx=some y->ev y tm=ev y tm':=fun y hy=>ha y (by simp[AOp.args,hy])
  cases str with
  |true=>
   show okV (ic (ev x tm) tm lo hi) h=okV (ic (ev x tm') tm' lo hi) h;unfold ic;rw[h0];simp only[mr h1,mr h2]
  |false=>
   show pJ (ix h s (ev x tm) tm lo hi mx)=pJ (ix h s (ev x tm') tm' lo hi mx);unfold ix;rw[h0];simp only[mr h1,mr h2];cases mx with
   |none=>rfl
   |some m=>simp only[h3 m rfl]
 |faddr p s ag x=>show eM (ev x tm) h p s ag=eM (ev x tm') h p s ag;rw[ha x (by simp[AOp.args])]
 |field p s ag x=>show okV (uW (ev x tm) p s ag) h=okV (uW (ev x tm') p s ag) h;rw[ha x (by simp[AOp.args])]
 |iaddr s x i=>show cz (ev x tm) h s (ev i tm)=cz (ev x tm') h s (ev i tm');rw[ha x (by simp[AOp.args]),ha i (by simp[AOp.args])]
 |iaddrA n s ag x i=>
  show(Option.casesOn (asIdx (ev i tm) n) OpR.bad (fun n=>gi (ev x tm) h n s ag):OpR)=(Option.casesOn (asIdx (ev i tm') n) OpR.bad (fun n=>gi (ev x tm') h n s ag):OpR);rw[ha x (by simp[AOp.args]),ha i (by simp[AOp.args])]
 |strIdx x i=>show okV (mg (ev x tm) (ev i tm)) h=okV (mg (ev x tm') (ev i tm')) h;rw[ha x (by simp[AOp.args]),ha i (by simp[AOp.args])]
 |arrIdx n s ag x i=>show okV (rh n s ag (ev x tm) (ev i tm)) h=okV (rh n s ag (ev x tm') (ev i tm')) h;rw[ha x (by simp[AOp.args]),ha i (by simp[AOp.args])]
 |lookup t z x i ok=>show okV (gZ h t z ok (ev x tm) (ev i tm)) h=okV (gZ h t z ok (ev x tm') (ev i tm')) h;rw[ha x (by simp[AOp.args]),ha i (by simp[AOp.args])]
 |mapUp t m k v=>show okH (kN h t (ev m tm) (ev k tm) (ev v tm))=okH (kN h t (ev m tm') (ev k tm') (ev v tm'));rw[ha m (by simp[AOp.args]),ha k (by simp[AOp.args]),ha v (by simp[AOp.args])]
 |assert t z x ok=>show okV (kX (ev x tm) t z ok) h=okV (kX (ev x tm') t z ok) h;rw[ha x (by simp[AOp.args])]
 |extract x i=>show okV (aq (ME (ev x tm)) fun l=>pK i l) h=okV (aq (ME (ev x tm')) fun l=>pK i l) h;rw[ha x (by simp[AOp.args])]
 |builtin b args=>show sK b h (evs args tm)=sK b h (evs args tm');rw[lS fun z hz=>ha z (by simp[AOp.args,hz])]
 |call f args=>show OpR.call (ev f tm) (evs args tm)=.call (ev f tm') (evs args tm');rw[ha f (by simp[AOp.args]),lS fun z hz=>ha z (by simp[AOp.args,hz])]
 |defer f args=>show OpR.dfr (ev f tm) (evs args tm)=.dfr (ev f tm') (evs args tm');rw[ha f (by simp[AOp.args]),lS fun z hz=>ha z (by simp[AOp.args,hz])]
 |panic x=>show jC (ev x tm)=jC (ev x tm');rw[ha x (by simp[AOp.args])]
def acA (e:AEx)(d:Option Nat)(tm:Tm)(v:AV):Tm:=match e with
 |.normal=>fC d tm v
 |_=>tm
theorem mi {call:aG}{cx:AC}{e:AEx}{fr':AF}{h':AH}(q:fA o call ⟨tm,cx⟩ h=some (e,fr',h')):
  ∃v,fr'.tm=acA e o.dst tm v/\∀tm',wc o tm tm'->fA o call ⟨tm',cx⟩ h=some (e,⟨acA e o.dst tm' v,fr'.cx⟩,h'):=by
 obtain⟨x,hw,q⟩:=ah (show aq (wants o.guard tm) _=_ from q);cases x with
 |false=>
  cases q;refine⟨.tup [],rfl,fun tm' a=>?_⟩;show aq (wants o.guard tm') _=_;rw[<-a.wants,hw];rfl
 |true=>
  have q:kF (evOp o.op tm h) call o.dst ⟨tm,cx⟩ h=some (e,fr',h'):=q;have key:∃v,fr'.tm=acA e o.dst tm v/\∀tm',kF (evOp o.op tm h) call o.dst ⟨tm',cx⟩ h=some (e,⟨acA e o.dst tm' v,fr'.cx⟩,h'):=by
   cases hr:evOp o.op tm h with
   |bad=>rw[hr]at q;cases q
   |val v h1=>rw[hr]at q;cases q;exact⟨v,rfl,fun tm'=>rfl⟩
   |pan v=>rw[hr]at q;cases q;exact⟨v,rfl,fun tm'=>rfl⟩
   |call f as=>
    rw[hr]at q;obtain⟨⟨out,rc,h2⟩,q1,q⟩:=ah (show aq (call f as .no h) _=_ from q);cases out with
    |ret v=>cases q;refine⟨v,rfl,fun tm'=>?_⟩;show aq (call f as .no h) _=_;rw[q1];rfl
    |pan v=>cases q;refine⟨v,rfl,fun tm'=>?_⟩;show aq (call f as .no h) _=_;rw[q1];rfl
   |rcv=>
    rw[hr]at q;obtain⟨dfs,rc,rnd,fid⟩:=cx;cases rnd with
    |some l=>cases q
    |none=>cases rc with
     |no=>cases q
     |pend v=>cases q;exact⟨v,rfl,fun tm'=>rfl⟩
     |ret=>cases q;exact⟨.nili,rfl,fun tm'=>rfl⟩
     |done=>cases q;exact⟨.nili,rfl,fun tm'=>rfl⟩
   |dfr f as=>
    rw[hr]at q;obtain⟨dfs,rc,rnd,fid⟩:=cx;cases rnd with
    |some l=>cases q
    |none=>
     obtain⟨hf,q⟩:=aH (show cond (acy f) _ none=_ from q);cases q;refine⟨.tup [],rfl,fun tm'=>?_⟩;show cond (acy f) _ none=_;rw[hf];rfl
  obtain⟨v,h1,h2⟩:=key;refine⟨v,h1,fun tm' a=>?_⟩;show aq (wants o.guard tm') _=_;rw[<-a.wants,hw];show kF (evOp o.op tm' h) call o.dst ⟨tm',cx⟩ h=_;rw[<-Ek a];exact h2 tm'
end
section
variable {op:AOp}{tm:Tm}{h h1 h2:AH}{v:AV}
theorem iJ {r:Option AV}(e:okV r h=.val v h1)(h2:AH):h1=h/\okV r h2=.val v h2:=by
 obtain⟨rfl,rfl⟩:=dJ e;exact⟨rfl,rfl⟩
theorem MW (hc:op.cls=.still)(e:evOp op tm h=.val v h1)(h2:AH):h1=h/\evOp op tm h2=.val v h2:=by
 cases op with
 |mv x=>cases e;exact⟨rfl,rfl⟩
 |pick c x y=>
  have e:nv (ev c tm) h (ev x tm) (ev y tm)=_:=e;show h1=h/\nv (ev c tm) h2 (ev x tm) (ev y tm)=_;cases hx:ev c tm<;>rw[hx]at e<;>first|(cases e;done)|(cases e;exact⟨rfl,rfl⟩)
 |new z=>cases hc
 |box n x=>cases hc
 |build z ps=>
  have e:cP h z (eW ps tm)=_:=e;show h1=h/\cP h2 z (eW ps tm)=_;unfold cP at e ⊢;cases hx:fillA (eW ps tm) z with
  |none=>rw[hx]at e;cases e
  |some cs=>rw[hx]at e;cases e;exact⟨rfl,rfl⟩
 |lit f ag s z n ps=>
  cases f with
  |false=>cases hc
  |true=>
   have e:iS true ag s z n (cr ps tm s) h=_:=e;show h1=h/\iS true ag s z n (cr ps tm s) h2=_;unfold iS at e ⊢;cases hx:fillA (cr ps tm s) (pI n z) with
   |none=>rw[hx]at e;cases e
   |some cs=>
    rw[hx]at e;have e:(Option.casesOn (chunk ag s n cs) OpR.bad fun es=>.val (.clip es) h:OpR)=.val v h1:=e;show h1=h/\(Option.casesOn (chunk ag s n cs) OpR.bad fun es=>.val (.clip es) h2:OpR)=.val v h2;cases hk:chunk ag s n cs with
    |none=>rw[hk]at e;cases e
    |some es=>rw[hk]at e;cases e;exact⟨rfl,rfl⟩
 |load ag s x=>cases hc
 |store s x y=>cases hc
 |nilChk x=>
  have e:iN (ev x tm) h=_:=e;show h1=h/\iN (ev x tm) h2=_;cases hx:ev x tm<;>rw[hx]at e<;>first|(cases e;done)|(cases e;exact⟨rfl,rfl⟩)
 |bin o' e' x y=>exact iJ e h2
 |un o' x=>exact iJ e h2
 |convInt k x=>exact iJ e h2
 |convId x=>exact iJ e h2
 |mkIface t x=>cases e;exact⟨rfl,rfl⟩
 |mkFn f x y=>cases e;exact⟨rfl,rfl⟩
 |mkMap=>cases hc
 |mkSlice ag s bt z l c=>cases hc
 |slice str s x lo hi mx=>
  cases mx with
  |some m=>cases hc
  |none=>
   cases str with
   |true=>exact iJ (r:=ic (ev x tm) tm lo hi) e h2
   |false=>
    have e:=nX (show pJ (ix h s (ev x tm) tm lo hi none)=_ from e);obtain⟨n,e1,e⟩:=ah (show aq (yt (ev x tm)) _=_ from e);obtain⟨hb,e2,e⟩:=ah e;obtain⟨l,e3,e⟩:=ah e;have e:By (ev x tm) h s l hb=some (v,h1):=e;have key:h1=h/\By (ev x tm) h2 s l hb=some (v,h2):=by
     generalize ev x tm=y at e;cases y<;>first|(cases e;done)|skip
     case nl=>cases e;exact⟨rfl,rfl⟩
     case ls es=>
      obtain⟨hs,e⟩:=aH (show cond (fl s es) _ none=_ from e);cases e;exact⟨rfl,by show cond (fl s es) _ none=_;rw[hs];rfl⟩
     case clip es=>
      obtain⟨hs,e⟩:=aH (show cond (fl s es) _ none=_ from e);cases e;exact⟨rfl,by show cond (fl s es) _ none=_;rw[hs];rfl⟩
     case row k g z off m=>
      obtain⟨hs,e⟩:=aH (show cond (Nat.beq z s) _ none=_ from e);cases e;exact⟨rfl,by show cond (Nat.beq z s) _ none=_;rw[hs];rfl⟩
    refine⟨key.1,?_⟩;show pJ (ix h2 s (ev x tm) tm lo hi none)=_;have:ix h2 s (ev x tm) tm lo hi none=some (v,h2):=by
     unfold ix;rw[e1];show aq (wW hi tm n n) _=_;rw[e2];show aq (wW lo tm 0 hb) _=_;rw[e3];exact key.2
    rw[this];rfl
 |faddr p s ag x=>
  have e:eM (ev x tm) h p s ag=_:=e;show h1=h/\eM (ev x tm) h2 p s ag=_;cases hx:ev x tm<;>rw[hx]at e<;>first|(cases e;done)|(cases e;exact⟨rfl,rfl⟩)|exact iJ e h2
 |field p s ag x=>exact iJ e h2
 |iaddr s x i=>
  have e:cz (ev x tm) h s (ev i tm)=_:=e;show h1=h/\cz (ev x tm) h2 s (ev i tm)=_;cases hx:ev x tm<;>rw[hx]at e<;>first|(cases e;done)|exact iJ e h2
 |iaddrA n s ag x i=>
  have e:(Option.casesOn (asIdx (ev i tm) n) OpR.bad (fun n=>gi (ev x tm) h n s ag):OpR)=.val v h1:=e;show h1=h/\(Option.casesOn (asIdx (ev i tm) n) OpR.bad (fun n=>gi (ev x tm) h2 n s ag):OpR)=.val v h2;cases hi:asIdx (ev i tm) n with
  |none=>rw[hi]at e;cases e
  |some m=>
   rw[hi]at e;have e:gi (ev x tm) h m s ag=_:=e;show h1=h/\gi (ev x tm) h2 m s ag=_;cases hx:ev x tm<;>rw[hx]at e<;>first|(cases e;done)|(cases e;exact⟨rfl,rfl⟩)|exact iJ e h2
 |strIdx x i=>exact iJ e h2
 |arrIdx n s ag x i=>exact iJ e h2
 |lookup t z x i ok=>cases hc
 |mapUp t m k v=>cases hc
 |assert t z x ok=>exact iJ e h2
 |extract x i=>exact iJ e h2
 |builtin b args=>
  cases b with
  |max=>exact iJ e h2
  |min=>exact iJ e h2
  |_=>cases hc
 |call f args=>cases hc
 |defer f args=>cases hc
 |panic x=>cases hc
theorem Cl (hc:op.cls=.reads)(e:evOp op tm h=.val v h1):h1=h:=by
 cases op with
 |load ag s x=>exact(dJ e).2
 |lookup t z x i ok=>exact(dJ e).2
 |builtin b args=>
  cases b with
  |len k=>
   obtain⟨x,_,e⟩:=qP (show Fw (evs args tm) OpR.bad _=_ from e);exact(dJ e).2
  |_=>cases hc
 |lit f _ _ _ _ _=>cases f<;>cases hc
 |slice _ _ _ _ _ mx=>cases mx<;>cases hc
 |_=>cases hc
theorem MU (hc:op.cls=.still∨op.cls=.reads):op.odd=false:=by
 cases op with
 |lit f _ _ _ _ _=>rfl
 |slice _ _ _ _ _ mx=>rfl
 |builtin b args=>cases b<;>first|rfl|(rcases hc with hc|hc<;>cases hc)
 |call f args=>rcases hc with hc|hc<;>cases hc
 |defer f args=>rcases hc with hc|hc<;>cases hc
 |panic x=>rcases hc with hc|hc<;>cases hc
 |_=>rfl
theorem CW (hc:op.cls=.born):∃z,op=.new z:=by
 cases op with
 |new z=>exact⟨z,rfl⟩
 |lit f _ _ _ _ _=>cases f<;>cases hc
 |slice _ _ _ _ _ mx=>cases mx<;>cases hc
 |builtin b args=>cases b<;>cases hc
 |_=>cases hc
end
mutual
theorem AV.beq_eq:∀(a b:AV),AV.beq a b=true->a=b:=by
 intro a b h;cases a<;>cases b<;>first|rfl|(simp[AV.beq]at h;done)|skip
 case bool.bool a b=>simp[AV.beq]at h;rw[h]
 case int.int k a k' b=>simp[AV.beq]at h;rw[h.1,h.2]
 case str.str a b=>
  obtain⟨a⟩:=a;obtain⟨b⟩:=b;have h:(a==b)=true:=h;rw[eq_of_beq h]
 case ptr.ptr=>simp[AV.beq]at h;obtain⟨⟨rfl,rfl⟩,rfl⟩:=h;rfl
 case vptr.vptr v v'=>simp only[AV.beq]at h;rw[AV.beq_eq _ _ h]
 case ls.ls a b=>simp only[AV.beq]at h;rw[AV.beqs_eq _ _ h]
 case clip.clip a b=>simp only[AV.beq]at h;rw[AV.beqs_eq _ _ h]
 case row.row=>simp[AV.beq]at h;obtain⟨⟨⟨⟨rfl,rfl⟩,rfl⟩,rfl⟩,rfl⟩:=h;rfl
 case map.map=>simp[AV.beq]at h;rw[h]
 case fn.fn=>simp[AV.beq]at h;obtain⟨⟨rfl,h1⟩,h2⟩:=h;rw[AV.beqs_eq _ _ h1,AV.beqs_eq _ _ h2]
 case yld.yld=>simp[AV.beq]at h;rw[h]
 case ifc.ifc=>simp[AV.beq]at h;obtain⟨rfl,h⟩:=h;rw[AV.beq_eq _ _ h]
 case agg.agg a b=>simp only[AV.beq]at h;rw[AV.beqs_eq _ _ h]
 case tup.tup a b=>simp only[AV.beq]at h;rw[AV.beqs_eq _ _ h]
theorem AV.beqs_eq:∀(a b:List AV),AV.beqs a b=true->a=b
 |[],[],_=>rfl
 |[],_::_,h=>by simp[AV.beqs]at h
 |_::_,[],h=>by simp[AV.beqs]at h
 |a::l,b::m,h=>by
  simp only[AV.beqs,Bool.and_eq_true]at h;rw[AV.beq_eq a b h.1,AV.beqs_eq l m h.2]
end
inductive MC (call:aG)(o:aX)(d:DI)(s s':DS):Prop
 |born (hc:o.op.cls=.born) (e:s'=⟨s.fr.put o.dst (.ptr s.nk 0 0),s.h,Nat.succ s.nk,s.hs,s.rds⟩)
 |acts (hc:o.op.cls=.acts) (fr:AF) (h:AH) (q:fA o call s.fr s.h=some (.normal,fr,h)) (e:s'=⟨fr,h,s.nk,s.hs++[h],s.rds⟩)
 |still (hc:o.op.cls=.still) (fr:AF) (h:AH) (q:fA o call s.fr s.h=some (.normal,fr,h)) (e:s'=⟨fr,s.h,s.nk,s.hs,s.rds⟩)
 |reads (hc:o.op.cls=.reads) (v:AV) (h:AH) (hw:wants o.guard s.fr.tm=some true) (q:evOp o.op s.fr.tm s.h=.val v h)
   (e:s'=⟨s.fr.put o.dst v,s.h,s.nk,s.hs,cond (Nat.beq d.lo d.hi) s.rds (⟨s.fr.tm,o.op,v,d.lo,d.hi⟩::s.rds)⟩)
 |skip (hc:o.op.cls=.reads) (hw:wants o.guard s.fr.tm=some false) (e:s'=⟨s.fr.put o.dst (.tup []),s.h,s.nk,s.hs,s.rds⟩)
def DPan (call:aG)(all:List (aX×DI))(o:aX)(d:DI)(s:DS)(r:AEx×AF×AH):Prop:=
 o.op.cls=.acts/\∃v fr h,fA o call s.fr s.h=some (.panic v,fr,h)/\IM all d.fin s v fr h=some r
theorem drawStep_some {call:aG}{all:List (aX×DI)}{o:aX}{d:DI}{s:DS}{k:DS->RX}{r:AEx×AF×AH}(q:rj o.op.cls call all o d s k=some r):
  (∃s',MC call o d s s'/\k s'=some r)∨DPan call all o d s r:=by
 cases hc:o.op.cls with
 |born=>rw[hc]at q;exact .inl ⟨_,.born hc rfl,q⟩
 |acts=>
  rw[hc]at q;obtain⟨⟨e,fr,h⟩,q1,q⟩:=ah (show aq (fA o call s.fr s.h) _=_ from q);cases e with
  |normal=>exact .inl ⟨_,.acts hc fr h q1 rfl,q⟩
  |panic v=>exact .inr ⟨hc,v,fr,h,q1,q⟩
  |exit id=>cases q
  |ret=>cases q
 |still=>
  rw[hc]at q;obtain⟨⟨e,fr,h⟩,q1,q⟩:=ah (show aq (fA o call s.fr s.h) _=_ from q);cases e with
  |normal=>exact .inl ⟨_,.still hc fr h q1 rfl,q⟩
  |panic v=>cases q
  |exit id=>cases q
  |ret=>cases q
 |reads=>
  rw[hc]at q;obtain⟨x,hw,q⟩:=ah (show aq (wants o.guard s.fr.tm) _=_ from q);cases x with
  |false=>exact .inl ⟨_,.skip hc hw rfl,q⟩
  |true=>
   have q:rT (evOp o.op s.fr.tm s.h) s o d k=some r:=q;cases hr:evOp o.op s.fr.tm s.h with
   |val v h=>rw[hr]at q;exact .inl ⟨_,.reads hc v h hw hr rfl,q⟩
   |_=>rw[hr]at q;cases q
theorem Bv (p:aX×DI)(l:List (aX×DI))(call:aG)(all:List (aX×DI))(s:DS):ji (p::l) call all s=rj p.1.op.cls call all p.1 p.2 s (ji l call all):=rfl
structure DRun (call:aG)(all l:List (aX×DI))(s:DS)(r:AEx×AF×AH)(st:Nat->DS)(p:Nat):Prop where
 start:st 0=s
 le:p<=l.length
 step:∀i o d,i<p->l[i]?=some (o,d)->MC call o d (st i) (st (i+1))
 fin:(p=l.length/\IN (st p)=some r)∨∃o d,l[p]?=some (o,d)/\DPan call all o d (st p) r
theorem CR {call:aG}{all:List (aX×DI)}: ∀(l:List (aX×DI)) {s:DS} {r:AEx×AF×AH},ji l call all s=some r->∃st p,DRun call all l s r st p
 |[],s,r,q=>⟨fun _=>s,0,rfl,Fv _,fun i o d h=>by omega,.inl ⟨rfl,q⟩⟩
 |(o,d)::l,s,r,q=>by
  rw[Bv]at q;rcases drawStep_some q with⟨s',hs,q⟩|hp
  ·obtain⟨st,p,R⟩:=CR l q;refine⟨fun i=>match i with|0=>s|i+1=>st i,p+1,rfl,by simp;exact R.le,?_,?_⟩
   ·intro i o' d' hi hg;cases i with
    |zero=>simp at hg;obtain⟨rfl,rfl⟩:=hg;show MC call o d s (st 0);rw[R.start];exact hs
    |succ i=>exact R.step i o' d' (by omega) (by simpa using hg)
   ·rcases R.fin with⟨h1,h2⟩|⟨o',d',h1,h2⟩
    ·exact .inl ⟨by simp[h1],h2⟩
    ·exact .inr ⟨o',d',by simpa using h1,h2⟩
  ·exact⟨fun _=>s,0,rfl,Nat.zero_le _,fun i o d h=>by omega,.inr ⟨o,d,rfl,hp⟩⟩
def oX (call:aG)(o:aX)(s:DS)(v:AV)(h:AH):Prop:=∀cx,fA o call ⟨s.fr.tm,cx⟩ h=some (.normal,⟨fC o.dst s.fr.tm v,cx⟩,h)
structure Ft (call:aG)(o:aX)(d:DI)(s s':DS)(v:AV):Prop where
 tm:s'.fr.tm=fC o.dst s.fr.tm v
 nonact:o.op.cls≠.acts->s'.h=s.h/\s'.fr.cx=s.fr.cx/\s'.hs=s.hs
 act:o.op.cls=.acts->s'.hs=s.hs++[s'.h]/\∀tm',wc o s.fr.tm tm'->fA o call ⟨tm',s.fr.cx⟩ s.h=some (.normal,⟨fC o.dst tm' v,s'.fr.cx⟩,s'.h)
 born:o.op.cls=.born->v=.ptr s.nk 0 0/\s'.nk=s.nk+1
 nk:o.op.cls≠.born->s'.nk=s.nk
 still:o.op.cls=.still->∀h,oX call o s v h
 rds:∀x∈s.rds,x∈s'.rds
 reads:o.op.cls=.reads->oX call o s v s.h/\(d.lo=d.hi∨(∀h,oX call o s v h)∨
  (wants o.guard s.fr.tm=some true/\(⟨s.fr.tm,o.op,v,d.lo,d.hi⟩:Rd)∈s'.rds))
theorem vj {call:aG}{o:aX}{s:DS}{v:AV}{h:AH}(hw:wants o.guard s.fr.tm=some true)(q:evOp o.op s.fr.tm h=.val v h):oX call o s v h:=fun cx=>by
 show aq (wants o.guard s.fr.tm) _=_;rw[hw];show kF (evOp o.op s.fr.tm h) call o.dst ⟨s.fr.tm,cx⟩ h=_;rw[q];rfl
theorem sk {call:aG}{o:aX}{s:DS}{h:AH}(hw:wants o.guard s.fr.tm=some false):oX call o s (.tup []) h:=fun cx=>by
 show aq (wants o.guard s.fr.tm) _=_;rw[hw];rfl
theorem dfact {call:aG}{o:aX}{d:DI}{s s':DS}(st:MC call o d s s'):∃v,Ft call o d s s' v:=by
 cases st with
 |born hc e=>
  subst e;refine⟨.ptr s.nk 0 0,wF _ _ _,fun _=>⟨rfl,kE _ _ _,rfl⟩,fun h=>?_,fun _=>⟨rfl,rfl⟩,fun h=>absurd hc h,fun h=>?_,fun x hx=>hx,fun h=>?_⟩
  all_goals (rw[hc]at h;cases h)
 |acts hc fr h q e=>
  subst e;obtain⟨⟨tm,cx⟩,_⟩:=s;obtain⟨v,h1,h2⟩:=mi q;refine⟨v,h1,fun h=>absurd hc h,fun _=>⟨rfl,h2⟩,fun h=>?_,fun _=>rfl,fun h=>?_,fun x hx=>hx,fun h=>?_⟩
  all_goals (rw[hc]at h;cases h)
 |still hc fr h q e=>
  subst e;obtain⟨⟨tm,cx⟩,hh,nk,hs,rds⟩:=s;have key:∃v,fr=⟨fC o.dst tm v,cx⟩/\∀h2,oX call o ⟨⟨tm,cx⟩,hh,nk,hs,rds⟩ v h2:=by
   obtain⟨x,hw,q⟩:=ah (show aq (wants o.guard tm) _=_ from q);cases x with
   |false=>cases q;exact⟨.tup [],rfl,fun h2=>sk hw⟩
   |true=>
    have q:kF (evOp o.op tm hh) call o.dst ⟨tm,cx⟩ hh=some (.normal,fr,h):=q;have hvb:=rR tm hh (MU (.inl hc));cases hr:evOp o.op tm hh<;>rw[hr]at q hvb<;>first|(cases hvb;done)|(cases q;done)|skip
    case val v h1=>
     cases q;exact⟨v,rfl,fun h2=>vj hw (MW hc hr h2).2⟩
  obtain⟨v,rfl,hR⟩:=key;refine⟨v,rfl,fun _=>⟨rfl,rfl,rfl⟩,fun h=>?_,fun h=>?_,fun _=>rfl,fun _=>hR,fun x hx=>hx,fun h=>?_⟩
  all_goals (rw[hc]at h;cases h)
 |reads hc v h hw q e=>
  have hh:=Cl hc q;rw[hh]at q;subst e;refine⟨v,wF _ _ _,fun _=>⟨rfl,kE _ _ _,rfl⟩,fun h=>?_,fun h=>?_,fun _=>rfl,fun h=>?_,fun x hx=>?_,fun _=>⟨vj hw q,?_⟩⟩
  ·rw[hc]at h;cases h
  ·rw[hc]at h;cases h
  ·rw[hc]at h;cases h
  ·show x∈cond (Nat.beq d.lo d.hi) s.rds _;cases Nat.beq d.lo d.hi
   ·exact List.mem_cons_of_mem _ hx
   ·exact hx
  ·cases hb:Nat.beq d.lo d.hi with
   |true=>exact .inl (beq_eq hb)
   |false=>
    refine .inr (.inr ⟨hw,?_⟩);exact List.mem_cons_self ..
 |skip hc hw e=>
  subst e;refine⟨.tup [],wF _ _ _,fun _=>⟨rfl,kE _ _ _,rfl⟩,fun h=>?_,fun h=>?_,fun _=>rfl,fun h=>?_,fun x hx=>hx,fun _=>⟨sk hw,.inr (.inl fun h=>sk hw)⟩⟩
  all_goals (rw[hc]at h;cases h)
theorem wo (h:AH)(l:List AH)(r:Rd)(m:Nat):gX (h::l) r m=and (or (Nat.blt m r.lo) (or (Nat.blt r.hi m) (oN (evOp r.op r.tm h) r.v))) (gX l r (m+1)):=rfl
theorem qg {r:Rd}: ∀(l:List AH) (m:Nat),gX l r m=true->∀k h,l[k]?=some h->r.lo<=m+k->m+k<=r.hi->oN (evOp r.op r.tm h) r.v=true
 |[],m,_,k,h,hk,_,_=>by simp at hk
 |a::l,m,q,k,h,hk,h1,h2=>by
  rw[wo]at q;obtain⟨q1,q2⟩:=dd q;cases k with
  |zero=>
   simp at hk;subst hk;have e1:Nat.blt m r.lo=false:=by cases hb:Nat.blt m r.lo with
    |false=>rfl
    |true=>have:=jL hb;omega
   have e2:Nat.blt r.hi m=false:=by cases hb:Nat.blt r.hi m with
    |false=>rfl
    |true=>have:=jL hb;omega
   rw[e1,e2]at q1;exact q1
  |succ k=>exact qg l (m+1) q2 k h (by simpa using hk) (by omega) (by omega)
theorem xC:∀{l:List Rd} {hs:List AH},rdsOk l hs=true->∀r∈l,gX hs r 0=true
 |[],hs,_,r,h=>by simp at h
 |a::l,hs,q,r,h=>by
  obtain⟨q1,q2⟩:=dd (show and (gX hs a 0) (rdsOk l hs)=true from q);cases h with
  |head=>exact q1
  |tail _ h=>exact xC q2 r h
theorem Dx {r:OpR}{v:AV}(h:oN r v=true):∃h1,r=.val v h1:=by
 cases r with
 |val u h1=>exact⟨h1,by rw[AV.beq_eq u v h]⟩
 |_=>cases h
theorem WE {call:aG}{o:aX}{d:DI}{s s':DS}{v:AV}{rds:List Rd}{hs:List AH}(F:Ft call o d s s' v)(hc:o.op.cls=.reads)(hr:∀x∈s'.rds,x∈rds)(hok:rdsOk rds hs=true)
  {m:Nat} {h:AH} (hm:hs[m]?=some h) (h1:d.lo<=m) (h2:m<=d.hi) (hsame:d.lo=d.hi->h=s.h):oX call o s v h:=by
 obtain⟨r1,r2⟩:=F.reads hc;rcases r2 with e|r2|⟨hw,r2⟩
 ·rw[hsame e];exact r1
 ·exact r2 h
 ·have:=qg hs 0 (xC hok _ (hr _ r2)) m h hm (by simpa using h1) (by simpa using h2);obtain⟨h1,hq⟩:=Dx this;have hq:evOp o.op s.fr.tm h=.val v h1:=hq;have:=Cl hc hq;rw[this]at hq;exact vj hw hq
def mn (ps:List Nat)(i j:Nat):Prop:=((ps[j]?).getD 0).testBit i=true
structure iZ (C:Cx)(nt:Nat)(ops:Array Oper)(l:List aX)(ps:List Nat)(ss:List OS):Prop where
 len:l.length=ops.size
 slen:ss.length=l.length
 op:∀(i:Nat) (o:Oper) (ao:aX),ops[i]?=some o->l[i]?=some ao->Fu C nt ops.toList o ao
 pres:acH ops.toList ps
 sum:∀(i:Nat) (x:OS),ss[i]?=some x->∃ao p,l[i]?=some ao/\ps[i]?=some p/\x=⟨p,lG ao.dst,nF ao,yz ao.op.cls⟩
 pair:∀(i j:Nat) (x y:aX),i<j->l[i]?=some x->l[j]?=some y->mn ps i j∨
  ((∀t,x.dst=some t->(nF y).testBit t=false/\y.dst≠some t)/\(∀t,y.dst=some t->(nF x).testBit t=false)/\¬(x.op.cls=.acts/\y.op.cls=.acts))
 born:∀(i:Nat) (o:aX),l[i]?=some o->o.op.cls=.born->o.guard=none
theorem jQ {d:Option Nat}{t:Nat}(h:d=some t):(lG d).testBit t=true:=by
 subst h;show(gR 0 t).testBit t=true;rw[iB];simp
theorem ym (c:Cls):yz c=true↔c=.acts:=by cases c<;>simp[yz]
theorem WK {C:Cx}{nt:Nat}{ops:Array Oper}{l:List aX}{ps:List Nat}(hc:jx (BC C.P C.T C.kw nt ops.toList) ops.toList=some l)(hp:kW ops.toList 0 []=some ps)
  (hpair:rK (tV l ps) []=true) (hb:uY l=true):iZ C nt ops l ps (tV l ps):=by
 have hlen:l.length=ops.size:=by rw[tf hc];simp
 have P:=WJ hp;have hpl:ps.length=l.length:=by rw[P.len,hlen];simp
 obtain⟨s1,s2⟩:=BX l ps hpl;refine⟨hlen,s1,fun i o ao ho ha=>?_,P,fun i x hx=>?_,fun i j x y hij hx hy=>?_,fun i o ho hcl=>tn l hb i o ho hcl⟩
 ·obtain⟨o',h1,h2⟩:=sD hc ha;have h1:ops[i]?=some o':=by simpa using h1
  rw[ho]at h1;cases h1;exact yg h2
 ·have hi:i<l.length:=by rw[<-s1];exact(wah.1 hx).1
  have h1:=s2 i l[i] ps[i] (wO hi) (wO (by omega));rw[hx]at h1;exact⟨l[i],ps[i],wO hi,wO (by omega),by cases h1;rfl⟩
 ·have hi:i<l.length:=(wah.1 hx).1;have hj:j<l.length:=(wah.1 hy).1;have e1:=s2 i x ps[i] hx (wO (by omega));have e2:=s2 j y ps[j] hy (wO (by omega));have:=te (tV l ps) [] hpair i j _ _ hij (Nat.zero_le _) (by simpa using e1) (by simpa using e2);simp only[Bool.or_eq_true]at this;rcases this with h|h
  ·left;rw[uZ]at h;unfold mn;rw[wO (show j<ps.length by omega)];exact h
  ·right;simp only[wT,Bool.and_eq_true,Bool.not_eq_true']at h;obtain⟨⟨h1,h2⟩,h3⟩:=h;refine⟨fun t ht=>⟨?_,fun hd=>?_⟩,fun t ht=>?_,fun⟨ha,hb⟩=>?_⟩
   ·cases hl:(nF y).testBit t with
    |false=>rfl
    |true=>exact(sf h1 (jQ ht) (by show((nF y) ||| (lG y.dst)).testBit t=true;rw[Nat.testBit_or,hl];rfl)).elim
   ·exact sf h1 (jQ ht) (by show((nF y) ||| (lG y.dst)).testBit t=true;rw[Nat.testBit_or,jQ hd,Bool.or_true])
   ·cases hl:(nF x).testBit t with
    |false=>rfl
    |true=>exact(sf h2 (jQ ht) hl).elim
   ·rw[ha,hb]at h3;cases h3
theorem fa (d:Option Nat)(tm:Tm)(v:AV)(t:Nat):nth (fC d tm v) t=if d=some t then v else nth tm t:=by
 cases d with
 |none=>simp[fC]
 |some d=>
  show nth (tm.put d v) t=_;rw[uP];by_cases h:t=d
  ·subst h;simp
  ·have:¬d=t:=fun q=>h q.symm
   simp[h,this]
def jM (dst:Nat->Option Nat)(v:Nat->AV)(tm0:Tm)(S:Nat->Bool):Nat->Tm
 |0=>tm0
 |m+1=>if S m then fC (dst m) (jM dst v tm0 S m) (v m) else jM dst v tm0 S m
def fh (l:List aX)(i:Nat):Option Nat:=(l[i]?).bind (·.dst)
def jN (S:Nat->Bool)(i:Nat):Nat->Bool:=fun j=>if j=i then true else S j
section
variable {C:Cx}{nt:Nat}{ops:Array Oper}{l:List aX}{ps:List Nat}{ss:List OS}{v:Nat->AV}{tm0:Tm}{S:Nat->Bool}
def kJ (ops:Array Oper)(S:Nat->Bool):Prop:=∀(i:Nat) (o:Oper),ops[i]?=some o->S i=true->∀j∈eA o,S j=true
def sc (ops:Array Oper)(S:Nat->Bool)(i:Nat):Prop:=S i=false/\∃o,ops[i]?=some o/\∀j∈eA o,S j=true
theorem iZ.pre (P:iZ C nt ops l ps ss)(hS:kJ ops S){i j:Nat}{o:Oper}(ho:ops[i]?=some o)(hr:∀j∈eA o,S j=true)(hb:mn ps j i):S j=true:=by
 unfold mn at hb;cases hp:ps[i]? with
 |none=>rw[hp]at hb;simp at hb
 |some p=>
  rw[hp]at hb;exact P.pres.closed (S:=S) (fun i o ho=>hS i o (by simpa using ho)) i o p (by simpa using ho) hp hr j hb
theorem iZ.before (P:iZ C nt ops l ps ss)(hS:kJ ops S){i j:Nat}(hi:i<ops.size)(hm:S i=true)(hb:mn ps j i):S j=true:=
 P.pre hS (Array.getElem?_eq_getElem hi) (hS i _ (Array.getElem?_eq_getElem hi) hm) hb
theorem eR (dst:Nat->Option Nat)(m:Nat):jM dst v tm0 S (m+1)=if S m then fC (dst m) (jM dst v tm0 S m) (v m) else jM dst v tm0 S m:=rfl
theorem iZ.agree (P:iZ C nt ops l ps ss)(hS:kJ ops S){i:Nat}{ao:aX}(hl:l[i]?=some ao)(hr:sc ops S i):
  wc ao (jM (fh l) v tm0 (fun _=>true) i) (jM (fh l) v tm0 S l.length):=by
 intro t ht;obtain⟨hni,o,ho,hd⟩:=hr;have key:∀m,m<=l.length->nth (jM (fh l) v tm0 S m) t=nth (jM (fh l) v tm0 (fun _=>true) (min m i)) t:=by
  intro m;induction m with
  |zero=>intro _;rw[Nat.zero_min];rfl
  |succ m ih=>
   intro hm;have ih:=ih (by omega);have hml:m<l.length:=by omega
   have hx:l[m]?=some l[m]:=wO hml;have hdm:fh l m=l[m].dst:=by unfold fh;rw[hx];rfl
   rw[eR,hdm];rcases Nat.lt_trichotomy m i with hlt|heq|hgt
   ·rw[show min (m+1) i=m+1 by omega,eR,wae rfl,hdm];rw[show min m i=m by omega]at ih;by_cases hdt:l[m].dst=some t
    ·have hSm:S m=true:=by
      rcases P.pair m i _ _ hlt hx hl with hb|⟨h1,_,_⟩
      ·exact P.pre hS ho hd hb
      ·have:=(h1 t hdt).1;rw[ht]at this;cases this
     rw[wae hSm,fa,fa,wae hdt,wae hdt]
    ·cases hSm:S m with
     |true=>rw[wae rfl,fa,fa,wad hdt,wad hdt];exact ih
     |false=>rw[wad (by simp),fa,wad hdt];exact ih
   ·subst heq;rw[hni,wad (by simp),show min (m+1) m=m by omega];rw[show min m m=m by omega]at ih;exact ih
   ·rw[show min (m+1) i=i by omega];rw[show min m i=i by omega]at ih;by_cases hdt:l[m].dst=some t
    ·have hSm:S m=false:=by
      cases hSm:S m with
      |false=>rfl
      |true=>
       rcases P.pair i m _ _ hgt hl hx with hb|⟨_,h2,_⟩
       ·have:=P.before hS (by rw[<-P.len];exact hml) hSm hb;rw[hni]at this;cases this
       ·have:=h2 t hdt;rw[ht]at this;cases this
     rw[hSm,wad (by simp)];exact ih
    ·cases hSm:S m with
     |true=>rw[wae rfl,fa,wad hdt];exact ih
     |false=>rw[wad (by simp)];exact ih
 have hi:i<l.length:=(wah.1 hl).1;have:=key l.length (Fv _);rw[show min l.length i=i by omega]at this;exact this.symm
theorem iZ.put (P:iZ C nt ops l ps ss)(hS:kJ ops S){i:Nat}{ao:aX}(hl:l[i]?=some ao)(hr:sc ops S i)(t:Nat):
  nth (jM (fh l) v tm0 (jN S i) l.length) t=nth (fC ao.dst (jM (fh l) v tm0 S l.length) (v i)) t:=by
 obtain⟨hni,o,ho,hd⟩:=hr;have hi:i<l.length:=(wah.1 hl).1;have hdi:fh l i=ao.dst:=by unfold fh;rw[hl];rfl
 have low:∀m,m<=i->jM (fh l) v tm0 (jN S i) m=jM (fh l) v tm0 S m:=by
  intro m;induction m with
  |zero=>intro _;rfl
  |succ m ih=>
          intro hm;rw[eR,eR,ih (by omega)];have:jN S i m=S m:=by simp[jN,show m≠i by omega]
          rw[this]
 have high:∀m,i+1+m<=l.length->nth (jM (fh l) v tm0 (jN S i) (i+1+m)) t=nth (fC ao.dst (jM (fh l) v tm0 S (i+1+m)) (v i)) t:=by
  intro m;induction m with
  |zero=>
   intro _;have:jN S i i=true:=by simp[jN]
   rw[Nat.add_zero,eR,eR,wae this,hni,wad (c:=false=true) (by simp),low i (Fv _),hdi]
  |succ m ih=>
   intro hm;have ih:=ih (by omega);have hml:i+1+m<l.length:=by omega
   have hx:l[i+1+m]?=some l[i+1+m]:=wO hml;have hdm:fh l (i+1+m)=l[i+1+m].dst:=by unfold fh;rw[hx];rfl
   rw[show i+1+(m+1)=(i+1+m)+1 by omega,eR,eR,hdm];have:jN S i (i+1+m)=S (i+1+m):=by simp[jN,show i+1+m≠i by omega]
   rw[this];cases hSm:S (i+1+m) with
   |false=>rw[wad (by simp),wad (by simp)];exact ih
   |true=>
    rw[wae rfl,wae rfl,fa,fa,fa,ih,fa];by_cases h1:l[i+1+m].dst=some t
    ·by_cases h2:ao.dst=some t
     ·exfalso;rcases P.pair i (i+1+m) _ _ (by omega) hl hx with hb|⟨h3,_,_⟩
      ·have:=P.before hS (by rw[<-P.len];exact hml) hSm hb;rw[hni]at this;cases this
      ·exact(h3 t h2).2 h1
     ·rw[wae h1,wad h2,wae h1]
    ·rw[wad h1];by_cases h2:ao.dst=some t
     ·rw[wae h2,wae h2]
     ·rw[wad h2,wad h2,wad h1]
 have:=high (l.length-(i+1)) (by omega);rw[show i+1+(l.length-(i+1))=l.length by omega]at this;exact this
end
