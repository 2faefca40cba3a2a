/- AbsGo: regions that draw their order: the sets (plain; no condition). -/
import Derived.Test.YtocdlbblemjabaaGreatDoorAm
namespace Go.AG
theorem kO (m i:Nat):bit m i=m.testBit i:=by
 unfold bit Nat.testBit;show Nat.beq ((m >>> i) &&& 1) 1=(1 &&& (m >>> i) != 0);rw[Nat.and_comm,Nat.one_and_eq_mod_two];rcases Nat.mod_two_eq_zero_or_one (m >>> i) with h|h<;>rw[h]<;>rfl
theorem ik (m i j:Nat):(gw m i).testBit j=(m.testBit j||decide (i=j)):=by
 unfold gw;show(m ||| (1 <<< i)).testBit j=_;rw[Nat.testBit_or,Nat.one_shiftLeft,Nat.testBit_two_pow]
theorem sW {a b t:Nat}(h:ZT (Nat.land a b)=true)(h1:a.testBit t=true)(h2:b.testBit t=true):False:=by
 have e:a &&& b=0:=beq_eq h;have:(a &&& b).testBit t=true:=by rw[Nat.testBit_and,h1,h2];rfl
 rw[e]at this;simp at this
noncomputable def sy (acc:List Nat)(l:List Nat):Nat->Nat:=List.rec (fun m=>m) (fun j _ ih m=>ih (Nat.lor (gw m j) ((acc[j]?).getD 0))) l
theorem zF (acc:List Nat)(j:Nat)(l:List Nat)(m:Nat):sy acc (j::l) m=sy acc l (Nat.lor (gw m j) ((acc[j]?).getD 0)):=rfl
theorem qR (acc:List Nat):∀ (l:List Nat) (m t:Nat),(sy acc l m).testBit t=true↔(m.testBit t=true∨∃ j,j∈l/\(j=t∨((acc[j]?).getD 0).testBit t=true))
 |[],m,t=>by simp[sy]
 |j::l,m,t=>by
  rw[zF,qR acc l];show(((gw m j) ||| ((acc[j]?).getD 0)).testBit t=true∨_)↔_;rw[Nat.testBit_or,ik];simp only[Bool.or_eq_true,decide_eq_true_eq,List.mem_cons];constructor
  ·rintro(((h|h)|h)|⟨j',h1,h2⟩)
   ·exact .inl h
   ·exact .inr ⟨j,.inl rfl,.inl h⟩
   ·exact .inr ⟨j,.inl rfl,.inr h⟩
   ·exact .inr ⟨j',.inr h1,h2⟩
  ·rintro(h|⟨j',h1|h1,h2⟩)
   ·exact .inl (.inl (.inl h))
   ·subst h1;rcases h2 with h2|h2
    ·exact .inl (.inl (.inr h2))
    ·exact .inl (.inr h2)
   ·exact .inr ⟨j',h1,h2⟩
theorem FK (acc:List Nat)(l:List Nat)(t:Nat):(Hh acc l).testBit t=true↔∃ j,j∈l/\(j=t∨((acc[j]?).getD 0).testBit t=true):=by
 show(sy acc l 0).testBit t=true↔_;rw[qR];simp
theorem nr {i:Nat}: ∀ {l:List Nat},mV i l=true->∀ j∈l,j<i
 |[],_,j,h=>by simp at h
 |a::l,h,j,hj=>by
  obtain⟨h1,h2⟩:=cR (show and (Nat.blt a i) (mV i l)=true from h);cases hj with
  |head=>exact iF h1
  |tail _ hj=>exact nr h2 j hj
theorem xB (o:Oper)(l:List Oper)(i:Nat)(acc:List Nat):kX (o::l) i acc=bif mV i (dO o) then kX l (i+1) (acc++[Hh acc (dO o)]) else none:=rfl
structure ahG (ops:List Oper)(ps:List Nat):Prop where
 len:ps.length=ops.length
 back:∀ (i:Nat) (o:Oper),ops[i]?=some o->∀ j∈dO o,j<i
 bits:∀ (i:Nat) (o:Oper) (p:Nat),ops[i]?=some o->ps[i]?=some p->∀ t,p.testBit t=true↔∃ j,j∈dO o/\(j=t∨((ps[j]?).getD 0).testBit t=true)
theorem tJ:∀ (l:List Oper) (i:Nat) (acc ps:List Nat),acc.length=i->kX l i acc=some ps->
  ps.length=i+l.length/\(∀ j,j<i->ps[j]?=acc[j]?)/\
  ∀ (k:Nat) (o:Oper),l[k]?=some o->(∀ j∈dO o,j<i+k)/\∀ p,ps[i+k]?=some p->∀ t,p.testBit t=true↔∃ j,j∈dO o/\(j=t∨((ps[j]?).getD 0).testBit t=true)
 |[],i,acc,ps,hl,e=>by
  cases e;exact⟨by simpa using hl,fun _ _=>rfl,fun k o h=>by simp at h⟩
 |o::l,i,acc,ps,hl,e=>by
  rw[xB]at e;obtain⟨hb,e⟩:=aN e;obtain⟨h1,h2,h3⟩:=tJ l (i+1) (acc++[Hh acc (dO o)]) ps (by simp[hl]) e;have hk:∀ j,j<i->ps[j]?=acc[j]?:=fun j hj=>by rw[h2 j o_,List.getElem?_append_left o_]
  refine⟨by rw[h1];simp;omega,hk,fun k o' ho=>?_⟩;cases k with
  |zero=>
   simp at ho;subst ho;refine⟨fun j hj=>nr hb j hj,fun p hp t=>?_⟩;have:ps[i]?=some (Hh acc (dO o)):=by rw[h2 i o_,List.getElem?_append_right o_];simp[hl]
   rw[Nat.add_zero,this]at hp;cases hp;rw[FK];constructor
   ·rintro⟨j,hj,hh⟩;exact⟨j,hj,by rw[hk j (nr hb j hj)];exact hh⟩
   ·rintro⟨j,hj,hh⟩;exact⟨j,hj,by rw[hk j (nr hb j hj)]at hh;exact hh⟩
  |succ k=>
   obtain⟨a1,a2⟩:=h3 k o' (by simpa using ho);exact⟨fun j hj=>by have:=a1 j hj;omega,fun p hp=>a2 p (by rw[show i+1+k=i+(k+1) by omega];exact hp)⟩
theorem ab4 {ops:List Oper}{ps:List Nat}(e:kX ops 0 []=some ps):ahG ops ps:=by
 obtain⟨h1,_,h3⟩:=tJ ops 0 [] ps rfl e;exact⟨by simpa using h1,fun i o ho j hj=>by simpa using (h3 i o ho).1 j hj,fun i o p ho hp=>(h3 i o ho).2 p (by simpa using hp)⟩
theorem ahG.closed {ops:List Oper}{ps:List Nat}(P:ahG ops ps){S:Nat->Bool}(hS:∀ (i:Nat) (o:Oper),ops[i]?=some o->S i=true->∀ j∈dO o,S j=true):
  ∀ (i:Nat) (o:Oper) (p:Nat),ops[i]?=some o->ps[i]?=some p->(∀ j∈dO o,S j=true)->∀ t,p.testBit t=true->S t=true:=by
 intro i;induction i using Nat.strongRecOn with
 |_ i ih=>
  intro o p ho hp hd t ht;obtain⟨j,hj,hh⟩:=(P.bits i o p ho hp t).1 ht;have hlt:=P.back i o ho j hj;rcases hh with rfl|hh
  ·exact hd _ hj
  ·have hi:i<ops.length:=(E_.1 ho).1;have hjo:ops[j]?=some ops[j]:=a_ o_;have hjl:j<ps.length:=by rw[P.len];omega
   have hjp:ps[j]?=some ps[j]:=a_ hjl;rw[hjp]at hh;exact ih j hlt _ _ hjo hjp (hS j _ hjo (hd j hj)) t hh
theorem QG (o:aV)(l:List aV)(p:Nat)(ps:List Nat):lY (o::l) (p::ps)=⟨p,ig o.dst,looks o,pC o.op.cls⟩::lY l ps:=rfl
theorem Dy:∀ (l:List aV) (ps:List Nat),ps.length=l.length->(lY l ps).length=l.length/\∀ (i:Nat) (o:aV) (p:Nat),l[i]?=some o->ps[i]?=some p->(lY l ps)[i]?=some ⟨p,ig o.dst,looks o,pC o.op.cls⟩
 |[],ps,_=>⟨rfl,fun i o p h=>by simp at h⟩
 |o::l,[],h=>by simp at h
 |o::l,p::ps,h=>by
  obtain⟨h1,h2⟩:=Dy l ps (by simpa using h);rw[QG];refine⟨by simp[h1],fun i o' p' ho hp=>?_⟩;cases i with
  |zero=>simp at ho hp;subst ho hp;rfl
  |succ i=>simpa using h2 i o' p' (by simpa using ho) (by simpa using hp)
theorem Cn (y x:OS)(l:List OS)(i:Nat):xJ y (x::l) i=((bit y.pre i||xU x y)&&xJ y l (i+1)):=rfl
theorem uK (y:OS):∀ (l:List OS) (i:Nat),xJ y l i=true->∀ (k:Nat) (x:OS),l[k]?=some x->(bit y.pre (i+k)||xU x y)=true
 |[],i,_,k,x,h=>by simp at h
 |z::l,i,h,k,x,hx=>by
  rw[Cn]at h;simp only[Bool.and_eq_true]at h;cases k with
  |zero=>simp at hx;subst hx;exact h.1
  |succ k=>have:=uK y l (i+1) h.2 k x (by simpa using hx);rw[show i+(k+1)=i+1+k by omega];exact this
theorem zG (y:OS)(l acc:List OS):sA (y::l) acc=(xJ y acc 0&&sA l (acc++[y])):=rfl
theorem tK:∀ (l acc:List OS),sA l acc=true->∀ (i j:Nat) (x y:OS),i<j->acc.length<=j->(acc++l)[i]?=some x->(acc++l)[j]?=some y->(bit y.pre i||xU x y)=true
 |[],acc,_,i,j,x,y,hij,hj,hx,hy=>by
  rw[A_,List.getElem?_eq_none o_]at hy;cases hy
 |z::l,acc,h,i,j,x,y,hij,hj,hx,hy=>by
  rw[zG]at h;simp only[Bool.and_eq_true]at h;by_cases hj':j=acc.length
  ·subst hj';rw[List.getElem?_append_right (e_ _)]at hy;simp at hy;subst hy;rw[List.getElem?_append_left hij]at hx;have:=uK z acc 0 h.1 i x hx;simpa using this
  ·have e:acc++z::l=(acc++[z])++l:=by simp
   rw[e]at hx hy;exact tK l (acc++[z]) h.2 i j x y hij (by simp;omega) hx hy
theorem dY (f:Nat->OS->Bool)(x:OS)(l:List OS)(i:Nat):eG f (x::l) i=bif f i x then eG f l (i+1)+1 else eG f l (i+1):=rfl
theorem fA {f f':Nat->OS->Bool}: ∀ (l:List OS) (i:Nat),(∀ k x,l[k]?=some x->f (i+k) x=true->f' (i+k) x=true)->eG f l i<=eG f' l i
 |[],i,_=>e_ _
 |x::l,i,h=>by
  rw[dY,dY];have ih:=fA (f:=f) (f':=f') l (i+1) fun k y hy=>by
   have:=h (k+1) y (by simpa using hy);rw[show i+(k+1)=i+1+k by omega]at this;exact this
  have h0:=h 0 x rfl;rw[Nat.add_zero]at h0;cases e:f i x with
  |false=>cases f' i x<;>simp<;>omega
  |true=>rw[h0 e];simpa using ih
theorem iV {f f':Nat->OS->Bool}(l:List OS)(i:Nat)(h:∀ k x,l[k]?=some x->f (i+k) x=f' (i+k) x):eG f l i=eG f' l i:=
 Nat.le_antisymm (fA l i fun k x hx=>by rw[h k x hx];exact id) (fA l i fun k x hx=>by rw[h k x hx];exact id)
theorem tV {f f':Nat->OS->Bool}: ∀ (l:List OS) (i j:Nat) (y:OS),l[j]?=some y->f (i+j) y=false->f' (i+j) y=true->(∀ k x,k≠j->l[k]?=some x->f (i+k) x=f' (i+k) x)->eG f' l i=eG f l i+1
 |[],i,j,y,hy,_,_,_=>by simp at hy
 |x::l,i,0,y,hy,h1,h2,h=>by
  simp at hy;subst hy;rw[Nat.add_zero]at h1 h2;rw[dY,dY,h1,h2];have:=iV (f:=f) (f':=f') l (i+1) fun k x hx=>by
   have:=h (k+1) x o_ (by simpa using hx);rw[show i+(k+1)=i+1+k by omega]at this;exact this
  rw[this];rfl
 |x::l,i,j+1,y,hy,h1,h2,h=>by
  have ih:=tV (f:=f) (f':=f') l (i+1) j y (by simpa using hy) (by rw[show i+1+j=i+(j+1) by omega];exact h1) (by rw[show i+1+j=i+(j+1) by omega];exact h2) fun k x hk hx=>by
   have:=h (k+1) x o_ (by simpa using hx);rw[show i+(k+1)=i+1+k by omega]at this;exact this
  have h0:=h 0 x o_ rfl;rw[Nat.add_zero]at h0;rw[dY,dY,ih,h0];cases f' i x<;>rfl
theorem za {f:Nat->OS->Bool}: ∀ (l:List OS) (i:Nat),abb f l i=true->∀ k x,l[k]?=some x->f (i+k) x=true
 |[],i,_,k,x,h=>by simp at h
 |y::l,i,h,k,x,hx=>by
  obtain⟨h1,h2⟩:=cR (show and (f i y) (abb f l (i+1))=true from h);cases k with
  |zero=>simp at hx;subst hx;exact h1
  |succ k=>have:=za l (i+1) h2 k x (by simpa using hx);rw[show i+(k+1)=i+1+k by omega];exact this
theorem BO (all:List OS)(o:aV)(l:List aV)(i:Nat)(s:OS)(ss:List OS):ku all (o::l) i (s::ss)=(o,mK all i s)::ku all l (i+1) ss:=rfl
theorem jZ (all:List OS):∀ (l:List aV) (i:Nat) (ss:List OS),ss.length=l.length->(ku all l i ss).length=l.length/\∀ (k:Nat) (o:aV) (s:OS),l[k]?=some o->ss[k]?=some s->(ku all l i ss)[k]?=some (o,mK all (i+k) s)
 |[],i,ss,_=>⟨rfl,fun k o s h=>by simp at h⟩
 |o::l,i,[],h=>by simp at h
 |o::l,i,s::ss,h=>by
  obtain⟨h1,h2⟩:=jZ all l (i+1) ss (by simpa using h);rw[BO];refine⟨by simp[h1],fun k o' s' ho hs=>?_⟩;cases k with
  |zero=>simp at ho hs;subst ho hs;rfl
  |succ k=>have:=h2 k o' s' (by simpa using ho) (by simpa using hs);rw[show i+(k+1)=i+1+k by omega];simpa using this
theorem tX:∀ (l:List aV),vW l=true->∀ (i:Nat) (o:aV),l[i]?=some o->o.op.cls=.born->o.guard=none
 |[],_,i,o,h,_=>by simp at h
 |a::l,h,i,o,ho,hc=>by
  obtain⟨h1,h2⟩:=cR (show and (!(Hr a.op.cls)||(Option.casesOn a.guard true fun _=>false)) (vW l)=true from h);cases i with
  |zero=>
   simp at ho;subst ho;rw[hc]at h1;cases hg:a.guard with
   |none=>rfl
   |some x=>rw[hg]at h1;cases h1
  |succ i=>exact tX l h2 i o (by simpa using ho) hc
def xq (o:aV)(tm tm':Tm):Prop:=∀ t,(looks o).testBit t=true->nth tm t=nth tm' t
theorem qX (x:AX)(l:List AX)(m:Nat):sN (x::l) m=sN l (Ix x m):=rfl
theorem SR (x:AX)(m t:Nat)(h:m.testBit t=true):(Ix x m).testBit t=true:=by
 cases x with
 |t n=>show(gw m n).testBit t=true;rw[ik,h];rfl
 |c v=>exact h
theorem qE:∀ (l:List AX) (m t:Nat),m.testBit t=true->(sN l m).testBit t=true
 |[],m,t,h=>h
 |x::l,m,t,h=>by rw[qX];exact qE l _ t (SR x m t h)
theorem tZ:∀ (l:List AX) (m n:Nat),AX.t n∈l->(sN l m).testBit n=true
 |[],m,n,h=>by simp at h
 |x::l,m,n,h=>by
  rw[qX];cases h with
  |head=>exact qE l _ n (by show(gw m n).testBit n=true;rw[ik];simp)
  |tail _ h=>exact tZ l _ n h
section
variable {o:aV}{tm tm':Tm}{h:AH}
theorem xq.ev (a:xq o tm tm'){x:AX}(hx:x∈o.op.args):ev x tm=ev x tm':=by
 cases x with
 |t n=>exact a n (tZ _ _ n hx)
 |c v=>rfl
theorem mi {l:List AX}(hl:∀ x∈l,ev x tm=ev x tm'):evs l tm=evs l tm':=by
 induction l with
 |nil=>rfl
 |cons x l ih=>rw[mG,mG,hl x (by simp),ih fun y hy=>hl y (by simp[hy])]
theorem xq.wants (a:xq o tm tm'):wants o.guard tm=wants o.guard tm':=by
 cases hg:o.guard with
 |none=>rfl
 |some p=>
  show wantV (nth tm p.1) p.2=wantV (nth tm' p.1) p.2;rw[a p.1 (by
   unfold looks;refine qE _ _ _ ?_;rw[hg];show(gw 0 p.1).testBit p.1=true;rw[ik];simp)]
theorem mY {x:Option AX}(hx:∀ y,x=some y->ev y tm=ev y tm')(d b:Nat):xt x tm d b=xt x tm' d b:=by
 cases x with
 |none=>rfl
 |some y=>show lB (ev y tm) b=lB (ev y tm') b;rw[hx y rfl]
theorem Gr (a:xq o tm tm'):evOp o.op tm h=evOp o.op tm' h:=by
 have ha:∀ x∈o.op.args,ev x tm=ev x tm':=fun x hx=>a.ev hx
 clear a;generalize o.op=op at ha;cases op with
 |mv x=>show OpR.val (ev x tm) h=.val (ev x tm') h;rw[ha x (by simp[AOp.args])]
 |pick c x y=>
  show oe (ev c tm) h (ev x tm) (ev y tm)=oe (ev c tm') h (ev x tm') (ev y tm');rw[ha c (by simp[AOp.args]),ha x (by simp[AOp.args]),ha y (by simp[AOp.args])]
 |new z=>rfl
 |box n x=>show dB h n (ev x tm)=dB h n (ev x tm');rw[ha x (by simp[AOp.args])]
 |build z ps=>
  show bT h z (eO ps tm)=bT h z (eO ps tm');have:eO ps tm=eO ps tm':=by
   have hp:∀ p∈ps,ev p.2.2 tm=ev p.2.2 tm':=fun p hp=>ha _ (by simp only[AOp.args];exact List.mem_map.2 ⟨p,hp,rfl⟩)
   clear ha;induction ps with
   |nil=>rfl
   |cons p ps ih=>
    show(p.1,p.2.1,ev p.2.2 tm)::eO ps tm=(p.1,p.2.1,ev p.2.2 tm')::eO ps tm';rw[hp p (by simp),ih fun q hq=>hp q (by simp[hq])]
  rw[this]
 |lit f ag s z n ps=>
  show fY f ag s z n (cD ps tm s) h=fY f ag s z n (cD ps tm' s) h;have:cD ps tm s=cD ps tm' s:=by
   have hp:∀ p∈ps,ev p.2 tm=ev p.2 tm':=fun p hp=>ha _ (by simp only[AOp.args];exact List.mem_map.2 ⟨p,hp,rfl⟩)
   clear ha;induction ps with
   |nil=>rfl
   |cons p ps ih=>
    show(Nat.mul p.1 s,s,ev p.2 tm)::cD ps tm s=(Nat.mul p.1 s,s,ev p.2 tm')::cD ps tm' s;rw[hp p (by simp),ih fun q hq=>hp q (by simp[hq])]
  rw[this]
 |load ag s x=>show okV (cj (ev x tm) h ag s) h=okV (cj (ev x tm') h ag s) h;rw[ha x (by simp[AOp.args])]
 |store s x y=>show okH (dQ (ev x tm) h s (ev y tm))=okH (dQ (ev x tm') h s (ev y tm'));rw[ha x (by simp[AOp.args]),ha y (by simp[AOp.args])]
 |nilChk x=>show iK (ev x tm) h=iK (ev x tm') h;rw[ha x (by simp[AOp.args])]
 |bin op e x y=>show okV (qJ (ev x tm) op e (ev y tm)) h=okV (qJ (ev x tm') op e (ev y tm')) h;rw[ha x (by simp[AOp.args]),ha y (by simp[AOp.args])]
 |un op x=>show okV (ZR op (ev x tm)) h=okV (ZR op (ev x tm')) h;rw[ha x (by simp[AOp.args])]
 |convInt k x=>show okV (BH k (ev x tm)) h=okV (BH k (ev x tm')) h;rw[ha x (by simp[AOp.args])]
 |convId x=>show okV (rR (ev x tm)) h=okV (rR (ev x tm')) h;rw[ha x (by simp[AOp.args])]
 |mkIface t x=>show OpR.val (.ifc t (ev x tm)) h=.val (.ifc t (ev x tm')) h;rw[ha x (by simp[AOp.args])]
 |mkFn f x y=>
  show OpR.val (.fn f (evs x tm) (evs y tm)) h=.val (.fn f (evs x tm') (evs y tm')) h;rw[mi fun z hz=>ha z (by simp[AOp.args,hz]),mi (l:=y) fun z hz=>ha z (by simp[AOp.args,hz])]
 |mkMap=>rfl
 |mkSlice ag s bt z l c=>show qG (fJ h ag s bt z (ev l tm) (ev c tm))=qG (fJ h ag s bt z (ev l tm') (ev c tm'));rw[ha l (by simp[AOp.args]),ha c (by simp[AOp.args])]
 |slice str s x lo hi mx=>
  have h0:ev x tm=ev x tm':=ha x (by simp[AOp.args]);have h1:∀ y,lo=some y->ev y tm=ev y tm':=fun y hy=>ha y (by simp[AOp.args,hy])
  have h2:∀ y,hi=some y->ev y tm=ev y tm':=fun y hy=>ha y (by simp[AOp.args,hy])
  have h3:∀ y,mx=some y->ev y tm=ev y tm':=fun y hy=>ha y (by simp[AOp.args,hy])
  cases str with
  |true=>
   show okV (gQ (ev x tm) tm lo hi) h=okV (gQ (ev x tm') tm' lo hi) h;unfold gQ;rw[h0];simp only[mY h1,mY h2]
  |false=>
   show qG (fq h s (ev x tm) tm lo hi mx)=qG (fq h s (ev x tm') tm' lo hi mx);unfold fq;rw[h0];simp only[mY h1,mY h2];cases mx with
   |none=>rfl
   |some m=>simp only[h3 m rfl]
 |faddr p s ag x=>show cp (ev x tm) h p s ag=cp (ev x tm') h p s ag;rw[ha x (by simp[AOp.args])]
 |field p s ag x=>show okV (vS (ev x tm) p s ag) h=okV (vS (ev x tm') p s ag) h;rw[ha x (by simp[AOp.args])]
 |iaddr s x i=>show cz (ev x tm) h s (ev i tm)=cz (ev x tm') h s (ev i tm');rw[ha x (by simp[AOp.args]),ha i (by simp[AOp.args])]
 |iaddrA n s ag x i=>
  show(Option.casesOn (asIdx (ev i tm) n) OpR.bad (fun n=>fV (ev x tm) h n s ag):OpR)=(Option.casesOn (asIdx (ev i tm') n) OpR.bad (fun n=>fV (ev x tm') h n s ag):OpR);rw[ha x (by simp[AOp.args]),ha i (by simp[AOp.args])]
 |strIdx x i=>show okV (mH (ev x tm) (ev i tm)) h=okV (mH (ev x tm') (ev i tm')) h;rw[ha x (by simp[AOp.args]),ha i (by simp[AOp.args])]
 |arrIdx n s ag x i=>show okV (rS n s ag (ev x tm) (ev i tm)) h=okV (rS n s ag (ev x tm') (ev i tm')) h;rw[ha x (by simp[AOp.args]),ha i (by simp[AOp.args])]
 |lookup t z x i ok=>show okV (fm h t z ok (ev x tm) (ev i tm)) h=okV (fm h t z ok (ev x tm') (ev i tm')) h;rw[ha x (by simp[AOp.args]),ha i (by simp[AOp.args])]
 |mapUp t m k v=>show okH (fK h t (ev m tm) (ev k tm) (ev v tm))=okH (fK h t (ev m tm') (ev k tm') (ev v tm'));rw[ha m (by simp[AOp.args]),ha k (by simp[AOp.args]),ha v (by simp[AOp.args])]
 |assert t z x ok=>show okV (lh (ev x tm) t z ok) h=okV (lh (ev x tm') t z ok) h;rw[ha x (by simp[AOp.args])]
 |extract x i=>show okV (aD (TV (ev x tm)) fun l=>pT i l) h=okV (aD (TV (ev x tm')) fun l=>pT i l) h;rw[ha x (by simp[AOp.args])]
 |builtin b args=>show tB b h (evs args tm)=tB b h (evs args tm');rw[mi fun z hz=>ha z (by simp[AOp.args,hz])]
 |call f args=>show OpR.call (ev f tm) (evs args tm)=.call (ev f tm') (evs args tm');rw[ha f (by simp[AOp.args]),mi fun z hz=>ha z (by simp[AOp.args,hz])]
 |defer f args=>show OpR.dfr (ev f tm) (evs args tm)=.dfr (ev f tm') (evs args tm');rw[ha f (by simp[AOp.args]),mi fun z hz=>ha z (by simp[AOp.args,hz])]
 |panic x=>show jv (ev x tm)=jv (ev x tm');rw[ha x (by simp[AOp.args])]
noncomputable def ahC (e:AEx)(d:Option Nat)(tm:Tm)(v:AV):Tm:=match e with
 |.normal=>ez d tm v
 |_=>tm
theorem jK {call:aQ}{cx:AC}{e:AEx}{fr':AF}{h':AH}(q:dL o call ⟨tm,cx⟩ h=some (e,fr',h')):
  ∃ v,fr'.tm=ahC e o.dst tm v/\∀ tm',xq o tm tm'->dL o call ⟨tm',cx⟩ h=some (e,⟨ahC e o.dst tm' v,fr'.cx⟩,h'):=by
 obtain⟨x,hw,q⟩:=aA (show aD (wants o.guard tm) _=_ from q);cases x with
 |false=>
  cases q;refine⟨.tup [],rfl,fun tm' a=>?_⟩;show aD (wants o.guard tm') _=_;rw[<- a.wants,hw];rfl
 |true=>
  have q:jh (evOp o.op tm h) call o.dst ⟨tm,cx⟩ h=some (e,fr',h'):=q;have key:∃ v,fr'.tm=ahC e o.dst tm v/\∀ tm',jh (evOp o.op tm h) call o.dst ⟨tm',cx⟩ h=some (e,⟨ahC e o.dst tm' v,fr'.cx⟩,h'):=by
   cases hr:evOp o.op tm h with
   |bad=>rw[hr]at q;cases q
   |val v h1=>rw[hr]at q;cases q;exact⟨v,rfl,fun tm'=>rfl⟩
   |pan v=>rw[hr]at q;cases q;exact⟨v,rfl,fun tm'=>rfl⟩
   |call f as=>
    rw[hr]at q;obtain⟨⟨out,rc,h2⟩,q1,q⟩:=aA (show aD (call f as .no h) _=_ from q);cases out with
    |ret v=>cases q;refine⟨v,rfl,fun tm'=>?_⟩;show aD (call f as .no h) _=_;rw[q1];rfl
    |pan v=>cases q;refine⟨v,rfl,fun tm'=>?_⟩;show aD (call f as .no h) _=_;rw[q1];rfl
   |rcv=>
    rw[hr]at q;obtain⟨dfs,rc,rnd,fid⟩:=cx;cases rnd with
    |some l=>cases q
    |none=>cases rc with
     |no=>cases q
     |pend v=>cases q;exact⟨v,rfl,fun tm'=>rfl⟩
     |ret=>cases q;exact⟨.nili,rfl,fun tm'=>rfl⟩
     |done=>cases q;exact⟨.nili,rfl,fun tm'=>rfl⟩
   |dfr f as=>
    rw[hr]at q;obtain⟨dfs,rc,rnd,fid⟩:=cx;cases rnd with
    |some l=>cases q
    |none=>
     obtain⟨hf,q⟩:=aN (show cond (ahA f) _ none=_ from q);cases q;refine⟨.tup [],rfl,fun tm'=>?_⟩;show cond (ahA f) _ none=_;rw[hf];rfl
  obtain⟨v,h1,h2⟩:=key;refine⟨v,h1,fun tm' a=>?_⟩;show aD (wants o.guard tm') _=_;rw[<- a.wants,hw];show jh (evOp o.op tm' h) call o.dst ⟨tm',cx⟩ h=_;rw[<- Gr a];exact h2 tm'
end
section
variable {op:AOp}{tm:Tm}{h h1 h2:AH}{v:AV}
theorem iE {r:Option AV}(e:okV r h=.val v h1)(h2:AH):h1=h/\okV r h2=.val v h2:=by
 obtain⟨rfl,rfl⟩:=dx e;exact⟨rfl,rfl⟩
theorem Ul (hc:op.cls=.still)(e:evOp op tm h=.val v h1)(h2:AH):h1=h/\evOp op tm h2=.val v h2:=by
 cases op with
 |mv x=>cases e;exact⟨rfl,rfl⟩
 |pick c x y=>
  have e:oe (ev c tm) h (ev x tm) (ev y tm)=_:=e;show h1=h/\oe (ev c tm) h2 (ev x tm) (ev y tm)=_;cases hx:ev c tm<;>rw[hx]at e<;>first|(cases e;done)|(cases e;exact⟨rfl,rfl⟩)
 |new z=>cases hc
 |box n x=>cases hc
 |build z ps=>
  have e:bT h z (eO ps tm)=_:=e;show h1=h/\bT h2 z (eO ps tm)=_;unfold bT at e ⊢;cases hx:fillA (eO ps tm) z with
  |none=>rw[hx]at e;cases e
  |some cs=>rw[hx]at e;cases e;exact⟨rfl,rfl⟩
 |lit f ag s z n ps=>
  cases f with
  |false=>cases hc
  |true=>
   have e:fY true ag s z n (cD ps tm s) h=_:=e;show h1=h/\fY true ag s z n (cD ps tm s) h2=_;unfold fY at e ⊢;cases hx:fillA (cD ps tm s) (rY n z) with
   |none=>rw[hx]at e;cases e
   |some cs=>
    rw[hx]at e;have e:(Option.casesOn (chunk ag s n cs) OpR.bad fun es=>.val (.clip es) h:OpR)=.val v h1:=e;show h1=h/\(Option.casesOn (chunk ag s n cs) OpR.bad fun es=>.val (.clip es) h2:OpR)=.val v h2;cases hk:chunk ag s n cs with
    |none=>rw[hk]at e;cases e
    |some es=>rw[hk]at e;cases e;exact⟨rfl,rfl⟩
 |load ag s x=>cases hc
 |store s x y=>cases hc
 |nilChk x=>
  have e:iK (ev x tm) h=_:=e;show h1=h/\iK (ev x tm) h2=_;cases hx:ev x tm<;>rw[hx]at e<;>first|(cases e;done)|(cases e;exact⟨rfl,rfl⟩)
 |bin o' e' x y=>exact iE e h2
 |un o' x=>exact iE e h2
 |convInt k x=>exact iE e h2
 |convId x=>exact iE e h2
 |mkIface t x=>cases e;exact⟨rfl,rfl⟩
 |mkFn f x y=>cases e;exact⟨rfl,rfl⟩
 |mkMap=>cases hc
 |mkSlice ag s bt z l c=>cases hc
 |slice str s x lo hi mx=>
  cases mx with
  |some m=>cases hc
  |none=>
   cases str with
   |true=>exact iE (r:=gQ (ev x tm) tm lo hi) e h2
   |false=>
    have e:=oO (show qG (fq h s (ev x tm) tm lo hi none)=_ from e);obtain⟨n,e1,e⟩:=aA (show aD (BV (ev x tm)) _=_ from e);obtain⟨hb,e2,e⟩:=aA e;obtain⟨l,e3,e⟩:=aA e;have e:zi (ev x tm) h s l hb=some (v,h1):=e;have key:h1=h/\zi (ev x tm) h2 s l hb=some (v,h2):=by
     generalize ev x tm=y at e;cases y<;>first|(cases e;done)|skip
     case nl=>cases e;exact⟨rfl,rfl⟩
     case ls es=>
      obtain⟨hs,e⟩:=aN (show cond (ew s es) _ none=_ from e);cases e;exact⟨rfl,by show cond (ew s es) _ none=_;rw[hs];rfl⟩
     case clip es=>
      obtain⟨hs,e⟩:=aN (show cond (ew s es) _ none=_ from e);cases e;exact⟨rfl,by show cond (ew s es) _ none=_;rw[hs];rfl⟩
     case row k g z off m=>
      obtain⟨hs,e⟩:=aN (show cond (Nat.beq z s) _ none=_ from e);cases e;exact⟨rfl,by show cond (Nat.beq z s) _ none=_;rw[hs];rfl⟩
    refine⟨key.1,?_⟩;show qG (fq h2 s (ev x tm) tm lo hi none)=_;have:fq h2 s (ev x tm) tm lo hi none=some (v,h2):=by
     unfold fq;rw[e1];show aD (xt hi tm n n) _=_;rw[e2];show aD (xt lo tm 0 hb) _=_;rw[e3];exact key.2
    rw[this];rfl
 |faddr p s ag x=>
  have e:cp (ev x tm) h p s ag=_:=e;show h1=h/\cp (ev x tm) h2 p s ag=_;cases hx:ev x tm<;>rw[hx]at e<;>first|(cases e;done)|(cases e;exact⟨rfl,rfl⟩)|exact iE e h2
 |field p s ag x=>exact iE e h2
 |iaddr s x i=>
  have e:cz (ev x tm) h s (ev i tm)=_:=e;show h1=h/\cz (ev x tm) h2 s (ev i tm)=_;cases hx:ev x tm<;>rw[hx]at e<;>first|(cases e;done)|exact iE e h2
 |iaddrA n s ag x i=>
  have e:(Option.casesOn (asIdx (ev i tm) n) OpR.bad (fun n=>fV (ev x tm) h n s ag):OpR)=.val v h1:=e;show h1=h/\(Option.casesOn (asIdx (ev i tm) n) OpR.bad (fun n=>fV (ev x tm) h2 n s ag):OpR)=.val v h2;cases hi:asIdx (ev i tm) n with
  |none=>rw[hi]at e;cases e
  |some m=>
   rw[hi]at e;have e:fV (ev x tm) h m s ag=_:=e;show h1=h/\fV (ev x tm) h2 m s ag=_;cases hx:ev x tm<;>rw[hx]at e<;>first|(cases e;done)|(cases e;exact⟨rfl,rfl⟩)|exact iE e h2
 |strIdx x i=>exact iE e h2
 |arrIdx n s ag x i=>exact iE e h2
 |lookup t z x i ok=>cases hc
 |mapUp t m k v=>cases hc
 |assert t z x ok=>exact iE e h2
 |extract x i=>exact iE e h2
 |builtin b args=>
  cases b with
  |max=>exact iE e h2
  |min=>exact iE e h2
  |_=>cases hc
 |call f args=>cases hc
 |defer f args=>cases hc
 |panic x=>cases hc
theorem Ep (hc:op.cls=.reads)(e:evOp op tm h=.val v h1):h1=h:=by
 cases op with
 |load ag s x=>exact(dx e).2
 |lookup t z x i ok=>exact(dx e).2
 |builtin b args=>
  cases b with
  |len k=>
   obtain⟨x,_,e⟩:=oN (show Fx (evs args tm) OpR.bad _=_ from e);exact(dx e).2
  |_=>cases hc
 |lit f _ _ _ _ _=>cases f<;>cases hc
 |slice _ _ _ _ _ mx=>cases mx<;>cases hc
 |_=>cases hc
theorem Uk (hc:op.cls=.still∨op.cls=.reads):op.odd=false:=by
 cases op with
 |lit f _ _ _ _ _=>rfl
 |slice _ _ _ _ _ mx=>rfl
 |builtin b args=>cases b<;>first|rfl|(rcases hc with hc|hc<;>cases hc)
 |call f args=>rcases hc with hc|hc<;>cases hc
 |defer f args=>rcases hc with hc|hc<;>cases hc
 |panic x=>rcases hc with hc|hc<;>cases hc
 |_=>rfl
theorem Fm (hc:op.cls=.born):∃ z,op=.new z:=by
 cases op with
 |new z=>exact⟨z,rfl⟩
 |lit f _ _ _ _ _=>cases f<;>cases hc
 |slice _ _ _ _ _ mx=>cases mx<;>cases hc
 |builtin b args=>cases b<;>cases hc
 |_=>cases hc
end
mutual
theorem AV.beq_eq:∀ (a b:AV),AV.beq a b=true->a=b:=by
 intro a b h;cases a<;>cases b<;>first|rfl|(simp[AV.beq]at h;done)|skip
 case bool.bool a b=>simp[AV.beq]at h;rw[h]
 case int.int k a k' b=>simp[AV.beq]at h;rw[h.1,h.2]
 case str.str a b=>
  obtain⟨a⟩:=a;obtain⟨b⟩:=b;have h:(a==b)=true:=h;rw[eq_of_beq h]
 case ptr.ptr=>simp[AV.beq]at h;obtain⟨⟨rfl,rfl⟩,rfl⟩:=h;rfl
 case vptr.vptr v v'=>simp only[AV.beq]at h;rw[AV.beq_eq _ _ h]
 case ls.ls a b=>simp only[AV.beq]at h;rw[AV.beqs_eq _ _ h]
 case clip.clip a b=>simp only[AV.beq]at h;rw[AV.beqs_eq _ _ h]
 case row.row=>simp[AV.beq]at h;obtain⟨⟨⟨⟨rfl,rfl⟩,rfl⟩,rfl⟩,rfl⟩:=h;rfl
 case map.map=>simp[AV.beq]at h;rw[h]
 case fn.fn=>simp[AV.beq]at h;obtain⟨⟨rfl,h1⟩,h2⟩:=h;rw[AV.beqs_eq _ _ h1,AV.beqs_eq _ _ h2]
 case yld.yld=>simp[AV.beq]at h;rw[h]
 case ifc.ifc=>simp[AV.beq]at h;obtain⟨rfl,h⟩:=h;rw[AV.beq_eq _ _ h]
 case agg.agg a b=>simp only[AV.beq]at h;rw[AV.beqs_eq _ _ h]
 case tup.tup a b=>simp only[AV.beq]at h;rw[AV.beqs_eq _ _ h]
theorem AV.beqs_eq:∀ (a b:List AV),AV.beqs a b=true->a=b
 |[],[],_=>rfl
 |[],_::_,h=>by simp[AV.beqs]at h
 |_::_,[],h=>by simp[AV.beqs]at h
 |a::l,b::m,h=>by
  simp only[AV.beqs,Bool.and_eq_true]at h;rw[AV.beq_eq a b h.1,AV.beqs_eq l m h.2]
end
