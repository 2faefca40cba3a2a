/- AbsGo: regions that draw their order: the evaluator's run (plain; no condition). -/
import Derived.Test.YtocdlbblemjabaaGreatDoorAn
noncomputable section
namespace Go.AG
inductive xp (call:aQ)(o:aV)(d:DI)(s s':DS):Prop
 |born (hc:o.op.cls=.born) (e:s'=⟨s.fr.put o.dst (.ptr s.nk 0 0),s.h,Nat.succ s.nk,s.hs,s.rds⟩)
 |acts (hc:o.op.cls=.acts) (fr:AF) (h:AH) (q:dL o call s.fr s.h=some (.normal,fr,h)) (e:s'=⟨fr,h,s.nk,s.hs++[h],s.rds⟩)
 |still (hc:o.op.cls=.still) (fr:AF) (h:AH) (q:dL o call s.fr s.h=some (.normal,fr,h)) (e:s'=⟨fr,s.h,s.nk,s.hs,s.rds⟩)
 |reads (hc:o.op.cls=.reads) (v:AV) (h:AH) (hw:wants o.guard s.fr.tm=some true) (q:evOp o.op s.fr.tm s.h=.val v h)
   (e:s'=⟨s.fr.put o.dst v,s.h,s.nk,s.hs,cond (Nat.beq d.lo d.hi) s.rds (⟨s.fr.tm,o.op,v,d.lo,d.hi⟩::s.rds)⟩)
 |skip (hc:o.op.cls=.reads) (hw:wants o.guard s.fr.tm=some false) (e:s'=⟨s.fr.put o.dst (.tup []),s.h,s.nk,s.hs,s.rds⟩)
def DPan (call:aQ)(all tl:List (aV×DI))(o:aV)(d:DI)(s:DS)(r:AEx×AF×AH):Prop:=
 o.op.cls=.acts/\∃ v fr h,dL o call s.fr s.h=some (.panic v,fr,h)/\Pa call all tl d.fin s v fr h=some r
theorem drawStep_some {call:aQ}{all tl:List (aV×DI)}{o:aV}{d:DI}{s:DS}{k:DS->RX}{r:AEx×AF×AH}(q:oR o.op.cls call all tl o d s k=some r):
  (∃ s',xp call o d s s'/\k s'=some r)∨DPan call all tl o d s r:=by
 cases hc:o.op.cls with
 |born=>rw[hc]at q;exact .inl ⟨_,.born hc rfl,q⟩
 |acts=>
  rw[hc]at q;obtain⟨⟨e,fr,h⟩,q1,q⟩:=aA (show aD (dL o call s.fr s.h) _=_ from q);cases e with
  |normal=>exact .inl ⟨_,.acts hc fr h q1 rfl,q⟩
  |panic v=>exact .inr ⟨hc,v,fr,h,q1,q⟩
  |exit id=>cases q
  |ret=>cases q
 |still=>
  rw[hc]at q;obtain⟨⟨e,fr,h⟩,q1,q⟩:=aA (show aD (dL o call s.fr s.h) _=_ from q);cases e with
  |normal=>exact .inl ⟨_,.still hc fr h q1 rfl,q⟩
  |panic v=>cases q
  |exit id=>cases q
  |ret=>cases q
 |reads=>
  rw[hc]at q;obtain⟨x,hw,q⟩:=aA (show aD (wants o.guard s.fr.tm) _=_ from q);cases x with
  |false=>exact .inl ⟨_,.skip hc hw rfl,q⟩
  |true=>
   have q:lV (evOp o.op s.fr.tm s.h) s o d k=some r:=q;cases hr:evOp o.op s.fr.tm s.h with
   |val v h=>rw[hr]at q;exact .inl ⟨_,.reads hc v h hw hr rfl,q⟩
   |_=>rw[hr]at q;cases q
theorem CL (p:aV×DI)(l:List (aV×DI))(call:aQ)(all:List (aV×DI))(s:DS):ji (p::l) call all s=oR p.1.op.cls call all l p.1 p.2 s (ji l call all):=rfl
structure DRun (call:aQ)(all l:List (aV×DI))(s:DS)(r:AEx×AF×AH)(st:Nat->DS)(p:Nat):Prop where
 start:st 0=s
 le:p<=l.length
 step:∀ i o d,i<p->l[i]?=some (o,d)->xp call o d (st i) (st (i+1))
 fin:(p=l.length/\Bo (st p)=some r)∨∃ o d,l[p]?=some (o,d)/\DPan call all (l.drop (p+1)) o d (st p) r
theorem EX {call:aQ}{all:List (aV×DI)}: ∀ (l:List (aV×DI)) {s:DS} {r:AEx×AF×AH},ji l call all s=some r->∃ st p,DRun call all l s r st p
 |[],s,r,q=>⟨fun _=>s,0,rfl,e_ _,fun i o d h=>by omega,.inl ⟨rfl,q⟩⟩
 |(o,d)::l,s,r,q=>by
  rw[CL]at q;rcases drawStep_some q with⟨s',hs,q⟩|hp
  ·obtain⟨st,p,R⟩:=EX l q;refine⟨fun i=>match i with|0=>s|i+1=>st i,p+1,rfl,by simp;exact R.le,?_,?_⟩
   ·intro i o' d' hi hg;cases i with
    |zero=>simp at hg;obtain⟨rfl,rfl⟩:=hg;show xp call o d s (st 0);rw[R.start];exact hs
    |succ i=>exact R.step i o' d' o_ (by simpa using hg)
   ·rcases R.fin with⟨h1,h2⟩|⟨o',d',h1,h2⟩
    ·exact .inl ⟨by simp[h1],h2⟩
    ·exact .inr ⟨o',d',by simpa using h1,h2⟩
  ·exact⟨fun _=>s,0,rfl,Nat.zero_le _,fun i o d h=>by omega,.inr ⟨o,d,rfl,hp⟩⟩
structure abg (call:aQ)(c:Nat)(l:List (aV×DI))(s:DS)(st:Nat->DS):Prop where
 start:st 0=s
 step:∀ i o d,l[i]?=some (o,d)->(c<d.lo/\o.op.cls≠.born/\st (i+1)=st i)∨(d.lo<=c/\o.op.cls≠.acts/\xp call o d (st i) (st (i+1)))
 fin:rdsOk (st l.length).rds (st l.length).hs=true
theorem xz {call:aQ}{o:aV}{d:DI}{s:DS}{k:DS->RX}{r:AEx×AF×AH}(q:rK o.op.cls call o d s k=some r):o.op.cls≠.acts/\∃ s',xp call o d s s'/\k s'=some r:=by
 cases hc:o.op.cls with
 |acts=>rw[hc]at q;cases q
 |_=>
  have q':oR o.op.cls call [] [] o d s k=some r:=by rw[hc]at q ⊢;exact q
  rcases drawStep_some q' with h|⟨h,_⟩
  ·exact⟨(by intro e;cases e),h⟩
  ·rw[hc]at h;cases h
theorem CH (p:aV×DI)(l:List (aV×DI))(call:aQ)(c:Nat)(s:DS):evRest (p::l) call c s=cond (Nat.blt c p.2.lo) (cond (Hr p.1.op.cls) none (evRest l call c s)) (rK p.1.op.cls call p.1 p.2 s (evRest l call c)):=rfl
theorem Eo {call:aQ}{c:Nat}: ∀ (l:List (aV×DI)) {s:DS} {r:AEx×AF×AH},evRest l call c s=some r->∃ st,abg call c l s st
 |[],s,r,q=>by
  obtain⟨h,_⟩:=aN (show cond (rdsOk s.rds s.hs) _ none=_ from q);exact⟨fun _=>s,rfl,fun i o d h=>by simp at h,h⟩
 |(o,d)::l,s,r,q=>by
  rw[CH]at q;have key:∃ s',evRest l call c s'=some r/\((c<d.lo/\o.op.cls≠.born/\s'=s)∨(d.lo<=c/\o.op.cls≠.acts/\xp call o d s s')):=by
   cases hb:Nat.blt c d.lo with
   |true=>
    rw[show Nat.blt c (o,d).2.lo=true from hb]at q;cases hc:o.op.cls with
    |born=>rw[show((o,d):aV×DI).1.op.cls=.born from hc]at q;cases q
    |_=>
     rw[show((o,d):aV×DI).1.op.cls=_ from hc]at q;exact⟨s,q,.inl ⟨iF hb,(by intro e;cases e),rfl⟩⟩
   |false=>
    rw[show Nat.blt c (o,d).2.lo=false from hb]at q;obtain⟨h1,s',h2,h3⟩:=xz q;refine⟨s',h3,.inr ⟨?_,h1,h2⟩⟩;rcases Nat.lt_or_ge c d.lo with h|h
    ·have:Nat.blt c d.lo=true:=Nat.ble_eq_true_of_le h;rw[this]at hb;cases hb
    ·exact h
  obtain⟨s',q,hs⟩:=key;obtain⟨st,R⟩:=Eo l q;refine⟨fun i=>match i with|0=>s|i+1=>st i,rfl,?_,R.fin⟩;intro i o' d' hg;cases i with
  |zero=>
   simp at hg;obtain⟨rfl,rfl⟩:=hg;show(_/\_/\st 0=s)∨(_/\_/\xp call o d s (st 0));rw[R.start];exact hs
  |succ i=>exact R.step i o' d' (by simpa using hg)
def qg (call:aQ)(o:aV)(s:DS)(v:AV)(h:AH):Prop:=∀ cx,dL o call ⟨s.fr.tm,cx⟩ h=some (.normal,⟨ez o.dst s.fr.tm v,cx⟩,h)
structure sU (call:aQ)(o:aV)(d:DI)(s s':DS)(v:AV):Prop where
 tm:s'.fr.tm=ez o.dst s.fr.tm v
 nonact:o.op.cls≠.acts->s'.h=s.h/\s'.fr.cx=s.fr.cx/\s'.hs=s.hs
 act:o.op.cls=.acts->s'.hs=s.hs++[s'.h]/\∀ tm',xq o s.fr.tm tm'->dL o call ⟨tm',s.fr.cx⟩ s.h=some (.normal,⟨ez o.dst tm' v,s'.fr.cx⟩,s'.h)
 born:o.op.cls=.born->v=.ptr s.nk 0 0/\s'.nk=s.nk+1
 nk:o.op.cls≠.born->s'.nk=s.nk
 still:o.op.cls=.still->∀ h,qg call o s v h
 rds:∀ x∈s.rds,x∈s'.rds
 reads:o.op.cls=.reads->qg call o s v s.h/\(d.lo=d.hi∨(∀ h,qg call o s v h)∨
  (wants o.guard s.fr.tm=some true/\∃ hi,d.hi<=hi/\(⟨s.fr.tm,o.op,v,d.lo,hi⟩:Rd)∈s'.rds))
theorem wv {call:aQ}{o:aV}{s:DS}{v:AV}{h:AH}(hw:wants o.guard s.fr.tm=some true)(q:evOp o.op s.fr.tm h=.val v h):qg call o s v h:=fun cx=>by
 show aD (wants o.guard s.fr.tm) _=_;rw[hw];show jh (evOp o.op s.fr.tm h) call o.dst ⟨s.fr.tm,cx⟩ h=_;rw[q];rfl
theorem te {call:aQ}{o:aV}{s:DS}{h:AH}(hw:wants o.guard s.fr.tm=some false):qg call o s (.tup []) h:=fun cx=>by
 show aD (wants o.guard s.fr.tm) _=_;rw[hw];rfl
theorem afw {call:aQ}{o:aV}{d:DI}{s s':DS}(st:xp call o d s s'):∃ v,sU call o d s s' v:=by
 cases st with
 |born hc e=>
  subst e;refine⟨.ptr s.nk 0 0,xI _ _ _,fun _=>⟨rfl,kx _ _ _,rfl⟩,fun h=>?_,fun _=>⟨rfl,rfl⟩,fun h=>absurd hc h,fun h=>?_,fun x hx=>hx,fun h=>?_⟩
  all_goals (rw[hc]at h;cases h)
 |acts hc fr h q e=>
  subst e;obtain⟨⟨tm,cx⟩,_⟩:=s;obtain⟨v,h1,h2⟩:=jK q;refine⟨v,h1,fun h=>absurd hc h,fun _=>⟨rfl,h2⟩,fun h=>?_,fun _=>rfl,fun h=>?_,fun x hx=>hx,fun h=>?_⟩
  all_goals (rw[hc]at h;cases h)
 |still hc fr h q e=>
  subst e;obtain⟨⟨tm,cx⟩,hh,nk,hs,rds⟩:=s;have key:∃ v,fr=⟨ez o.dst tm v,cx⟩/\∀ h2,qg call o ⟨⟨tm,cx⟩,hh,nk,hs,rds⟩ v h2:=by
   obtain⟨x,hw,q⟩:=aA (show aD (wants o.guard tm) _=_ from q);cases x with
   |false=>cases q;exact⟨.tup [],rfl,fun h2=>te hw⟩
   |true=>
    have q:jh (evOp o.op tm hh) call o.dst ⟨tm,cx⟩ hh=some (.normal,fr,h):=q;have hvb:=sK tm hh (Uk (.inl hc));cases hr:evOp o.op tm hh<;>rw[hr]at q hvb<;>first|(cases hvb;done)|(cases q;done)|skip
    case val v h1=>
     cases q;exact⟨v,rfl,fun h2=>wv hw (Ul hc hr h2).2⟩
  obtain⟨v,rfl,hR⟩:=key;refine⟨v,rfl,fun _=>⟨rfl,rfl,rfl⟩,fun h=>?_,fun h=>?_,fun _=>rfl,fun _=>hR,fun x hx=>hx,fun h=>?_⟩
  all_goals (rw[hc]at h;cases h)
 |reads hc v h hw q e=>
  have hh:=Ep hc q;rw[hh]at q;subst e;refine⟨v,xI _ _ _,fun _=>⟨rfl,kx _ _ _,rfl⟩,fun h=>?_,fun h=>?_,fun _=>rfl,fun h=>?_,fun x hx=>?_,fun _=>⟨wv hw q,?_⟩⟩
  ·rw[hc]at h;cases h
  ·rw[hc]at h;cases h
  ·rw[hc]at h;cases h
  ·show x∈cond (Nat.beq d.lo d.hi) s.rds _;cases Nat.beq d.lo d.hi
   ·exact List.mem_cons_of_mem _ hx
   ·exact hx
  ·cases hb:Nat.beq d.lo d.hi with
   |true=>exact .inl (beq_eq hb)
   |false=>
    refine .inr (.inr ⟨hw,d.hi,e_ _,?_⟩);exact List.mem_cons_self ..
 |skip hc hw e=>
  subst e;refine⟨.tup [],xI _ _ _,fun _=>⟨rfl,kx _ _ _,rfl⟩,fun h=>?_,fun h=>?_,fun _=>rfl,fun h=>?_,fun x hx=>hx,fun _=>⟨te hw,.inr (.inl fun h=>te hw)⟩⟩
  all_goals (rw[hc]at h;cases h)
theorem xA (h:AH)(l:List AH)(r:Rd)(m:Nat):gJ (h::l) r m=and (or (Nat.blt m r.lo) (or (Nat.blt r.hi m) (pH (evOp r.op r.tm h) r.v))) (gJ l r (m+1)):=rfl
theorem qQ {r:Rd}: ∀ (l:List AH) (m:Nat),gJ l r m=true->∀ k h,l[k]?=some h->r.lo<=m+k->m+k<=r.hi->pH (evOp r.op r.tm h) r.v=true
 |[],m,_,k,h,hk,_,_=>by simp at hk
 |a::l,m,q,k,h,hk,h1,h2=>by
  rw[xA]at q;obtain⟨q1,q2⟩:=cR q;cases k with
  |zero=>
   simp at hk;subst hk;have e1:Nat.blt m r.lo=false:=by cases hb:Nat.blt m r.lo with
    |false=>rfl
    |true=>have:=iF hb;omega
   have e2:Nat.blt r.hi m=false:=by cases hb:Nat.blt r.hi m with
    |false=>rfl
    |true=>have:=iF hb;omega
   rw[e1,e2]at q1;exact q1
  |succ k=>exact qQ l (m+1) q2 k h (by simpa using hk) o_ o_
theorem yA:∀ {l:List Rd} {hs:List AH},rdsOk l hs=true->∀ r∈l,gJ hs r 0=true
 |[],hs,_,r,h=>by simp at h
 |a::l,hs,q,r,h=>by
  obtain⟨q1,q2⟩:=cR (show and (gJ hs a 0) (rdsOk l hs)=true from q);cases h with
  |head=>exact q1
  |tail _ h=>exact yA q2 r h
theorem FG {r:OpR}{v:AV}(h:pH r v=true):∃ h1,r=.val v h1:=by
 cases r with
 |val u h1=>exact⟨h1,by rw[AV.beq_eq u v h]⟩
 |_=>cases h
theorem abX {call:aQ}{o:aV}{d:DI}{s s':DS}{v:AV}{rds:List Rd}{hs:List AH}(F:sU call o d s s' v)(hc:o.op.cls=.reads)(hr:∀ x∈s'.rds,x∈rds)(hok:rdsOk rds hs=true)
  {m:Nat} {h:AH} (hm:hs[m]?=some h) (h1:d.lo<=m) (h2:m<=d.hi) (hsame:d.lo=d.hi->h=s.h):qg call o s v h:=by
 obtain⟨r1,r2⟩:=F.reads hc;rcases r2 with e|r2|⟨hw,hi,hle,r2⟩
 ·rw[hsame e];exact r1
 ·exact r2 h
 ·have:=qQ hs 0 (yA hok _ (hr _ r2)) m h hm (by simpa using h1) (by simpa using Nat.le_trans h2 hle);obtain⟨h1,hq⟩:=FG this;have hq:evOp o.op s.fr.tm h=.val v h1:=hq;have:=Ep hc hq;rw[this]at hq;exact wv hw hq
def dX (ps:List Nat)(i j:Nat):Prop:=((ps[j]?).getD 0).testBit i=true
structure fU (C:Cx)(nt:Nat)(ops:Array Oper)(l:List aV)(ps:List Nat)(ss:List OS):Prop where
 len:l.length=ops.size
 slen:ss.length=l.length
 pres:ahG ops.toList ps
 sum:∀ (i:Nat) (x:OS),ss[i]?=some x->∃ ao p,l[i]?=some ao/\ps[i]?=some p/\x=⟨p,ig ao.dst,looks ao,pC ao.op.cls⟩
 pair:∀ (i j:Nat) (x y:aV),i<j->l[i]?=some x->l[j]?=some y->dX ps i j∨
  ((∀ t,x.dst=some t->(looks y).testBit t=false/\y.dst≠some t)/\(∀ t,y.dst=some t->(looks x).testBit t=false)/\¬ (x.op.cls=.acts/\y.op.cls=.acts))
 born:∀ (i:Nat) (o:aV),l[i]?=some o->o.op.cls=.born->o.guard=none
theorem jM {d:Option Nat}{t:Nat}(h:d=some t):(ig d).testBit t=true:=by
 subst h;show(gw 0 t).testBit t=true;rw[ik];simp
theorem po (c:Cls):pC c=true↔c=.acts:=by cases c<;>simp[pC]
theorem ab5 {C:Cx}{nt:Nat}{ops:Array Oper}{l:List aV}(hc:hX (zm C.P C.T C.kw nt ops.toList) ops.toList=some l)(i:Nat)(o:Oper)(ao:aV)(ho:ops[i]?=some o)(ha:l[i]?=some ao):uf C nt ops.toList o ao:=by
 obtain⟨o',h1,h2⟩:=tp hc ha;have h1:ops[i]?=some o':=by simpa using h1
 rw[ho]at h1;cases h1;exact yX h2
theorem ab6 {C:Cx}{nt:Nat}{ops:Array Oper}{l:List aV}{ps:List Nat}(hc:hX (zm C.P C.T C.kw nt ops.toList) ops.toList=some l)(hp:kX ops.toList 0 []=some ps)
  (hpair:sA (lY l ps) []=true) (hb:vW l=true):fU C nt ops l ps (lY l ps):=by
 have hlen:l.length=ops.size:=by rw[tL hc];simp
 have P:=ab4 hp;have hpl:ps.length=l.length:=by rw[P.len,hlen];simp
 obtain⟨s1,s2⟩:=Dy l ps hpl;refine⟨hlen,s1,P,fun i x hx=>?_,fun i j x y hij hx hy=>?_,fun i o ho hcl=>tX l hb i o ho hcl⟩
 ·have hi:i<l.length:=by rw[<- s1];exact(E_.1 hx).1
  have h1:=s2 i l[i] ps[i] (a_ hi) (a_ o_);rw[hx]at h1;exact⟨l[i],ps[i],a_ hi,a_ o_,by cases h1;rfl⟩
 ·have hi:i<l.length:=(E_.1 hx).1;have hj:j<l.length:=(E_.1 hy).1;have e1:=s2 i x ps[i] hx (a_ o_);have e2:=s2 j y ps[j] hy (a_ o_);have:=tK (lY l ps) [] hpair i j _ _ hij (Nat.zero_le _) (by simpa using e1) (by simpa using e2);simp only[Bool.or_eq_true]at this;rcases this with h|h
  ·left;rw[kO]at h;unfold dX;rw[a_ (show j<ps.length by omega)];exact h
  ·right;simp only[xU,Bool.and_eq_true,Bool.not_eq_true']at h;obtain⟨⟨h1,h2⟩,h3⟩:=h;refine⟨fun t ht=>⟨?_,fun hd=>?_⟩,fun t ht=>?_,fun⟨ha,hb⟩=>?_⟩
   ·cases hl:(looks y).testBit t with
    |false=>rfl
    |true=>exact(sW h1 (jM ht) (by show((looks y) ||| (ig y.dst)).testBit t=true;rw[Nat.testBit_or,hl];rfl)).elim
   ·exact sW h1 (jM ht) (by show((looks y) ||| (ig y.dst)).testBit t=true;rw[Nat.testBit_or,jM hd,Bool.or_true])
   ·cases hl:(looks x).testBit t with
    |false=>rfl
    |true=>exact(sW h2 (jM ht) hl).elim
   ·rw[ha,hb]at h3;cases h3
theorem eK (d:Option Nat)(tm:Tm)(v:AV)(t:Nat):nth (ez d tm v) t=if d=some t then v else nth tm t:=by
 cases d with
 |none=>simp[ez]
 |some d=>
  show nth (tm.put d v) t=_;rw[vM];by_cases h:t=d
  ·subst h;simp
  ·have:¬ d=t:=fun q=>h q.symm
   simp[h,this]
def iu (dst:Nat->Option Nat)(v:Nat->AV)(tm0:Tm)(S:Nat->Bool):Nat->Tm
 |0=>tm0
 |m+1=>if S m then ez (dst m) (iu dst v tm0 S m) (v m) else iu dst v tm0 S m
def dh (l:List aV)(i:Nat):Option Nat:=(l[i]?).bind (·.dst)
def js (S:Nat->Bool)(i:Nat):Nat->Bool:=fun j=>if j=i then true else S j
section
variable {C:Cx}{nt:Nat}{ops:Array Oper}{l:List aV}{ps:List Nat}{ss:List OS}{v:Nat->AV}{tm0:Tm}{S:Nat->Bool}
def jF (ops:Array Oper)(S:Nat->Bool):Prop:=∀ (i:Nat) (o:Oper),ops[i]?=some o->S i=true->∀ j∈dO o,S j=true
def qK (ops:Array Oper)(S:Nat->Bool)(i:Nat):Prop:=S i=false/\∃ o,ops[i]?=some o/\∀ j∈dO o,S j=true
theorem fU.pre (P:fU C nt ops l ps ss)(hS:jF ops S){i j:Nat}{o:Oper}(ho:ops[i]?=some o)(hr:∀ j∈dO o,S j=true)(hb:dX ps j i):S j=true:=by
 unfold dX at hb;cases hp:ps[i]? with
 |none=>rw[hp]at hb;simp at hb
 |some p=>
  rw[hp]at hb;exact P.pres.closed (S:=S) (fun i o ho=>hS i o (by simpa using ho)) i o p (by simpa using ho) hp hr j hb
theorem fU.before (P:fU C nt ops l ps ss)(hS:jF ops S){i j:Nat}(hi:i<ops.size)(hm:S i=true)(hb:dX ps j i):S j=true:=
 P.pre hS (Array.getElem?_eq_getElem hi) (hS i _ (Array.getElem?_eq_getElem hi) hm) hb
theorem dG (dst:Nat->Option Nat)(m:Nat):iu dst v tm0 S (m+1)=if S m then ez (dst m) (iu dst v tm0 S m) (v m) else iu dst v tm0 S m:=rfl
theorem fU.agree (P:fU C nt ops l ps ss)(hS:jF ops S){i:Nat}{ao:aV}(hl:l[i]?=some ao)(hr:qK ops S i):
  xq ao (iu (dh l) v tm0 (fun _=>true) i) (iu (dh l) v tm0 S l.length):=by
 intro t ht;obtain⟨hni,o,ho,hd⟩:=hr;have key:∀ m,m<=l.length->nth (iu (dh l) v tm0 S m) t=nth (iu (dh l) v tm0 (fun _=>true) (min m i)) t:=by
  intro m;induction m with
  |zero=>intro _;rw[Nat.zero_min];rfl
  |succ m ih=>
   intro hm;have ih:=ih o_;have hml:m<l.length:=o_;have hx:l[m]?=some l[m]:=a_ hml;have hdm:dh l m=l[m].dst:=by unfold dh;rw[hx];rfl
   rw[dG,hdm];rcases Nat.lt_trichotomy m i with hlt|heq|hgt
   ·rw[show min (m+1) i=m+1 by omega,dG,P_ rfl,hdm];rw[show min m i=m by omega]at ih;by_cases hdt:l[m].dst=some t
    ·have hSm:S m=true:=by
      rcases P.pair m i _ _ hlt hx hl with hb|⟨h1,_,_⟩
      ·exact P.pre hS ho hd hb
      ·have:=(h1 t hdt).1;rw[ht]at this;cases this
     rw[P_ hSm,eK,eK,P_ hdt,P_ hdt]
    ·cases hSm:S m with
     |true=>rw[P_ rfl,eK,eK,N_ hdt,N_ hdt];exact ih
     |false=>rw[N_ (by simp),eK,N_ hdt];exact ih
   ·subst heq;rw[hni,N_ (by simp),show min (m+1) m=m by omega];rw[show min m m=m by omega]at ih;exact ih
   ·rw[show min (m+1) i=i by omega];rw[show min m i=i by omega]at ih;by_cases hdt:l[m].dst=some t
    ·have hSm:S m=false:=by
      cases hSm:S m with
      |false=>rfl
      |true=>
       rcases P.pair i m _ _ hgt hl hx with hb|⟨_,h2,_⟩
       ·have:=P.before hS (by rw[<- P.len];exact hml) hSm hb;rw[hni]at this;cases this
       ·have:=h2 t hdt;rw[ht]at this;cases this
     rw[hSm,N_ (by simp)];exact ih
    ·cases hSm:S m with
     |true=>rw[P_ rfl,eK,N_ hdt];exact ih
     |false=>rw[N_ (by simp)];exact ih
 have hi:i<l.length:=(E_.1 hl).1;have:=key l.length (e_ _);rw[show min l.length i=i by omega]at this;exact this.symm
theorem fU.put (P:fU C nt ops l ps ss)(hS:jF ops S){i:Nat}{ao:aV}(hl:l[i]?=some ao)(hr:qK ops S i)(t:Nat):
  nth (iu (dh l) v tm0 (js S i) l.length) t=nth (ez ao.dst (iu (dh l) v tm0 S l.length) (v i)) t:=by
 obtain⟨hni,o,ho,hd⟩:=hr;have hi:i<l.length:=(E_.1 hl).1;have hdi:dh l i=ao.dst:=by unfold dh;rw[hl];rfl
 have low:∀ m,m<=i->iu (dh l) v tm0 (js S i) m=iu (dh l) v tm0 S m:=by
  intro m;induction m with
  |zero=>intro _;rfl
  |succ m ih=>
          intro hm;rw[dG,dG,ih o_];have:js S i m=S m:=by simp[js,show m≠i by omega]
          rw[this]
 have high:∀ m,i+1+m<=l.length->nth (iu (dh l) v tm0 (js S i) (i+1+m)) t=nth (ez ao.dst (iu (dh l) v tm0 S (i+1+m)) (v i)) t:=by
  intro m;induction m with
  |zero=>
   intro _;have:js S i i=true:=by simp[js]
   rw[Nat.add_zero,dG,dG,P_ this,hni,N_ (c:=false=true) (by simp),low i (e_ _),hdi]
  |succ m ih=>
   intro hm;have ih:=ih o_;have hml:i+1+m<l.length:=o_;have hx:l[i+1+m]?=some l[i+1+m]:=a_ hml;have hdm:dh l (i+1+m)=l[i+1+m].dst:=by unfold dh;rw[hx];rfl
   rw[show i+1+(m+1)=(i+1+m)+1 by omega,dG,dG,hdm];have:js S i (i+1+m)=S (i+1+m):=by simp[js,show i+1+m≠i by omega]
   rw[this];cases hSm:S (i+1+m) with
   |false=>rw[N_ (by simp),N_ (by simp)];exact ih
   |true=>
    rw[P_ rfl,P_ rfl,eK,eK,eK,ih,eK];by_cases h1:l[i+1+m].dst=some t
    ·by_cases h2:ao.dst=some t
     ·exfalso;rcases P.pair i (i+1+m) _ _ o_ hl hx with hb|⟨h3,_,_⟩
      ·have:=P.before hS (by rw[<- P.len];exact hml) hSm hb;rw[hni]at this;cases this
      ·exact(h3 t h2).2 h1
     ·rw[P_ h1,N_ h2,P_ h1]
    ·rw[N_ h1];by_cases h2:ao.dst=some t
     ·rw[P_ h2,P_ h2]
     ·rw[N_ h2,N_ h2,N_ h1]
 have:=high (l.length-(i+1)) o_;rw[show i+1+(l.length-(i+1))=l.length by omega]at this;exact this
end
def cS (ss:List OS)(S:Nat->Bool):Nat:=eG (fun k y=>y.acts&&S k) ss 0
def na (ss:List OS)(i:Nat):Nat:=cS ss fun k=>decide (k<i)
section
variable {C:Cx}{nt:Nat}{ops:Array Oper}{l:List aV}{ps:List Nat}{ss:List OS}{S:Nat->Bool}
theorem fU.ss_get (P:fU C nt ops l ps ss){i:Nat}{ao:aV}(hl:l[i]?=some ao):∃ x p,ss[i]?=some x/\ps[i]?=some p/\x=⟨p,ig ao.dst,looks ao,pC ao.op.cls⟩:=by
 have hi:i<ss.length:=by rw[P.slen];exact(E_.1 hl).1
 have hx:=a_ hi;obtain⟨ao',p,h1,h2,h3⟩:=P.sum i _ hx;rw[hl]at h1;cases h1;exact⟨_,p,hx,h2,h3⟩
theorem oS {S':Nat->Bool}(P:fU C nt ops l ps ss)(h:∀ (i:Nat) (ao:aV),l[i]?=some ao->ao.op.cls=.acts->S i=S' i):cS ss S=cS ss S':=by
 refine iV ss 0 fun k x hx=>?_
 rw[z_];obtain⟨ao,p,h1,h2,h3⟩:=P.sum k x hx;cases ha:x.acts with
 |false=>rfl
 |true=>
  subst h3;have:=(po _).1 ha;rw[h k ao h1 this]
theorem Zq (P:fU C nt ops l ps ss){i:Nat}{ao:aV}(hl:l[i]?=some ao)(hn:S i=false):cS ss (js S i)=if ao.op.cls=.acts then cS ss S+1 else cS ss S:=by
 by_cases hc:ao.op.cls=.acts
 ·rw[P_ hc];obtain⟨x,p,h1,h2,h3⟩:=P.ss_get hl;refine tV ss 0 i x h1 ?_ ?_ fun k y hk hy=>?_
  ·rw[z_,hn];simp
  ·rw[z_,h3];simp[js,(po _).2 hc]
  ·rw[z_];simp[js,hk]
 ·rw[N_ hc];refine oS P fun j aj hj hcj=>?_
  by_cases hji:j=i
  ·subst hji;rw[hl]at hj;cases hj;exact absurd hcj hc
  ·simp[js,hji]
theorem vO (P:fU C nt ops l ps ss){i:Nat}{ao:aV}(hl:l[i]?=some ao):na ss (i+1)=if ao.op.cls=.acts then na ss i+1 else na ss i:=by
 have e:(fun k=>decide (k<i+1))=js (fun k=>decide (k<i)) i:=by
  funext k;unfold js;by_cases h:k=i
  ·simp[h]
  ·simp[h];omega
 unfold na;rw[e];exact Zq P hl (by simp)
theorem OF {i j:Nat}(h:i<=j):na ss i<=na ss j:=
 fA ss 0 fun k x _ q=>by
  simp only[Bool.and_eq_true,decide_eq_true_eq]at q ⊢;exact⟨q.1,o_⟩
theorem fU.count_act (P:fU C nt ops l ps ss)(hS:jF ops S){i:Nat}{ao:aV}(hl:l[i]?=some ao)(hc:ao.op.cls=.acts)(hr:qK ops S i):cS ss S=na ss i:=by
 obtain⟨hni,o,ho,hd⟩:=hr;refine oS P fun j aj hj hcj=>?_
 rcases Nat.lt_trichotomy j i with h|h|h
 ·rcases P.pair j i _ _ h hj hl with hb|⟨_,_,hn⟩
  ·rw[P.pre hS ho hd hb];simp[h]
  ·exact absurd ⟨hcj,hc⟩ hn
 ·subst h;rw[hni];simp
 ·have:S j=false:=by
   cases hSj:S j with
   |false=>rfl
   |true=>
    rcases P.pair i j _ _ h hl hj with hb|⟨_,_,hn⟩
    ·have:=P.before hS (by rw[<- P.len];exact(E_.1 hj).1) hSj hb;rw[hni]at this;cases this
    ·exact absurd ⟨hc,hcj⟩ hn
  rw[this];simp;omega
theorem fU.count_le (P:fU C nt ops l ps ss)(hS:jF ops S){i:Nat}{x:OS}(hx:ss[i]?=some x)(hr:qK ops S i):(mK ss i x).lo<=cS ss S/\cS ss S<=(mK ss i x).hi:=by
 obtain⟨hni,o,ho,hd⟩:=hr;obtain⟨ao,p,h1,h2,h3⟩:=P.sum i x hx;constructor
 ·refine fA ss 0 fun k y _ q=>?_
  rw[z_]at q ⊢;simp only[Bool.and_eq_true]at q ⊢;refine⟨q.1,P.pre hS ho hd ?_⟩;unfold dX;rw[h2,<- kO];have:=q.2;rw[h3]at this;exact this
 ·refine fA ss 0 fun k y hy q=>?_
  rw[z_]at q;simp only[Bool.and_eq_true,Bool.not_eq_true']at q ⊢;refine⟨q.1,?_⟩;cases hb:bit y.pre i with
  |false=>rfl
  |true=>
   obtain⟨ak,pk,k1,k2,k3⟩:=P.sum k y hy;have hbf:dX ps i k:=by
    unfold dX;rw[k2,<- kO];rw[k3]at hb;exact hb
   have:=P.before hS (by rw[<- P.len];exact(E_.1 k1).1) q.2 hbf;rw[hni]at this;cases this
theorem fU.closed_lt (P:fU C nt ops l ps ss)(i:Nat):jF ops fun k=>decide (k<i):=by
 intro j o ho hj k hk;have:=P.pres.back j o (by simpa using ho) k hk;simp at hj ⊢;omega
theorem fU.ready_lt (P:fU C nt ops l ps ss){i:Nat}(hi:i<ops.size):qK ops (fun k=>decide (k<i)) i:=by
 refine⟨by simp,ops[i],Array.getElem?_eq_getElem hi,fun k hk=>?_⟩;have:=P.pres.back i ops[i] (by simp) k hk;simpa using this
theorem fU.add_closed (hS:jF ops S){i:Nat}(hr:qK ops S i):jF ops (js S i):=by
 intro j o ho hj k hk;obtain⟨hni,o',ho',hd⟩:=hr;by_cases h:j=i
 ·subst h;rw[ho]at ho';cases ho';have:=hd k hk;unfold js;split<;>first|rfl|exact this
 ·have:S j=true:=by simpa [js,h] using hj
  have:=hS j o ho this k hk;unfold js;split<;>first|rfl|exact this
end
section
variable {C:Cx}{nt:Nat}{ops:Array Oper}{l:List aV}{ps:List Nat}{ss:List OS}{S:Nat->Bool}{call:aQ}{s:DS}{r:AEx×AF×AH}{st:Nat->DS}{p:Nat}{v:Nat->AV}
structure Run (call:aQ)(l:List aV)(ss:List OS)(st:Nat->DS)(p:Nat)(v:Nat->AV):Prop where
 le:p<=l.length
 fact:∀ (i:Nat) (ao:aV) (x:OS),i<p->l[i]?=some ao->ss[i]?=some x->sU call ao (mK ss i x) (st i) (st (i+1)) (v i)
theorem ah2 (P:fU C nt ops l ps ss){all:List (aV×DI)}(R:DRun call all (ku ss l 0 ss) s r st p):∃ v,Run call l ss st p v:=by
 obtain⟨w1,w2⟩:=jZ ss l 0 ss P.slen;have:∀ i,∃ u,∀ (ao:aV) (x:OS),i<p->l[i]?=some ao->ss[i]?=some x->sU call ao (mK ss i x) (st i) (st (i+1)) u:=by
  intro i;by_cases hi:i<p
  ·have hp:p<=l.length:=by have:=R.le;rw[w1]at this;exact this
   have hl:l[i]?=some l[i]:=a_ o_;have hs:ss[i]?=some (ss[i]'(by rw[P.slen];omega)):=a_ (by rw[P.slen];omega);have:=w2 i _ _ hl hs;rw[z_]at this;obtain⟨u,hu⟩:=afw (R.step i _ _ hi this);exact⟨u,fun ao x _ h1 h2=>by rw[hl]at h1;rw[hs]at h2;cases h1;cases h2;exact hu⟩
  ·exact⟨.any,fun ao x h=>absurd h hi⟩
 refine⟨fun i=>(this i).choose,by have:=R.le;rw[w1]at this;exact this,fun i ao x h1 h2 h3=>(this i).choose_spec ao x h1 h2 h3⟩
theorem Run.at (P:fU C nt ops l ps ss)(R:Run call l ss st p v){i:Nat}(hi:i<p):∃ ao x,l[i]?=some ao/\ss[i]?=some x/\sU call ao (mK ss i x) (st i) (st (i+1)) (v i):=by
 have hl:l[i]?=some (l[i]'(by have:=R.le;omega)):=a_ (by have:=R.le;omega);obtain⟨x,pp,h1,_,_⟩:=P.ss_get hl;exact⟨_,x,hl,h1,R.fact i _ x hi hl h1⟩
theorem Run.tm (P:fU C nt ops l ps ss)(R:Run call l ss st p v):∀ i,i<=p->(st i).fr.tm=iu (dh l) v (st 0).fr.tm (fun _=>true) i
 |0,_=>rfl
 |i+1,hi=>by
  obtain⟨ao,x,h1,h2,F⟩:=R.at P (i:=i) o_;have hd:dh l i=ao.dst:=by unfold dh;rw[h1];rfl
  rw[F.tm,dG,P_ rfl,hd,Run.tm P R i o_]
theorem Run.same (P:fU C nt ops l ps ss)(R:Run call l ss st p v){i:Nat}: ∀ m,i+m<=p->na ss i=na ss (i+m)->(st (i+m)).h=(st i).h/\(st (i+m)).fr.cx=(st i).fr.cx
 |0,_,_=>⟨rfl,rfl⟩
 |m+1,hm,he=>by
  have h1:na ss i<=na ss (i+m):=OF o_;have h2:na ss (i+m)<=na ss (i+(m+1)):=OF o_;obtain⟨a1,a2⟩:=Run.same P R (i:=i) m o_ o_;obtain⟨ao,x,l1,l2,F⟩:=R.at P (i:=i+m) o_;have hn:=vO P l1;have hna:ao.op.cls≠.acts:=by
   intro hc;rw[P_ hc]at hn;rw[show i+(m+1)=i+m+1 by omega]at h2 he;omega
  obtain⟨b1,b2,_⟩:=F.nonact hna;exact⟨b1.trans a1,b2.trans a2⟩
theorem Run.same' (P:fU C nt ops l ps ss)(R:Run call l ss st p v){i j:Nat}(hi:i<=p)(hj:j<=p)(he:na ss i=na ss j):(st i).h=(st j).h/\(st i).fr.cx=(st j).fr.cx:=by
 rcases Nat.le_total i j with h|h
 ·have:=R.same P (i:=i) (j-i) o_ (by rw[show i+(j-i)=j by omega];exact he);rw[show i+(j-i)=j by omega]at this;exact⟨this.1.symm,this.2.symm⟩
 ·have:=R.same P (i:=j) (i-j) o_ (by rw[show j+(i-j)=i by omega];exact he.symm);rw[show j+(i-j)=i by omega]at this;exact this
theorem Run.hs (P:fU C nt ops l ps ss)(R:Run call l ss st p v)(h0:(st 0).hs=[(st 0).h]):∀ i,i<=p->(st i).hs.length=na ss i+1/\(st i).hs[na ss i]?=some (st i).h
 |0,_=>by
  have:na ss 0=0:=by
   have h1:na ss 0=cS ss fun _=>false:=by unfold na;congr
   rw[h1];unfold cS;have:∀ (m:List OS) (j:Nat),eG (fun _ (y:OS)=>y.acts&&false) m j=0:=by
    intro m;induction m with
    |nil=>intro j;rfl
    |cons x m ih=>intro j;rw[dY,Bool.and_false];exact ih _
   exact this ss 0
  rw[this,h0];exact⟨rfl,rfl⟩
 |i+1,hi=>by
  obtain⟨a1,a2⟩:=Run.hs P R h0 i o_;obtain⟨ao,x,l1,l2,F⟩:=R.at P (i:=i) o_;have hn:=vO P l1;by_cases hc:ao.op.cls=.acts
  ·rw[P_ hc]at hn;rw[hn,(F.act hc).1];refine⟨by simp[a1],?_⟩;rw[List.getElem?_append_right o_,a1];simp
  ·rw[N_ hc]at hn;obtain⟨b1,_,b3⟩:=F.nonact hc;rw[hn,b3,b1];exact⟨a1,a2⟩
theorem Run.hsLater (P:fU C nt ops l ps ss)(R:Run call l ss st p v){i c:Nat}{x:AH}(h:(st i).hs[c]?=some x):∀ m,i+m<=p->(st (i+m)).hs[c]?=some x
 |0,_=>h
 |m+1,hm=>by
  have ih:=Run.hsLater P R h m o_;obtain⟨ao,y,l1,l2,F⟩:=R.at P (i:=i+m) o_;show(st (i+m+1)).hs[c]?=some x;by_cases hc:ao.op.cls=.acts
  ·rw[(F.act hc).1,List.getElem?_append_left (E_.1 ih).1];exact ih
  ·rw[(F.nonact hc).2.2];exact ih
theorem Run.rds (P:fU C nt ops l ps ss)(R:Run call l ss st p v){i:Nat}{x:Rd}(h:x∈(st i).rds):∀ m,i+m<=p->x∈(st (i+m)).rds
 |0,_=>h
 |m+1,hm=>by
  obtain⟨ao,y,l1,l2,F⟩:=R.at P (i:=i+m) o_;exact F.rds x (Run.rds P R h m o_)
theorem ab0 {d:Option Nat}{tm tm':Tm}{a b:AV}(h:ez d tm a=ez d tm b):ez d tm' a=ez d tm' b:=by
 cases d with
 |none=>rfl
 |some d=>
  have:nth (ez (some d) tm a) d=nth (ez (some d) tm b) d:=by rw[h]
  rw[eK,eK,P_ rfl,P_ rfl]at this;rw[this]
theorem Run.rest (P:fU C nt ops l ps ss)(R:Run call l ss st p v)(h0:(st 0).hs=[(st 0).h])(hok:rdsOk (st p).rds (st p).hs=true)(hS:jF ops S){i j:Nat}{ao:aV}(hi:i<p)(hl:l[i]?=some ao)(hr:qK ops S i)
  (hc:ao.op.cls=.still∨ao.op.cls=.reads) (hj:j<=p) (hcount:cS ss S=na ss j) (cx:AC) :
  dL ao call ⟨iu (dh l) v (st 0).fr.tm S l.length,cx⟩ (st j).h=some (.normal,⟨ez ao.dst (iu (dh l) v (st 0).fr.tm S l.length) (v i),cx⟩,(st j).h):=by
 obtain⟨ao',x,h1,h2,F⟩:=R.at P hi;rw[hl]at h1;cases h1;have hrest:qg call ao (st i) (v i) (st j).h:=by
  rcases hc with hc|hc
  ·exact F.still hc _
  ·have hb:=P.count_le hS h2 hr;have hi2:i<ops.size:=by rw[<- P.len];exact(E_.1 hl).1
   have hb':=P.count_le (P.closed_lt i) h2 (P.ready_lt hi2);obtain⟨_,q2⟩:=R.hs P h0 j hj;have q3:=R.hsLater P q2 (p-j) o_;rw[show j+(p-j)=p by omega]at q3;refine abX F hc (fun y hy=>?_) hok q3 (by rw[<- hcount];exact hb.1) (by rw[<- hcount];exact hb.2) fun e=>?_
   ·have:=R.rds P (i:=i+1) hy (p-(i+1)) o_;rw[show i+1+(p-(i+1))=p by omega]at this;exact this
   ·refine(R.same' P hj o_ ?_).1;have:na ss i=cS ss fun k=>decide (k<i):=rfl
    omega
 have ha:=P.agree (v:=v) (tm0:=(st 0).fr.tm) hS hl hr;rw[<- R.tm P i o_]at ha;obtain⟨u,q1,q2⟩:=jK (hrest cx);have q2:=q2 _ ha;have q1:ez ao.dst (st i).fr.tm (v i)=ez ao.dst (st i).fr.tm u:=q1;have q2:dL ao call ⟨iu (dh l) v (st 0).fr.tm S l.length,cx⟩ (st j).h=some (.normal,⟨ez ao.dst (iu (dh l) v (st 0).fr.tm S l.length) u,cx⟩,(st j).h):=q2;rw[q2,ab0 q1]
end
