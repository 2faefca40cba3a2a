/- MachineKeeps: graphs and their terms (no condition). -/
import Derived.Test.YtocdlbblemjabaaGreatDoorAy
namespace Go.Proofs.YtocdlbblemjabaaGreatDoor
open Go.AG Go.AG.MK
def dW (kind:Int):Int:=if kind=4∨kind=5∨kind=6∨kind=7 then 2 else if kind=8∨kind=11 then 3 else if kind=9∨kind=10 then 1 else 0
mutual
def eD:T->Int
 |.mk k i _ _ ks=>fw k 0 ks (if k=0 then i+1 else 0)
def fw (k:Int):Nat->List T->Int->Int
 |_,[],a=>a
 |j,t::l,a=>fw k (j+1) l (max a (eD t-cq k j))
end
theorem tQ (k:Int):∀ (l:List T) (j:Nat) (t:T) (a:Int),fw k j (l++[t]) a=max (fw k j l a) (eD t-cq k ((j+l.length:Nat):Int))
 |[],j,t,a=>by simp[fw]
 |x::l,j,t,a=>by
  rw[List.cons_append,fw,fw,tQ k l (j+1) t _];rw[show j+1+l.length=j+(x::l).length by simp;omega]
def Rng (x:LV):Prop:=-65536<=x.idx/\x.idx<=7/\0<=x.plus/\x.plus<=100
structure VL (l:LL):Prop where
 c0:0<=l.c
 c1:l.c<=100
 rng:∀ (i:Nat) x,l.vars[i]?=some x->Rng x
 ord:∀ (i:Nat) x y,l.vars[i]?=some x->l.vars[i+1]?=some y->x.idx<y.idx
 cov:0<l.c->∀ (i:Nat) x,l.vars[i]?=some x->x.plus<l.c
def mQ (c:Int):Bool:=decide (97<=c)&&decide (c<=122)||decide (65<=c)&&decide (c<=90)||decide (c=95)
def sP (c:UInt8):Prop:=mQ c.toNat=true∨c=46∨c=39∨(48<=c/\c<=57)
structure Nd (k i:Int)(nm:ByteArray)(ls:List LL)(n:Nat):Prop where
 k0:0<=k
 k1:k<13
 K:(n:Int)=dW k
 i0:0<=i
 i1:i<=65535
 idx:k≠0->k≠12->i=0
 chars:∀ c∈nm.data.toList,sP c
 short:nm.size<=1000
 name:k≠3->nm=bs []
 lev:(k=2->ls.length=1)/\(k=3->ls.length<=8)/\(k≠2->k≠3->ls=[])
 val:∀ l∈ls,VL l
mutual
def TOK:T->Prop
 |.mk k i nm ls ks=>Nd k i nm ls ks.length/\xv ks
def xv:List T->Prop
 |[]=>True
 |t::l=>TOK t/\xv l
end
theorem ly:∀ {l:List T},xv l↔∀ t∈l,TOK t
 |[]=>by simp[xv]
 |x::l=>by simp[xv,ly (l:=l)]
def At (ts:List T)(x:Int)(t:T):Prop:=0<=x/\ts[x.toNat]?=some t
def Lk (ts:List T):List Int->List T->Prop
 |[],[]=>True
 |c::l,t::m=>At ts c t/\Lk ts l m
 |_,_=>False
theorem At.lt {ts:List T}{x:Int}{t:T}(h:At ts x t):0<=x/\x.toNat<ts.length:=⟨h.1,(E_.1 h.2).1⟩
theorem At.nat {ts:List T}{x:Int}{t:T}(h:At ts x t):∃ n:Nat,x=n/\ts[n]?=some t:=⟨x.toNat,by have:=h.1;omega,h.2⟩
theorem At.of {ts:List T}{n:Nat}{t:T}(h:ts[n]?=some t):At ts (n:Int) t:=⟨o_,by simpa using h⟩
theorem At.app {ts l:List T}{x:Int}{t:T}(h:At ts x t):At (ts++l) x t:=⟨h.1,by rw[List.getElem?_append_left h.lt.2];exact h.2⟩
theorem At.inj {ts:List T}(nd:ts.Nodup){x y:Int}{t:T}(h:At ts x t)(h':At ts y t):x=y:=by
 obtain⟨n,rfl,a⟩:=h.nat;obtain⟨m,rfl,b⟩:=h'.nat;have hn:=(E_.1 a).1;have:=(List.getElem?_inj hn nd).1 (show ts[n]?=ts[m]? by rw[a,b]);rw[this]
theorem At.det {ts:List T}{x:Int}{t u:T}(h:At ts x t)(h':At ts x u):t=u:=by
 have:=h.2;rw[h'.2]at this;exact(Option.some.inj this).symm
theorem Lk.len {ts:List T}: ∀ {l:List Int} {m:List T},Lk ts l m->l.length=m.length
 |[],[],_=>rfl
 |_::l,_::m,h=>by simp[Lk.len h.2]
theorem Lk.get {ts:List T}: ∀ {l:List Int} {m:List T} {i:Nat} {c:Int},Lk ts l m->l[i]?=some c->∃ t,m[i]?=some t/\At ts c t
 |[],_,_,_,_,e=>by simp at e
 |_::l,_::m,0,_,h,e=>by cases e;exact⟨_,rfl,h.1⟩
 |_::l,_::m,i+1,_,h,e=>by simpa using Lk.get (i:=i) h.2 (by simpa using e)
theorem Lk.get' {ts:List T}: ∀ {l:List Int} {m:List T} {i:Nat} {t:T},Lk ts l m->m[i]?=some t->∃ c,l[i]?=some c/\At ts c t
 |_,[],_,_,_,e=>by simp at e
 |_::l,_::m,0,_,h,e=>by cases e;exact⟨_,rfl,h.1⟩
 |_::l,_::m,i+1,_,h,e=>by simpa using Lk.get' (i:=i) h.2 (by simpa using e)
theorem Lk.app {ts l':List T}: ∀ {l:List Int} {m:List T},Lk ts l m->Lk (ts++l') l m
 |[],[],_=>trivial
 |_::_l,_::_m,h=>⟨h.1.app,Lk.app h.2⟩
theorem Lk.det {ts:List T}: ∀ {l:List Int} {m m':List T},Lk ts l m->Lk ts l m'->m=m'
 |[],[],[],_,_=>rfl
 |_::l,_::m,_::m',h,h'=>by rw[h.1.det h'.1,Lk.det h.2 h'.2]
theorem Lk.inj {ts:List T}(nd:ts.Nodup):∀ {l l':List Int} {m:List T},Lk ts l m->Lk ts l' m->l=l'
 |[],[],[],_,_=>rfl
 |[],_::_,[],_,h'=>h'.elim
 |[],_,_::_,h,_=>h.elim
 |_::_,_,[],h,_=>h.elim
 |_::_,[],_::_,_,h'=>h'.elim
 |_::l,_::l',_::m,h,h'=>by rw[h.1.inj nd h'.1,Lk.inj nd h.2 h'.2]
theorem Lk.snoc {ts:List T}: ∀ {l:List Int} {m:List T} {c:Int} {t:T},Lk ts l m->At ts c t->Lk ts (l++[c]) (m++[t])
 |[],[],_,_,_,a=>⟨a,trivial⟩
 |_::_l,_::_m,_,_,h,a=>⟨h.1,Lk.snoc h.2 a⟩
theorem Lk.append {ts:List T}: ∀ {l l':List Int} {m m':List T},Lk ts l m->Lk ts l' m'->Lk ts (l++l') (m++m')
 |[],_,[],_,_,a=>a
 |_::_l,_,_::_m,_,h,a=>⟨h.1,Lk.append h.2 a⟩
theorem Lk.take {ts:List T}: ∀ {l:List Int} {m:List T} (i:Nat),Lk ts l m->Lk ts (l.take i) (m.take i)
 |[],[],i,_=>by simp[Lk]
 |_::l,_::m,0,_=>by simp[Lk]
 |_::l,_::m,i+1,h=>⟨h.1,Lk.take i h.2⟩
theorem Lk.drop {ts:List T}: ∀ {l:List Int} {m:List T} (i:Nat),Lk ts l m->Lk ts (l.drop i) (m.drop i)
 |[],[],i,_=>by simp[Lk]
 |_::l,_::m,0,h=>h
 |_::l,_::m,i+1,h=>by simpa using Lk.drop i h.2
theorem Lk.rev {ts:List T}: ∀ {l:List Int} {m:List T},Lk ts l m->Lk ts l.reverse m.reverse
 |[],[],_=>trivial
 |_::l,_::m,h=>by rw[List.reverse_cons,List.reverse_cons];exact(Lk.rev h.2).snoc h.1
def ndT (n:NV)(ks:List T):T:=.mk n.kind n.idx n.name n.L ks
structure Wg (M:Ms):Prop where
 len:M.ts.length=M.ns.length
 lenF:M.fr.length=M.ns.length
 most:M.ns.length<=65536
 node:∀ (i:Nat) n,M.ns[i]?=some n->∃ ks,M.ts[i]?=some (ndT n ks)/\Lk M.ts n.K ks/\∀ c∈n.K,c<(i:Int)
 free:∀ (i:Nat) t,M.ts[i]?=some t->M.fr[i]?=some (eD t)
 tok:∀ t∈M.ts,TOK t
 nd:M.ts.Nodup
structure Le (M M':Ms):Prop where
 ns:∃ l,M'.ns=M.ns++l
 ts:∃ l,M'.ts=M.ts++l
theorem Le.refl (M:Ms):Le M M:=⟨⟨[],by simp⟩,⟨[],by simp⟩⟩
theorem Le.trans {M M' M'':Ms}(x:Le M M')(y:Le M' M''):Le M M'':=by
 obtain⟨⟨a,ha⟩,⟨b,hb⟩⟩:=x;obtain⟨⟨c,hc⟩,⟨d,hd⟩⟩:=y;exact⟨⟨a++c,by rw[hc,ha,List.append_assoc]⟩,⟨b++d,by rw[hd,hb,List.append_assoc]⟩⟩
theorem Le.at {M M':Ms}(x:Le M M'){i:Int}{t:T}(h:At M.ts i t):At M'.ts i t:=by
 obtain⟨_,⟨l,e⟩⟩:=x;rw[e];exact h.app
theorem Le.lk {M M':Ms}(x:Le M M'){l:List Int}{m:List T}(h:Lk M.ts l m):Lk M'.ts l m:=by
 obtain⟨_,⟨l,e⟩⟩:=x;rw[e];exact h.app
theorem Wg.at_node {M:Ms}(g:Wg M){x:Int}{t:T}(h:At M.ts x t):∃ n ks,M.ns[x.toNat]?=some n/\t=ndT n ks/\Lk M.ts n.K ks/\(∀ c∈n.K,c<x)/\TOK t/\M.fr[x.toNat]?=some (eD t):=by
 obtain⟨n,rfl,e⟩:=h.nat;have hl:n<M.ns.length:=by rw[<- g.len];exact(E_.1 e).1
 obtain⟨nv,hn⟩:∃ nv,M.ns[n]?=some nv:=⟨_,a_ hl⟩
 obtain⟨ks,e2,lk,lt⟩:=g.node n nv hn;rw[e]at e2;cases e2;exact⟨nv,ks,by simpa using hn,rfl,lk,lt,g.tok _ (m_ e),by simpa using g.free _ _ e⟩
structure NOK (n:NV):Prop where
 nd:Nd n.kind n.idx n.name n.L n.K.length
 kr:∀ c∈n.K,0<=c/\c<65536
def ahu:List UInt8->Nat:=fun l=>l.foldl (fun a c=>a*10+(c.toNat-48)) 0
theorem decDigits_cases (u:Nat):(u<10/\Lib.decDigits u=[UInt8.ofNat (48+u)])∨(10<=u/\Lib.decDigits u=Lib.decDigits (u / 10)++[UInt8.ofNat (48+u % 10)]):=by
 rw[Lib.decDigits];by_cases h:u<10
 ·rw[dif_pos h];exact .inl ⟨h,rfl⟩
 ·rw[dif_neg h];exact .inr ⟨o_,rfl⟩
theorem vV (d:Nat)(h:d<10):(UInt8.ofNat (48+d)).toNat=48+d:=by
 rw[UInt8.toNat_ofNat'];omega
theorem rH (u:Nat):ahu (Lib.decDigits u)=u:=by
 induction u using Nat.strongRecOn with
 |_ u ih=>
  rcases decDigits_cases u with⟨h,e⟩|⟨h,e⟩
  ·rw[e];show 0*10+((UInt8.ofNat (48+u)).toNat-48)=u;rw[vV u h];omega
  ·rw[e];have h2:=ih (u / 10) o_;unfold ahu at h2 ⊢;rw[List.foldl_append,h2];show u / 10*10+((UInt8.ofNat (48+u % 10)).toNat-48)=u;rw[vV _ o_];omega
theorem Bp (u:Nat):∀ c∈Lib.decDigits u,48<=c.toNat/\c.toNat<=57:=by
 induction u using Nat.strongRecOn with
 |_ u ih=>
  rcases decDigits_cases u with⟨h,e⟩|⟨h,e⟩
  ·rw[e];intro c hc;rw[List.mem_singleton]at hc;subst hc;rw[vV u h];omega
  ·rw[e];intro c hc;rcases List.mem_append.1 hc with hc|hc
   ·exact ih _ o_ c hc
   ·rw[List.mem_singleton]at hc;subst hc;rw[vV _ o_];omega
theorem aiK (u:Nat):Lib.decDigits u≠[]:=by
 rcases decDigits_cases u with⟨h,e⟩|⟨h,e⟩<;>rw[e]<;>simp
def adH (c:UInt8):Prop:=c.toNat=45∨48<=c.toNat/\c.toNat<=57
theorem wD (n:Int):∀ c∈Lib.itoa n,adH c:=by
 unfold Lib.itoa;split
 ·intro c hc;rcases List.mem_cons.1 hc with rfl|hc
  ·exact .inl rfl
  ·exact .inr (Bp _ c hc)
 ·intro c hc;exact .inr (Bp _ c hc)
theorem acL (n:Int):Lib.itoa n≠[]:=by
 unfold Lib.itoa;split
 ·simp
 ·exact aiK _
theorem VG {a b:Int}(h:Lib.itoa a=Lib.itoa b):a=b:=by
 have neg:∀ (u:Nat) (l:List UInt8),Lib.decDigits u≠45::l:=fun u l e=>by
  have:=Bp u 45 (by rw[e];simp);exact absurd this (by decide)
 unfold Lib.itoa at h;by_cases ha:a<0<;>by_cases hb:b<0
 ·rw[P_ ha,P_ hb]at h;injection h with _ h;have:=congrArg ahu h;rw[rH,rH]at this;omega
 ·rw[P_ ha,N_ hb]at h;exact absurd h.symm (neg _ _)
 ·rw[N_ ha,P_ hb]at h;exact absurd h (neg _ _)
 ·rw[N_ ha,N_ hb]at h;have:=congrArg ahu h;rw[rH,rH]at this;omega
theorem Iq {P:UInt8->Prop}: ∀ {l m r s:List UInt8},(∀ c∈l,P c)->(∀ c∈m,P c)->(∀ c t,r=c::t->¬ P c)->(∀ c t,s=c::t->¬ P c)->r≠[]->s≠[]->l++r=m++s->l=m/\r=s
 |[],[],_,_,_,_,_,_,_,_,e=>⟨rfl,e⟩
 |[],d::m,r,s,_,hm,hr,_,_,_,e=>by
  exact absurd (hm d (by simp)) (hr d _ e)
 |c::l,[],r,s,hl,_,_,hs,_,_,e=>by
  exact absurd (hl c (by simp)) (hs c _ e.symm)
 |c::l,d::m,r,s,hl,hm,hr,hs,r0,s0,e=>by
  rw[List.cons_append,List.cons_append]at e;injection e with e1 e2;obtain⟨a,b⟩:=Iq (fun x hx=>hl x (by simp[hx])) (fun x hx=>hm x (by simp[hx])) hr hs r0 s0 e2;exact⟨by rw[e1,a],b⟩
theorem pD {a b:Int}{r s:List UInt8}(h:Lib.itoa a++32::r=Lib.itoa b++32::s):a=b/\r=s:=by
 have k:∀ (c:UInt8) (t u:List UInt8),32::u=c::t->¬ adH c:=by
  intro c t u e;injection e with e _;subst e;unfold adH;decide
 obtain⟨e1,e2⟩:=Iq (wD a) (wD b) (fun c t=>k c t r) (fun c t=>k c t s) (by simp) (by simp) h;injection e2 with _ e2;exact⟨VG e1,e2⟩
def Hs (l:List UInt8):Prop:=∃ c t,l=c::t/\¬ adH c
theorem yI (a:Int)(r s:List UInt8)(hs:Hs s):Lib.itoa a++r≠s:=by
 obtain⟨c,t,rfl,hc⟩:=hs;cases hi:Lib.itoa a with
 |nil=>exact absurd hi (acL a)
 |cons d l=>
  intro e;rw[List.cons_append]at e;injection e with e _;subst e;exact hc (wD a d (by rw[hi];simp))
theorem Dv:∀ {v w:List LV} {r s:List UInt8},Hs r->Hs s->(v.flatMap fun v=>Lib.itoa v.idx++32::(Lib.itoa v.plus++[32]))++r=(w.flatMap fun v=>Lib.itoa v.idx++32::(Lib.itoa v.plus++[32]))++s->v=w/\r=s
 |[],[],_,_,_,_,e=>⟨rfl,e⟩
 |[],y::w,r,s,hr,_,e=>by
  simp only[List.flatMap_nil,List.nil_append,List.flatMap_cons,List.append_assoc,List.cons_append]at e;exact absurd e.symm (yI _ _ _ hr)
 |x::v,[],r,s,_,hs,e=>by
  simp only[List.flatMap_nil,List.nil_append,List.flatMap_cons,List.append_assoc,List.cons_append]at e;exact absurd e (yI _ _ _ hs)
 |x::v,y::w,r,s,hr,hs,e=>by
  simp only[List.nil_append,List.flatMap_cons,List.append_assoc,List.cons_append]at e;obtain⟨e1,e⟩:=pD e;obtain⟨e2,e⟩:=pD e;obtain⟨e3,e4⟩:=Dv hr hs e;refine⟨?_,e4⟩;rw[e3];cases x;cases y;simp_all
theorem IF {c:UInt8}{l:List UInt8}(h:c=91∨c=124):Hs (c::l):=⟨c,l,rfl,by rcases h with rfl|rfl<;>(unfold adH;decide)⟩
theorem tM (v:List LL)(r:List UInt8):Hs (v.flatMap qH++124::r):=by
 cases v with
 |nil=>exact IF (.inr rfl)
 |cons x v=>simp only[List.flatMap_cons,qH,List.cons_append];exact IF (.inl rfl)
theorem uQ:∀ {v w:List LL} {r s:List UInt8},v.flatMap qH++124::r=w.flatMap qH++124::s->v=w/\r=s
 |[],[],_,_,e=>by injection e with _ e;exact⟨rfl,e⟩
 |[],y::w,r,s,e=>by
  simp only[List.flatMap_nil,List.nil_append,List.flatMap_cons,qH,List.cons_append]at e;injection e with e _;exact absurd e (by decide)
 |x::v,[],r,s,e=>by
  simp only[List.flatMap_nil,List.nil_append,List.flatMap_cons,qH,List.cons_append]at e;injection e with e _;exact absurd e (by decide)
 |x::v,y::w,r,s,e=>by
  simp only[List.flatMap_cons,qH,List.cons_append,List.append_assoc]at e;injection e with _ e;obtain⟨e1,e⟩:=pD e;obtain⟨e2,e⟩:=Dv (tM v r) (tM w s) e;obtain⟨e3,e4⟩:=uQ e;refine⟨?_,e4⟩;rw[e3];cases x;cases y;simp_all
theorem EL:∀ {v w:List Int},(v.flatMap fun k=>Lib.itoa k++[32])=(w.flatMap fun k=>Lib.itoa k++[32])->v=w
 |[],[],_=>rfl
 |[],y::w,e=>by simp at e
 |x::v,[],e=>by simp at e
 |x::v,y::w,e=>by
  simp only[List.flatMap_cons,List.append_assoc,List.cons_append,List.nil_append]at e;obtain⟨e1,e⟩:=pD e;rw[e1,EL e]
theorem Gb {c:UInt8}(h:sP c):c≠91/\c≠124:=by
 refine⟨?_,?_⟩<;>(rintro rfl;revert h;unfold sP mQ;decide)
theorem VC {a b:NV}(ha:∀ c∈a.name.data.toList,sP c)(hb:∀ c∈b.name.data.toList,sP c)(h:cQ a=cQ b):a=b:=by
 unfold cQ at h;obtain⟨e1,h⟩:=pD h;obtain⟨e2,h⟩:=pD h;have k:∀ (v:List LL) (r:List UInt8) (c:UInt8) (t:List UInt8),v.flatMap qH++124::r=c::t->¬ sP c:=by
  intro v r c t e q;have:=Gb q;cases v with
  |nil=>injection e with e _;exact this.2 e.symm
  |cons x v=>simp only[List.flatMap_cons,qH,List.cons_append]at e;injection e with e _;exact this.1 e.symm
 obtain⟨e3,h⟩:=Iq ha hb (fun c t=>k _ _ c t) (fun c t=>k _ _ c t) (by simp) (by simp) h;obtain⟨e4,h⟩:=uQ h;have e5:=EL h;obtain⟨k1,i1,⟨⟨n1⟩⟩,l1,d1⟩:=a;obtain⟨k2,i2,⟨⟨n2⟩⟩,l2,d2⟩:=b;simp only at e1 e2 e3 e4 e5;rw[e1,e2,e3,e4,e5]
theorem acI {a b:NV}(ha:NOK a)(hb:NOK b)(h:cQ a=cQ b):a=b:=VC ha.nd.chars hb.nd.chars h
theorem VI (l:List NV)(n:NV):idx (l++[n])=idx l++[(cQ n,(l.length:Int))]:=by
 unfold idx;rw[List.zipIdx_append,List.map_append];simp
theorem lk_idx {n:NV}: ∀ {l:List NV},(∀ x∈l,cQ x=cQ n->x=n)->(∃ i:Nat,lkg (idx l) (cQ n)=some (i:Int)/\l[i]?=some n)∨(lkg (idx l) (cQ n)=none/\n ∉ l):=by
 intro l;have key:∀ (l:List NV) (k:Nat),(∀ x∈l,cQ x=cQ n->x=n)->(∃ i:Nat,lkg ((l.zipIdx k).map fun p=>(cQ p.1,(p.2:Int))) (cQ n)=some ((k+i:Nat):Int)/\l[i]?=some n)∨(lkg ((l.zipIdx k).map fun p=>(cQ p.1,(p.2:Int))) (cQ n)=none/\n ∉ l):=by
  intro l;induction l with
  |nil=>intro k _;exact .inr ⟨rfl,by simp⟩
  |cons x l ih=>
   intro k h;rw[List.zipIdx_cons,List.map_cons,lkg];by_cases q:cQ n=cQ x
   ·rw[P_ q];have:=h x (by simp) q.symm;exact .inl ⟨0,by simp,by simp[this]⟩
   ·rw[N_ q];rcases ih (k+1) (fun y hy=>h y (by simp[hy])) with⟨i,e1,e2⟩|⟨e1,e2⟩
    ·exact .inl ⟨i+1,by rw[e1];congr 1;omega,by simpa using e2⟩
    ·exact .inr ⟨e1,by simp only[List.mem_cons,not_or];exact⟨fun e=>q (by rw[e]),e2⟩⟩
 intro h;have:=key l 0 h;simpa [idx] using this
theorem Wg.nok {M:Ms}(g:Wg M){n:NV}(h:n∈M.ns):NOK n:=by
 obtain⟨i,hi⟩:=List.getElem?_of_mem h;obtain⟨ks,e,lk,lt⟩:=g.node i n hi;have ht:=g.tok _ (m_ e);unfold ndT TOK at ht;have hl:=(E_.1 hi).1;have:=g.most;refine⟨by rw[lk.len];exact ht.1,fun c hc=>⟨?_,by have:=lt c hc;omega⟩⟩;obtain⟨j,hj⟩:=List.getElem?_of_mem hc;obtain⟨t,_,a⟩:=lk.get hj;exact a.1
theorem Wg.add {M:Ms}(g:Wg M){n:NV}{ks:List T}(lk:Lk M.ts n.K ks)(ht:TOK (ndT n ks))(hn:n ∉ M.ns)(hl:M.ns.length<65536):
  Wg {M with ns:=M.ns++[n],ts:=M.ts++[ndT n ks],fr:=M.fr++[eD (ndT n ks)]}:=by
 refine⟨by simp[g.len],by simp[g.lenF],by simp;omega,?_,?_,?_,?_⟩
 ·intro i x hx;rcases Nat.lt_or_ge i M.ns.length with h|h
  ·rw[List.getElem?_append_left h]at hx;obtain⟨k2,e,l2,lt⟩:=g.node i x hx;exact⟨k2,by rw[List.getElem?_append_left (by rw[g.len];exact h)];exact e,l2.app,lt⟩
  ·rw[List.getElem?_append_right h]at hx;have:i-M.ns.length=0:=by
    rcases Nat.eq_zero_or_pos (i-M.ns.length) with q|q
    ·exact q
    ·rw[List.getElem?_eq_none (by simp;omega)]at hx;cases hx
   rw[this]at hx;cases hx;have hi:i=M.ns.length:=o_;subst hi;refine⟨ks,by rw[<- g.len];simp,lk.app,fun c hc=>?_⟩;obtain⟨j,hj⟩:=List.getElem?_of_mem hc;obtain⟨t,_,a⟩:=lk.get hj;have:=a.lt;rw[g.len]at this;omega
 ·intro i t hi;rcases Nat.lt_or_ge i M.ts.length with h|h
  ·rw[List.getElem?_append_left h]at hi;rw[List.getElem?_append_left (by rw[g.lenF,<- g.len];exact h)];exact g.free i t hi
  ·rw[List.getElem?_append_right h]at hi;have:i-M.ts.length=0:=by
    rcases Nat.eq_zero_or_pos (i-M.ts.length) with q|q
    ·exact q
    ·rw[List.getElem?_eq_none (by simp;omega)]at hi;cases hi
   rw[this]at hi;cases hi;have hi:i=M.fr.length:=by rw[g.lenF,<- g.len];omega
   subst hi;simp
 ·intro t h;rcases List.mem_append.1 h with h|h
  ·exact g.tok t h
  ·simp at h;subst h;exact ht
 ·refine List.nodup_append.2 ⟨g.nd,by simp,fun a ha b hb=>?_⟩;simp at hb;subst hb;rintro rfl;obtain⟨i,hi⟩:=List.getElem?_of_mem ha;have hl2:i<M.ns.length:=by rw[<- g.len];exact(E_.1 hi).1
  obtain⟨x,hx⟩:∃ x,M.ns[i]?=some x:=⟨_,a_ hl2⟩
  obtain⟨k2,e,l2,_⟩:=g.node i x hx;rw[hi]at e;have e:=Option.some.inj e;unfold ndT at e;injection e with e1 e2 e3 e4 e5;subst e5;have e6:=lk.inj g.nd l2;apply hn;have:n=x:=by cases n;cases x;simp_all
  rw[this];exact m_ hx
attribute [go_sem] akz Tc zM
theorem eQ (n:NV):(aT n).free=true:=by simp[aT,AV.free,AV.ale,bE hJ,bE jc]
theorem mj (n:NV):(aT n).norm=aT n:=by simp[aT,AV.norm,AV.ald,bw fL,bw fb]
theorem jT (n:NV)(h:AH):cE (aT n) h=(aT n,h):=by rw[bG (eQ n),mj]
theorem xO (l:List Int):flat (l.map AG.aO)=l.map AG.aO:=by
 induction l with
 |nil=>rfl
 |cons x l ih=>rw[List.map_cons,cw,ih];rfl
theorem iZ (k j:Int):0<=cq k j/\cq k j<=1:=by unfold cq;split<;>omega
mutual
theorem ET:∀ t,TOK t->0<=eD t/\eD t<=65536
 |.mk k i nm ls ks,h=>by
  unfold TOK at h;unfold eD;have:=h.1.i0;have:=h.1.i1;exact yL k ks 0 _ h.2 (by split<;>omega) (by split<;>omega)
theorem yL (k:Int):∀ l (j:Nat) (a:Int),xv l->0<=a->a<=65536->0<=fw k j l a/\fw k j l a<=65536
 |[],_,_,_,h0,h1=>by unfold fw;exact⟨h0,h1⟩
 |t::l,j,a,h,h0,h1=>by
  unfold xv at h;unfold fw;have:=ET t h.1;have:=iZ k j;exact yL k l (j+1) _ h.2 o_ o_
end
structure KM (K:aQ):Prop where
 key:∀ n,NOK n->∀ h,K (.fn 138 [] []) [aT n] .no h=some (.ret (.str (bs (cQ n))),.no,h)
section
variable {K:aQ}{A:Ma}{B B1:Nat}{E:AV}{M:Ms}{gN gF:Nat}{h:AH}
theorem fR {call:aQ}{rs:List bK}{tm:Tm}{rnd:Option Nat}{f:FuncId}{h h1:AH}{e:AEx}{r:Int}{Q:AV->AH->Prop}(he:e=.normal∨e=.ret)(hv:hO rs tm h1=some [i_ r])(hm:HM B B1 h h1)(hQ:Q (i_ r) h1):
  XQ call rs (ru (PM B B1 h Q)) e ⟨tm,⟨[],.no,rnd,f⟩⟩ h1:=mW he hv (aS (by intro l e;cases e) (aG _ _ _)) hm hQ
theorem afH (hK:aZ K)(m:Nat)(k j:Int)(h:AH):cS K (m+1) (.fn 139 [] []) [i_ k,i_ j] .no h=some (.ret (i_ (cq k j)),.no,h):=by
 obtain⟨v,h',e,rfl,rfl⟩:=bh (m:=m) (c:=[]) (a:=[i_ k,i_ j]) (h:=h) (P:=fun v h'=>v=i_ (cq k j)/\h'=h) hK ajd (ae (aG _ _ _) (ae (aG _ _ _) (aC _))) (by
  simp only[A_];unfold ago
  repeat' (first|simp only[go_sem,simprocAttr, *,JZ,JY]|refine mC (fun _=>?_) fun _=>?_|refine pI (fun _=>?_) fun _=>?_|refine pJ (fun _=>?_) fun _=>?_)
  all_goals (refine⟨by rfl,by rfl,.inr rfl,[_],by simp only[go_sem,simprocAttr,ae4];rfl,_,_,aS (by intro l e;cases e) (aG _ _ _),?_,rfl⟩;simp_all [cq]))
 exact e
def Gq (A:Ma)(B B1:Nat)(E:AV)(M:Ms)(h':AH)(P:Ms->Prop):Prop:=∃ M' gN' gF',St A B B1 E M' gN' gF' h'/\Wg M'/\Le M M'/\P M'
def Sm (M M':Ms):Prop:=M'.w=M.w/\M'.n=M.n/\M'.con=M.con/\M'.vis=M.vis
def I1096 (A:Ma)(H:AH)(b:Nat)(n:NV)(ks:List T)(j:Nat)(fr:AF)(h:AH):Prop:=∃ tm m,m+j=n.K.length/\fr=⟨tm,⟨[],.no,none,96⟩⟩/\h=H/\nth tm 0=.ptr A.a 0 0/\nth tm 3=.ptr b 0 0/\nth tm 5=.str (bs (cQ n))/\
 nth tm 8=i_ (fw n.kind 0 (ks.take m) (if n.kind=0 then n.idx+1 else 0))/\nth tm 40=.ls (n.K.map AG.aO)/\nth tm 41=i_ (n.K.length:Int)/\nth tm 42=i_ (m:Int)
theorem Zt (hK:aZ K)(km:KM K)(m:Nat)(s:St A B B1 E M gN gF h)(g:Wg M)(n:NV)(ks:List T)(lk:Lk M.ts n.K ks)(ht:TOK (ndT n ks)):
  Cm K (m+3) B B1 (96) [] [.ptr A.a 0 0,aT n] h fun v h'=>Gq A B B1 E M h' fun M'=>Sm M M'/\(n ∉ M.ns->M'={M with ns:=M.ns++[n],ts:=M.ts++[ndT n ks],fr:=M.fr++[eD (ndT n ks)]})/\∃ r,v=i_ r/\At M'.ts r (ndT n ks):=by
 refine fG hK Zh (ae (bD _ _ _ _) (ae (jT _ _) (aC _))) ?_;have hnok:NOK n:=by
  unfold ndT TOK at ht;refine⟨by rw[lk.len];exact ht.1,fun c hc=>?_⟩;obtain⟨j,hj⟩:=List.getElem?_of_mem hc;obtain⟨t,_,a⟩:=lk.get hj;have:=a.lt;have:=g.len;have:=g.most;omega
 have hkey:∀ h,cS K (m+2) (.fn 138 [] []) [aT n] .no h=some (.ret (.str (bs (cQ n))),.no,h):=fun h=>rV (ae (jT _ _) (aC _)) (km.key n hnok h) (aS (by intro l e;cases e) (gK _ _)) _
 have cg:=TQ hK (m+1);have cb:=fun k j h=>afH hK (m+1) k j h
 obtain⟨H,hH⟩:∃ H:AH,H=h.new (.box [i_ n.kind,i_ n.idx,.str n.name,.ls (n.L.map ba),.ls (n.K.map AG.aO)]):=⟨_,rfl⟩
 have b1:=s.b1;have rg:=s.ok.rng;have sH:St A B B1 E M gN gF H:=by rw[hH];exact s.new _
 have hm:HM B B1 h H:=by rw[hH];exact(HM.refl h).new _
 have nx:H.z=h.z+1:=by rw[hH];exact ala _ _
 have gb:H.get h.z=some (.box [i_ n.kind,i_ n.idx,.str n.name,.ls (n.L.map ba),.ls (n.K.map AG.aO)]):=by rw[hH,aE]
 have gA:=sH.gA;have gI:=sH.gI;unfold mL at gA;have hlen:n.K.length<=3:=by
  have:=hnok.nd.K;unfold dW at this;split at this
  ·omega
  ·split at this
   ·omega
   ·split at this<;>omega
 have i0:=hnok.nd.i0;have i1:=hnok.nd.i1;have hbx:∀ h:AH,dB h 5 (aT n)=.val (.ptr h.z 0 0) (h.new (.box (aT n).cells)):=fun h=>bN _ 5 rfl
 have hk:=fun z ok=>kY (t:=2) AG.aO lD gI (cQ n) z ok
 have hk':∀ z,fm H 2 z true (.map A.kI) (.str (bs (cQ n)))=_:=fun z=>hk z true
 unfold aT at hkey hbx;unfold aa8;simp only[go_sem,simprocAttr,aT,hbx,wj,wk];rw[<- hH];simp only[go_sem,simprocAttr,hkey,gA,hk'];rcases lk_idx (n:=n) (l:=M.ns) (fun x hx e=>acI (g.nok hx) hnok e) with⟨i,e1,e2⟩|⟨e1,e2⟩
 ·simp only[go_sem,simprocAttr,e1,AG.aO];obtain⟨k2,e3,l2,_⟩:=g.node i n e2;have:=lk.det l2;subst this;exact fR (.inr rfl) (by simp only[go_sem,simprocAttr,Cf]) hm ⟨M,gN,gF,sH,g,Le.refl M,⟨rfl,rfl,rfl,rfl⟩,fun q=>absurd (m_ e2) q,_,rfl,At.of e3⟩
 ·simp only[go_sem,simprocAttr,e1,wm,gA];refine aX (fun hb=>?_) (fun hb=>?_)
  ·simp only[go_sem,simprocAttr,cg];exact cB hm
  ·have hb:M.ns.length<65536:=o_;have fin:∀ tm,nth tm 0=.ptr A.a 0 0->nth tm 3=.ptr h.z 0 0->nth tm 5=.str (bs (cQ n))->nth tm 8=i_ (if n.kind=0 then n.idx+1 else 0)->
     R (cS K (m+2)) 1000000000000 [.code sj] (XQ (cS K (m+2)) Cf (ru (PM B B1 h fun v h'=>Gq A B B1 E M h' fun M'=>Sm M M'/\(n ∉ M.ns->M'={M with ns:=M.ns++[n],ts:=M.ts++[ndT n ks],fr:=M.fr++[eD (ndT n ks)]})/\∃ r,v=i_ r/\At M'.ts r (ndT n ks)))) .normal ⟨tm,⟨[],.no,none,96⟩⟩ H:=by
    intro tm t0 t3 t5 t8;unfold sj;simp only[go_sem,simprocAttr,t3,gb];refine bB (I1096 A H h.z n ks) n.K.length o_ ⟨_,0,o_,rfl,rfl,q_ t0,q_ t3,q_ t5,by simp only[go_sem,simprocAttr,t8,List.take_zero,fw],k_,k_,k_⟩ ?_;rintro j fr H' ⟨tm,p,hp,rfl,rfl,t0,t3,t5,t8,t40,t41,t42⟩;unfold By;simp only[go_sem,simprocAttr,t42,t41,AJ];refine aX (fun hlt=>?_) (fun hge=>?_)
    ·have hlt:p<n.K.length:=o_;have hget:n.K[p]?=some n.K[p]:=a_ hlt;obtain⟨t,et,at_⟩:=lk.get hget;obtain⟨cn,ec,ecn⟩:=at_.nat;rw[ec]at hget;have ha:=fun h=>aK (f:=AG.aO) (sz:=1) (fun _=>rfl) hget .i64 h
     have hcl:cn<M.fr.length:=by rw[g.lenF,<- g.len];exact(E_.1 ecn).1
     have hfr:=g.free cn t ecn;have hi:=fun h=>ju (kk:=A.kF) (g:=gF) (sz:=1) hcl h .i64
     have hl:=oK (a:=cn) (x:=AG.aO (eD t)) sH.gF (by rw[xO,List.getElem?_map,hfr];rfl);have hfree:=ET t (g.tok t (m_ ecn));have hb:=iZ n.kind p;have hw:=bI (eD t-cq n.kind p) o_ o_;have hw2:=aP p o_;unfold AG.aO at hl;have ele:=cu (cn:Int);simp only[go_sem,simprocAttr,Li,t0,t3,t8,t40,t42,ha,ele,gA,gb,hi,hl,cb,hw,hw2];refine⟨j-1,o_,_,p+1,o_,rfl,rfl,q_ t0,q_ t3,q_ t5,?_,q_ t40,q_ t41,k_⟩;simp only[go_sem,simprocAttr];rw[List.take_add_one,et,Option.toList_some,tQ];congr 2;rw[List.length_take,Nat.min_eq_left (by rw[<- lk.len];omega)];simp
    ·have hp':p=n.K.length:=o_;subst hp';rw[lk.len,List.take_length]at t8;obtain⟨n1,n2,n3,n4,n5,n6,n7,n8,n9,n10,n11,n12,n13,n14,n15⟩:=s.ok.ne;have hmp:=lU (kf:=kfS) (t:=2) AG.aO lD gI (cQ n) (M.ns.length:Int);have hmp:fK H' 2 (.map A.kI) (.str (bs (cQ n))) (i_ (M.ns.length:Int))=_:=hmp;rw[abw _ e1,<- VI]at hmp;obtain⟨H1,hH1⟩:∃ H1,H1=H'.set A.kI (.map (mpg kfS AG.aO (idx (M.ns++[n])))):=⟨_,rfl⟩
     rw[<- hH1]at hmp;have gA1:=(show H1.get A.a=H'.get A.a by rw[hH1,aB n1]).trans gA;have gb1:=(show H1.get h.z=H'.get h.z by rw[hH1,aB o_]).trans gb;have gN1:=(show H1.get A.kN=H'.get A.kN by rw[hH1,aB n6.symm]).trans sH.gN;have gF1:=(show H1.get A.kF=H'.get A.kF by rw[hH1,aB n7.symm]).trans sH.gF;have ap:=uG (bytes:=80) (z:=[i_ 0,i_ 0,.str (bs []),.nl,.nl]) (x:=aT n) gN1 (wN _) rfl rfl rfl (by rw[L_];omega) (by decide);rw[L_]at ap;obtain⟨H2,hH2⟩:∃ H2,H2=H1.set A.kN (.row (gN+1) 5 true (flat (M.ns.map aT++[aT n])) 0):=⟨_,rfl⟩
     rw[<- hH2]at ap;unfold aT at ap;have gA2:=(show H2.get A.a=H1.get A.a by rw[hH2,aB n2]).trans gA1;simp only[go_sem,simprocAttr,AA,AB,AD,t0,t3,t5,gA,hmp,gA1,gb1,ap,gA2];obtain⟨H3,hH3⟩:∃ H3,H3=H2.set A.a (.box [.row A.kN (gN+1) 5 0 (M.ns.length+1),E,.map A.kI,.row A.kF gF 1 0 M.fr.length,.map A.kW,.map A.kM,.map A.kU,.map A.kS,i_ M.con,i_ M.vis]):=⟨_,rfl⟩
     rw[<- hH3];have gA3:H3.get A.a=_:=hH3▸aH _ _ _;have gF3:=(show H3.get A.kF=H1.get A.kF by rw[hH3,aB n3.symm,hH2,aB n10.symm]).trans gF1;have ap2:=uG (bytes:=8) (z:=[i_ 0]) (x:=AG.aO (eD (ndT n ks))) gF3 (mI _) rfl rfl rfl (by rw[L_,g.lenF];omega) (by decide);rw[L_]at ap2;obtain⟨H4,hH4⟩:∃ H4,H4=H3.set A.kF (.row (gF+1) 1 false (flat (M.fr.map AG.aO++[AG.aO (eD (ndT n ks))])) 0):=⟨_,rfl⟩
     rw[<- hH4]at ap2;have e8:AG.aO (eD (ndT n ks))=i_ (fw n.kind 0 ks (if n.kind=0 then n.idx+1 else 0)):=by unfold ndT eD;rfl
     rw[e8]at ap2;have gA4:=(show H4.get A.a=H3.get A.a by rw[hH4,aB n3]).trans gA3;simp only[go_sem,simprocAttr,AE,AI,t0,t8,gA3,ap2,gA4];obtain⟨H5,hH5⟩:∃ H5,H5=H4.set A.a (.box [.row A.kN (gN+1) 5 0 (M.ns.length+1),E,.map A.kI,.row A.kF (gF+1) 1 0 (M.fr.length+1),.map A.kW,.map A.kM,.map A.kU,.map A.kS,i_ M.con,i_ M.vis]):=⟨_,rfl⟩
     rw[<- hH5];have hnx:H5.z=H'.z:=by rw[hH5,alb,hH4,alb,hH3,alb,hH2,alb,hH1,alb]
     have st:St A B B1 E {M with ns:=M.ns++[n],ts:=M.ts++[ndT n ks],fr:=M.fr++[eD (ndT n ks)]} (gN+1) (gF+1) H5:=by
      refine⟨s.ok,?_,?_,?_,?_,?_,?_,by rw[hnx];exact sH.b1⟩
      ·rw[hH5,aH];simp only[mL,List.length_append,List.length_singleton]
      ·rw[hH5,aB n1.symm,hH4,aB n7,hH3,aB n1.symm,hH2,aB n6,hH1,aH]
      ·rw[hH5,aB n2.symm,hH4,aB n10,hH3,aB n2.symm,hH2,aH,List.map_append];rfl
      ·rw[hH5,aB n3.symm,hH4,aH,List.map_append];rfl
      ·rw[hH5,aB n4.symm,hH4,aB n13.symm,hH3,aB n4.symm,hH2,aB n11.symm,hH1,aB n8.symm];exact sH.gW
      ·rw[hH5,aB n5.symm,hH4,aB n14.symm,hH3,aB n5.symm,hH2,aB n12.symm,hH1,aB n9.symm];exact sH.gM
     have hm5:HM B B1 h H5:=by
      rw[hH5,hH4,hH3,hH2,hH1];exact((((hm.set _ (.inr rg.2.1)).set _ (.inr rg.2.2.1)).set _ (.inr rg.1)).set _ (.inr rg.2.2.2.1)).set _ (.inr rg.1)
     exact fR (r:=(M.ns.length:Int)) (.inr rfl) (by simp only[go_sem,simprocAttr,Cf]) hm5 ⟨_,_,_,st,g.add lk ht e2 hb,⟨⟨_,rfl⟩,⟨_,rfl⟩⟩,⟨rfl,rfl,rfl,rfl⟩,fun _=>rfl,_,rfl,At.of (by show(M.ts++[ndT n ks])[M.ns.length]?=_;rw[<- g.len];simp)⟩
   simp only[go_sem,simprocAttr,wo,Az,gb];refine aX (fun hk=>?_) (fun hk=>?_)
   ·have hw:IntKind.wrap .i64 (n.idx+1)=n.idx+1:=bI _ o_ o_;simp only[go_sem,simprocAttr,gb,hw];exact fin _ (by simp only[go_sem,simprocAttr]) (by simp only[go_sem,simprocAttr]) (by simp only[go_sem,simprocAttr]) (by simp only[go_sem,simprocAttr,hk])
   ·simp only[go_sem,simprocAttr];exact fin _ (by simp only[go_sem,simprocAttr]) (by simp only[go_sem,simprocAttr]) (by simp only[go_sem,simprocAttr]) (by simp only[go_sem,simprocAttr,hk])
theorem Hq (hK:aZ K)(km:KM K)(m:Nat)(s:St A B B1 E M gN gF h)(g:Wg M)(n:NV)(ks:List T)(lk:Lk M.ts n.K ks)(ht:TOK (ndT n ks)):
  Cm K (m+3) B B1 (96) [] [.ptr A.a 0 0,aT n] h fun v h'=>Gq A B B1 E M h' fun M'=>Sm M M'/\∃ r,v=i_ r/\At M'.ts r (ndT n ks):=by
 obtain⟨o,h',e,hm,q⟩:=Zt hK km m s g n ks lk ht;refine⟨o,h',e,hm,?_⟩;rcases q with⟨v,rfl,M',gN',gF',st,g',le,sm,_,r⟩|rfl
 ·exact .inl ⟨v,rfl,M',gN',gF',st,g',le,sm,r⟩
 ·exact .inr rfl
end
theorem abr:∀ l∈([]:List LL),VL l:=by simp
theorem Sy:∀ c∈(bs []).data.toList,sP c:=by simp[bs]
theorem Ex {k i:Int}{n:Nat}(h0:0<=k)(h1:k<13)(hn:(n:Int)=dW k)(hk:k≠2)(hk3:k≠3)(hi0:0<=i)(hi:i<=65535)(hx:k≠0->k≠12->i=0):Nd k i (bs []) [] n:=
 ⟨h0,h1,hn,hi0,hi,hx,Sy,by decide,fun _=>rfl,⟨fun e=>absurd e hk,fun e=>absurd e hk3,fun _ _=>rfl⟩,abr⟩
theorem ID {i:Int}(h0:0<=i)(h1:i<=65535):TOK (.mk 0 i (bs []) [] []):=by
 unfold TOK;exact⟨Ex o_ o_ (by decide) o_ o_ h0 h1 (fun h=>absurd rfl h),trivial⟩
theorem IE {f a:T}(hf:TOK f)(ha:TOK a):TOK (app f a):=by
 unfold MK.app TOK;exact⟨Ex o_ o_ (by simp[dW]) o_ o_ o_ o_ (fun _ _=>rfl),hf,ha,trivial⟩
theorem yV (k i:Int)(cs:AV)(kids:List Int)(hc:cs=.ls (kids.map AG.aO)∨kids=[]/\cs=.nl)(h:AH):cE (.agg [i_ k,i_ i,.str (bs []),.nl,cs]) h=(aT ⟨k,i,bs [],[],kids⟩,h):=by
 rcases hc with rfl|⟨rfl,rfl⟩
 ·rw[bG (by simp[AV.free,AV.ale,bE jc])];simp[aT,AV.norm,AV.ald,bw fb]
 ·rw[bG (by simp[AV.free,AV.ale])];simp[aT,AV.norm,AV.ald]
theorem dM (l:List Int)(h:AH):cE (.ls (l.map AG.aO)) h=(.ls (l.map AG.aO),h):=by
 rw[bG (by simp only[AV.free];exact bE jc l)];simp only[AV.norm,bw fb]
theorem SM (h:AH)(a b c d e:AV)(k':IntKind)(y:Int)(l:List AV):bT h [a,b,c,d,e] [(0,1,.int k' y),(4,1,.ls l)]=.val (.agg [.int k' y,b,c,d,.ls l]) h:=(rfl)
section
variable {K:aQ}{A:Ma}{B B1:Nat}{E:AV}{M:Ms}{gN gF:Nat}{h:AH}
def Mc (K:aQ)(m:Nat)(A:Ma)(B B1:Nat)(E:AV)(f:Nat)(c a:List AV)(M:Ms)(h:AH)(P:Ms->AV->Prop):Prop:=Cm K m B B1 f c a h fun v h'=>Gq A B B1 E M h' fun M'=>P M' v
def Px (t:T)(M:Ms)(M':Ms)(v:AV):Prop:=Sm M M'/\∃ r,v=i_ r/\At M'.ts r t
theorem TU {m f:Nat}{c a a':List AV}{Q:AV->AH->Prop}{h1:AH}(q:Cm K m B B1 f c a' h1 Q)(e0:iw a h=(a',h1))(e1:iw a' h1=(a',h1))(hm:HM B B1 h h1)(hn:niM.contains f=false:=by decide):Cm K m B B1 f c a h Q:=by
 obtain⟨o,h',e,x,y⟩:=q;exact⟨o,h',by rw[jo e0 e1 hn];exact e,hm.trans x,y⟩
theorem c1102 (hK:aZ K)(km:KM K)(m:Nat)(s:St A B B1 E M gN gF h)(g:Wg M)(i:Int):Mc K (m+4) A B B1 E (102) [] [.ptr A.a 0 0,i_ i] M h fun M' v=>0<=i/\i<=65535/\Px (.mk 0 i (bs []) [] []) M M' v:=by
 refine fG hK ajq (ae (bD _ _ _ _) (ae (aG _ _ _) (aC _))) ?_;have cg:=TQ hK (m+2);unfold agB;by_cases hi:i<0
 ·simp only[go_sem,simprocAttr,vD,hi,cg];exact cB (HM.refl h)
 ·by_cases hj:65535<i
  ·simp only[go_sem,simprocAttr,vD,hi,hj,cg];exact cB (HM.refl h)
  ·obtain⟨o,h',e,hm,q⟩:=TU (h:=h) (Hq hK km m s g ⟨0,i,bs [],[],[]⟩ [] trivial (ID (show 0<=i by omega) (show i<=65535 by omega))) (ae (bD _ _ _ _) (ae (yV 0 i .nl [] (.inr ⟨rfl,rfl⟩) h) (aC _))) (ae (bD _ _ _ _) (ae (jT _ _) (aC _))) (HM.refl h);simp only[go_sem,simprocAttr,vD,hi,hj,KV];rcases q with⟨v,rfl,M',gN',gF',st,g',le,sm,r,rfl,a⟩|rfl
   ·simp only[go_sem,simprocAttr,e];exact fR (.inr rfl) (by simp only[go_sem,simprocAttr,ae5]) hm ⟨M',gN',gF',st,g',le,o_,o_,sm,r,rfl,a⟩
   ·simp only[go_sem,simprocAttr,e];exact cB hm
theorem TR (hK:aZ K)(km:KM K)(m:Nat)(s:St A B B1 E M gN gF h)(g:Wg M)(k:Int)(kids:List Int)(ks:List T)(lk:Lk M.ts kids ks)(ht:TOK (.mk k 0 (bs []) [] ks)):Mc K (m+4) A B B1 E (63) [] [.ptr A.a 0 0,i_ k,.ls (kids.map AG.aO)] M h fun M' v=>Px (.mk k 0 (bs []) [] ks) M M' v:=by
 refine fG hK ajK (ae (bD _ _ _ _) (ae (aG _ _ _) (ae (dM _ _) (aC _)))) ?_;obtain⟨o,h',e,hm,q⟩:=TU (h:=h) (Hq hK km m s g ⟨k,0,bs [],[],kids⟩ ks lk ht) (ae (bD _ _ _ _) (ae (yV k 0 _ kids (.inl rfl) h) (aC _))) (ae (bD _ _ _ _) (ae (jT _ _) (aC _))) (HM.refl h);unfold agV;simp only[go_sem,simprocAttr,Mw,SM];rcases q with⟨v,rfl,M',gN',gF',st,g',le,sm,r,rfl,a⟩|rfl
 ·simp only[go_sem,simprocAttr,e];exact fR (.inr rfl) (by simp only[go_sem,simprocAttr,afb]) hm ⟨M',gN',gF',st,g',le,sm,r,rfl,a⟩
 ·simp only[go_sem,simprocAttr,e];exact cB hm
end
