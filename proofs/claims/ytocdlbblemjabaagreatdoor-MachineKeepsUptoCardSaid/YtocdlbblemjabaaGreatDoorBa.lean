/- MachineKeeps: reversing a slice of numbers; applying a node to arguments (no condition). -/
import Derived.Test.YtocdlbblemjabaaGreatDoorAz
namespace Go.Proofs.YtocdlbblemjabaaGreatDoor
open Go.AG Go.AG.MK
theorem rJ {kk g a sz:Nat}{agg:Bool}{h:AH}{out:List AV}{x:AV}(hk:h.get kk=some (.row g sz agg (flat out) 0))(ho:∀ x∈out,x.cells.length=sz)(ha:a<out.length)(h1:x.cells.length=sz)(h3:x.lies=true):
  dQ (.ptr kk g (a*sz)) h sz x=some (h.set kk (.row g sz agg (flat (out.set a x)) 0)):=by
 have hfl:=kZ ho;have hle:a*sz+sz<=out.length*sz:=by
  calc a*sz+sz=(a+1)*sz:=by rw[Nat.succ_mul]
   _<=_:=Nat.mul_le_mul ha (e_ _)
 rw[gU _ _ _ _ h3 h1,hk,aI];show aD (cond (and (Nat.beq g g) (and (Nat.ble 0 (a*sz)) (Nat.ble (a*sz+len x.cells) (len (flat out))))) (some (fD.row g sz agg (setR (a*sz) x.cells (flat out)) 0)) none) _=_;rw[eX,bH,bH,fh (show a*sz+x.cells.length<=(flat out).length by rw[hfl,h1];exact hle),rP h1 ho ha];rfl
theorem sD {base sz:Nat}{agg:Bool}{h:AH}{V:AV}{out:List AV}(o:Own base sz agg h V out)(hne:0<out.length):∃ kk g,V=.row kk g sz 0 out.length/\h.get kk=some (.row g sz agg (flat out) 0)/\kk<h.z/\base<=kk:=by
 obtain⟨_,⟨_,rfl⟩|⟨kk,g,q1,q2,q3,q4⟩⟩:=o
 ·simp at hne
 ·exact⟨kk,g,q1,q2,q3,q4⟩
theorem jV (l:List Int):∀ x∈l.map AG.aO,x.cells.length=1/\x.isAgg=false:=by
 intro x hx;obtain⟨n,_,rfl⟩:=List.mem_map.1 hx;exact⟨rfl,rfl⟩
structure Rv (l cur:List Int)(m:Nat):Prop where
 len:cur.length=l.length
 get:∀ i,i<l.length->cur[i]?=if i<m∨l.length<=i+m then l[l.length-1-i]? else l[i]?
theorem Rv.zero (l:List Int):Rv l l 0:=⟨rfl,fun i hi=>by rw[N_ o_]⟩
theorem Rv.step {l cur:List Int}{m:Nat}(r:Rv l cur m)(hm:2*m+1<l.length){x y:Int}(hx:cur[m]?=some x)(hy:cur[l.length-1-m]?=some y):Rv l ((cur.set m y).set (l.length-1-m) x) (m+1):=by
 have r1:=r.len;refine⟨by simp[r1],fun i hi=>?_⟩;have gx:=r.get m o_;rw[N_ o_,hx]at gx;have gy:=r.get (l.length-1-m) o_;rw[N_ o_,hy]at gy;rw[List.getElem?_set,List.getElem?_set];by_cases h1:l.length-1-m=i
 ·subst h1;rw[P_ rfl,P_ (by simp[r1];omega),P_ o_,gx];congr 1;omega
 ·rw[N_ h1];by_cases h2:m=i
  ·subst h2;rw[P_ rfl,P_ o_,P_ o_,gy]
  ·rw[N_ h2,r.get i hi];by_cases h3:i<m∨l.length<=i+m
   ·rw[P_ h3,P_ o_]
   ·rw[N_ h3,N_ o_]
theorem Rv.fin {l cur:List Int}{m:Nat}(r:Rv l cur m)(hm:l.length<=2*m+1):cur=l.reverse:=by
 apply List.ext_getElem?;intro i;rcases Nat.lt_or_ge i l.length with hi|hi
 ·rw[r.get i hi,List.getElem?_reverse hi];by_cases h:i<m∨l.length<=i+m
  ·rw[P_ h]
  ·rw[N_ h];have:i=l.length-1-i:=o_;rw[<- this]
 ·rw[List.getElem?_eq_none (by rw[r.len];exact hi),List.getElem?_eq_none (by simpa using hi)]
def I1097 (l:List Int)(V:AV)(base:Nat)(h0:AH)(j:Nat)(fr:AF)(h:AH):Prop:=∃ tm m cur,m+j=l.length/\fr=⟨tm,⟨[],.no,none,97⟩⟩/\
 nth tm 0=V/\nth tm 2=i_ (m:Int)/\nth tm 3=i_ ((l.length:Int)-1-m)/\Rv l cur m/\Own base 1 false h V (cur.map AG.aO)/\h.z=h0.z/\∀ k,k<base->h.get k=h0.get k
theorem afJ {K:aQ}(hK:aZ K)(m:Nat)(l:List Int)(V:AV)(base:Nat)(h:AH)(o:Own base 1 false h V (l.map AG.aO))(hl:l.length<1000000):
  ∃ v h',cS K (m+1) (.fn 97 [] []) [V] .no h=some (.ret v,.no,h')/\v=.tup []/\Own base 1 false h' V (l.reverse.map AG.aO)/\h'.z=h.z/\∀ k,k<base->h'.get k=h.get k:=by
 refine akf hK ajv ?_;simp only[A_];have hlen:=Ow o;rw[L_]at hlen;have hw:IntKind.wrap .i64 ((l.length:Int)-1)=(l.length:Int)-1:=bI _ o_ o_;unfold agG;simp only[go_sem,simprocAttr,hlen,hw];refine bB (I1097 l V base h) l.length o_ ⟨_,0,l,z_ _,rfl,k_,k_,by simp only[go_sem,simprocAttr];omega,Rv.zero l,o,rfl,fun _ _=>rfl⟩ ?_;rintro j fr H ⟨tm,p,cur,hp,rfl,t0,t2,t3,r,o',hn,hk⟩;have rl:=r.len;unfold PS;simp only[go_sem,simprocAttr,t2,t3];refine aX (fun hlt=>?_) (fun hge=>?_)
 ·have hlt:2*p+1<l.length:=o_;obtain⟨kk,g,hV,q2,q3,q4⟩:=sD o' (by rw[L_];omega);rw[L_,rl]at hV;subst hV;obtain⟨x,hx⟩:∃ x,cur[p]?=some x:=⟨_,a_ o_⟩
  obtain⟨y,hy⟩:∃ y,cur[l.length-1-p]?=some y:=⟨_,a_ o_⟩
  have ej:(l.length:Int)-1-p=((l.length-1-p:Nat):Int):=o_;have i1:=fun H=>ju (kk:=kk) (g:=g) (sz:=1) (n:=l.length) (a:=p) o_ H .i64
  have i2:=fun H=>ju (kk:=kk) (g:=g) (sz:=1) (n:=l.length) (a:=l.length-1-p) o_ H .i64
  have l1:=oK (a:=p) (x:=AG.aO x) q2 (by rw[xO,List.getElem?_map,hx];rfl);have l2:=oK (a:=l.length-1-p) (x:=AG.aO y) q2 (by rw[xO,List.getElem?_map,hy];rfl);have s1:=rJ (x:=AG.aO y) (a:=p) q2 (mI cur) (by rw[L_];omega) rfl rfl;have e1:(cur.map AG.aO).set p (AG.aO y)=(cur.set p y).map AG.aO:=(List.map_set ..).symm;rw[e1]at s1;have q5:(H.set kk (.row g 1 false (flat ((cur.set p y).map AG.aO)) 0)).get kk=some (.row g 1 false (flat ((cur.set p y).map AG.aO)) 0):=aH _ _ _;have s2:=rJ (x:=AG.aO x) (a:=l.length-1-p) q5 (mI _) (by rw[L_,List.length_set];omega) rfl rfl;have e2:((cur.set p y).map AG.aO).set (l.length-1-p) (AG.aO x)=((cur.set p y).set (l.length-1-p) x).map AG.aO:=(List.map_set ..).symm;rw[e2]at s2;have hw1:=aP p o_;have hw2:IntKind.wrap .i64 (((l.length-1-p:Nat):Int)-1)=(l.length:Int)-1-((p+1:Nat):Int):=by rw[bI _ o_ o_];omega
  simp only[go_sem,simprocAttr,Lh,t0,t2,t3,ej,i1,i2,l1,l2,s1,s2,hw1,hw2];refine⟨j-1,o_,_,p+1,(cur.set p y).set (l.length-1-p) x,o_,rfl,by simp only[go_sem,simprocAttr, *],by simp only[go_sem,simprocAttr, *],by simp only[go_sem,simprocAttr, *],r.step hlt hx hy,⟨jV _,.inr ⟨kk,g,?_,aH _ _ _,?_,q4⟩⟩,?_,?_⟩
  ·simp[rl]
  ·rw[alb,alb];exact q3
  ·rw[alb,alb];exact hn
  ·intro k hk';rw[aB o_,aB o_];exact hk k hk'
 ·have hge:l.length<=2*p+1:=o_;simp only[go_sem,simprocAttr];refine⟨rfl,rfl,.inl rfl,[],rfl,.tup [],H,bz (aC _),rfl,?_,hn,hk⟩;rw[<- r.fin hge];exact o'
section
variable {K:aQ}{A:Ma}{B B1:Nat}{E:AV}{M:Ms}{gN gF:Nat}{h:AH}
theorem Wg.atok {M:Ms}(g:Wg M){x:Int}{t:T}(h:At M.ts x t):TOK t:=by obtain⟨_,_,_,_,_,_,q,_⟩:=g.at_node h;exact q
structure Gs (A:Ma)(B B1:Nat)(E:AV)(M:Ms)(h0 h:AH)(M':Ms)(gN gF:Nat):Prop where
 st:St A B B1 E M' gN gF h
 g:Wg M'
 le:Le M M'
 hm:HM B B1 h0 h
theorem Sm.refl (M:Ms):Sm M M:=⟨rfl,rfl,rfl,rfl⟩
theorem Sm.trans {a b c:Ms}(x:Sm a b)(y:Sm b c):Sm a c:=⟨y.1.trans x.1,y.2.1.trans x.2.1,y.2.2.1.trans x.2.2.1,y.2.2.2.trans x.2.2.2⟩
def I1067 (A:Ma)(B B1:Nat)(E:AV)(M:Ms)(h0:AH)(f:T)(ids:List Int)(ts:List T)(j:Nat)(fr:AF)(h:AH):Prop:=∃ tm m M' gN gF r,m+j=ids.length/\fr=⟨tm,⟨[],.no,none,67⟩⟩/\Gs A B B1 E M h0 h M' gN gF/\Sm M M'/\
 nth tm 0=.ptr A.a 0 0/\nth tm 1=i_ r/\At M'.ts r (cY f (ts.take m))/\nth tm 9=.ls (ids.map AG.aO)/\nth tm 10=i_ (ids.length:Int)/\nth tm 11=i_ (m:Int)
theorem qY (f:T)(l:List T)(a:T):cY f (l++[a])=.mk 4 0 (bs []) [] [cY f l,a]:=oB f l a
theorem YU (h:AH)(x y:Int):fY true false 1 [i_ 0] 2 [(0,1,i_ x),(1,1,i_ y)] h=.val (.clip [i_ x,i_ y]) h:=(rfl)
theorem qu (i j:Nat)(x y:AX)(tm:Tm)(sz:Nat):cD [(i,x),(j,y)] tm sz=[(i*sz,sz,ev x tm),(j*sz,sz,ev y tm)]:=(rfl)
theorem Zo (x y:Int)(h:AH):cE (.clip [i_ x,i_ y]) h=(.ls ([x,y].map AG.aO),h):=by
 rw[bG (by simp[AV.free,AV.ale])];simp[AV.norm,AV.ald,AG.aO]
theorem c1067 (hK:aZ K)(km:KM K)(m:Nat)(s:St A B B1 E M gN gF h)(g:Wg M)(x:Int)(f:T)(hx:At M.ts x f)(ids:List Int)(ts:List T)(lk:Lk M.ts ids ts)(hl:ids.length<10000000000):
  Mc K (m+5) A B B1 E (67) [] [.ptr A.a 0 0,i_ x,.ls (ids.map AG.aO)] M h fun M' v=>Px (cY f ts) M M' v:=by
 refine fG hK ajG (ae (bD _ _ _ _) (ae (aG _ _ _) (ae (dM _ _) (aC _)))) ?_;unfold agR;simp only[go_sem,simprocAttr,Mg];refine bB (I1067 A B B1 E M h f ids ts) ids.length o_ ⟨_,0,M,gN,gF,x,o_,rfl,⟨s,g,Le.refl M,HM.refl h⟩,Sm.refl M,k_,k_,by simpa [cY] using hx,k_,k_,k_⟩ ?_;rintro j fr H ⟨tm,p,M',gN',gF',r,hp,rfl,⟨st,g',le,hm⟩,sm,t0,t1,ar,t9,t10,t11⟩;unfold Qg;simp only[go_sem,simprocAttr,t10,t11,Mi];refine aX (fun hlt=>?_) (fun hge=>?_)
 ·have hlt:p<ids.length:=o_;have hget:ids[p]?=some ids[p]:=a_ hlt;obtain⟨t,et,at_⟩:=lk.get hget;have ha:=fun h=>aK (f:=AG.aO) (sz:=1) (fun _=>rfl) hget .i64 h
  have ele:=cu ids[p];have hw:=aP p o_;have tk:=IE (g'.atok ar) (g'.atok (le.at at_));obtain⟨o,h',e,hm',q⟩:=TU (h:=H) (TR hK km m st g' 4 [r,ids[p]] [cY f (ts.take p),t] ⟨ar,le.at at_,trivial⟩ tk) (ae (bD _ _ _ _) (ae (aG _ _ _) (ae (Zo r ids[p] H) (aC _)))) (ae (bD _ _ _ _) (ae (aG _ _ _) (ae (dM _ _) (aC _)))) (HM.refl H);simp only[go_sem,simprocAttr,Mj,t0,t1,t9,t11,ha,ele,qu,YU];rcases q with⟨v,rfl,M2,gN2,gF2,st2,g2,le2,sm2,r2,rfl,a2⟩|rfl
  ·simp only[go_sem,simprocAttr,e,t11,hw];refine⟨j-1,o_,_,p+1,M2,gN2,gF2,r2,o_,rfl,⟨st2,g2,le.trans le2,hm.trans hm'⟩,sm.trans sm2,q_ t0,k_,?_,q_ t9,q_ t10,k_⟩;rw[List.take_add_one,et,Option.toList_some,qY];exact a2
  ·simp only[go_sem,simprocAttr,e];exact cB (hm.trans hm')
 ·have:p=ids.length:=o_;subst this;rw[lk.len,List.take_length]at ar;simp only[go_sem,simprocAttr,Mh,t1];exact fR (.inr rfl) (by simp only[go_sem,simprocAttr,ae9]) hm ⟨M',gN',gF',st,g',le,sm,r,rfl,ar⟩
end
theorem rM {base:Nat}{h:AH}{V:AV}{l:List Int}(o:Own base 1 false h V (l.map AG.aO)):∃ h',cE V h=(.ls (l.map AG.aO),h')/\h'.z=h.z/\∀ k,k<base->h'.get k=h.get k:=by
 rcases own_shut o (fun _=>rfl) with⟨rfl,e,_⟩|⟨k,g,e1,e2,e3,e4⟩
 ·rw[List.map_eq_nil_iff]at e;subst e;exact⟨h,dU h,rfl,fun _ _=>rfl⟩
 ·refine⟨h.set k (.row g 1 false (flat (l.map AG.aO)) ((l.map AG.aO).length*1)),?_,alb _ _ _,fun k' hk=>aB o_⟩;have:py V h=cP V h:=by rw[e1];rfl
  rw[cE,this,e2];show(AV.ls (AV.ald _),_)=_;rw[bw fb]
section
variable {K:aQ}{A:Ma}{B B1:Nat}{E:AV}{M:Ms}{gN gF:Nat}{h:AH}
structure Cell (A:Ma)(gN:Nat)(h:AH)(n:Nat)(nv:NV):Prop where
 l0:cj (.ptr A.kN gN (n*5)) h false 1=some (i_ nv.kind)
 l1:cj (.ptr A.kN gN (n*5+1)) h false 1=some (i_ nv.idx)
 l2:cj (.ptr A.kN gN (n*5+2)) h false 1=some (.str nv.name)
 l3:cj (.ptr A.kN gN (n*5+3)) h false 1=some (.ls (nv.L.map ba))
 l4:cj (.ptr A.kN gN (n*5+4)) h false 1=some (.ls (nv.K.map AG.aO))
 l5:cj (.ptr A.kN gN (n*5)) h true 5=some (aT nv)
theorem St.cell (s:St A B B1 E M gN gF h){n:Nat}{nv:NV}(hn:M.ns[n]?=some nv):Cell A gN h n nv:=by
 have ha:(M.ns.map aT)[n]?=some (aT nv):=by rw[List.getElem?_map,hn];rfl
 have l:=fun i y hi=>UE (i:=i) (y:=y) s.gN (wN _) ha hi
 exact⟨l 0 _ rfl,l 1 _ rfl,l 2 _ rfl,l 3 _ rfl,l 4 _ rfl,abQ s.gN (wN _) rfl ha⟩
theorem St.addr (_s:St A B B1 E M gN gF h){n:Nat}(hn:n<M.ns.length)(H:AH):cz (.row A.kN gN 5 0 M.ns.length) H 5 (i_ (n:Int))=.val (.ptr A.kN gN (n*5)) H:=ju hn H .i64
def I1060 (A:Ma)(M:Ms)(h0:AH)(x:Int)(t:T)(j:Nat)(fr:AF)(h:AH):Prop:=∃ tm c V oi out,fr=⟨tm,⟨[],.no,none,60⟩⟩/\HK h0 h/\nth tm 0=.ptr A.a 0 0/\nth tm 1=i_ (j:Int)/\nth tm 6=V/\
 At M.ts (j:Int) c/\Lk M.ts oi out/\Own h0.z 1 false h V (oi.map AG.aO)/\bF t=((bF c).1,(bF c).2++out.reverse)/\(oi.length:Int)+j<=x
theorem TS (hK:aZ K)(m:Nat)(s:St A B B1 E M gN gF h)(g:Wg M)(x:Int)(t:T)(hx:At M.ts x t):
  ∃ v h',cS K (m+2) (.fn 60 [] []) [.ptr A.a 0 0,i_ x] .no h=some (.ret v,.no,h')/\(∃ r ids,v=.tup [i_ r,.ls (ids.map AG.aO)]/\At M.ts r (bF t).1/\Lk M.ts ids (bF t).2/\ids.length<=65536)/\HK h h':=by
 refine bh hK ajN (ae (bD _ _ _ _) (ae (aG _ _ _) (aC _))) ?_;simp only[A_];obtain⟨xn,rfl,ex⟩:=hx.nat;have hxl:xn<M.ns.length:=by rw[<- g.len];exact(E_.1 ex).1
 have hmost:=g.most;unfold agY;simp only[go_sem,simprocAttr,MA,MB];refine bB (I1060 A M h xn t) xn o_ ⟨_,t,.nl,[],[],rfl,HK.refl h,k_,k_,k_,hx,trivial,fp _ _ _ _,by simp,by simp⟩ ?_;rintro j fr H ⟨tm,c,V,oi,out,rfl,hk,t0,t1,t6,ac,lk,o,sp,hle⟩;have st:=s.hk hk;obtain⟨nv,ks,hn,rfl,lkn,hlt,tok,_⟩:=g.at_node ac;have hn:M.ns[j]?=some nv:=by simpa using hn
 have hj:j<M.ns.length:=(E_.1 hn).1;have cl:=st.cell hn;have ad:=fun H=>st.addr hj H
 have gA:=st.gA;have l0:=cl.l0;have l4:=cl.l4;unfold mL at gA;unfold Qj;simp only[go_sem,simprocAttr,t0,t1,gA,ad,l0];refine aX (fun hk4=>?_) (fun hk4=>?_)
 ·have hkids:nv.K.length=2:=by
   have:=(g.nok (m_ hn)).nd.K;rw[hk4]at this;have:((nv.K.length:Nat):Int)=2:=by simpa [dW] using this
   omega
  match hkd:nv.K,ks,lkn,hkids with
  |[cf,ca],[f,a],lkn,_=>
   rw[hkd]at l4;obtain⟨af,aa,_⟩:=lkn;have i1:∀ h,cz (.ls [i_ cf,i_ ca]) h 1 (i_ 1)=.val (.vptr (i_ ca)) h:=fun h=>aK (f:=AG.aO) (sz:=1) (fun _=>rfl) (show[cf,ca][1]?=some ca from rfl) .i64 h
   have i0:∀ h,cz (.ls [i_ cf,i_ ca]) h 1 (i_ 0)=.val (.vptr (i_ cf)) h:=fun h=>aK (f:=AG.aO) (sz:=1) (fun _=>rfl) (show[cf,ca][0]?=some cf from rfl) .i64 h
   have e1:=cu ca;have e0:=cu cf;obtain⟨V',H2,ea,o',hn',hk',_⟩:=dD (x:=AG.aO ca) (z:=[i_ 0]) (bytes:=8) o hk.z rfl rfl rfl rfl (by rw[L_];omega) (by decide);have hk2:HK h H2:=⟨Nat.le_trans hk.z hn',fun k q=>(hk' k q).trans (hk.kw k q)⟩;have st2:=s.hk hk2;have gA2:=st2.gA;have l42:=(st2.cell hn).l4;rw[hkd]at l42;unfold mL at gA2;have cfn:((cf.toNat:Nat):Int)=cf:=by have:=af.1;omega
   have cfl:cf<j:=hlt cf (by rw[hkd];simp);simp only[AG.aO,List.map_cons,List.map_nil]at ea l42 e0 e1 l4;simp only[go_sem,simprocAttr,t0,t1,t6,gA,ad,l4,i1,e1,ea,gA2,l42,i0,e0];refine⟨cf.toNat,o_,_,f,V',oi++[ca],out++[a],rfl,hk2,by simp only[go_sem,simprocAttr,t0],by simp only[go_sem,simprocAttr,cfn],by simp only[go_sem,simprocAttr],by rw[cfn];exact af,lk.snoc aa,?_,?_,by simp;omega⟩
   ·rw[List.map_append];exact o'
   ·rw[sp];have:ndT nv [f,a]=.mk 4 nv.idx nv.name nv.L [f,a]:=by unfold ndT;rw[hk4]
    rw[this,ki];simp
 ·have hd:Hd (ndT nv ks):=fun e=>absurd e (by unfold ndT;exact hk4)
  rw[mb hd,List.nil_append]at sp;obtain⟨v,H2,e,rfl,o2,hn2,hk2⟩:=afJ hK m oi V h.z H o o_;obtain⟨H3,ec,hn3,hk3⟩:=rM o2;have hkk:HK h H3:=⟨by rw[hn3,hn2];exact hk.z,fun k q=>(hk3 k q).trans ((hk2 k q).trans (hk.kw k q))⟩;simp only[go_sem,simprocAttr,MC,t6,e,MD,t1];refine⟨rfl,rfl,.inr rfl,[_,_],by simp only[go_sem,simprocAttr,afd],.tup [i_ (j:Int),.ls (oi.reverse.map AG.aO)],H3,bz (ae (aG _ _ _) (ae ec (aC _))),⟨_,_,rfl,?_,?_,by rw[List.length_reverse];omega⟩,hkk⟩
  ·rw[sp];exact ac
  ·rw[sp];exact lk.rev
end
mutual
def rpT (F:Int->Int->T):T->Int->T
 |.mk k i nm ls ks,d=>if k=0 then (if i<d then .mk k i nm ls ks else F (i-d) d) else .mk k i nm ls (re F k 0 ks d)
def re (F:Int->Int->T)(k:Int):Nat->List T->Int->List T
 |_,[],_=>[]
 |j,t::l,d=>rpT F t (d+cq k j)::re F k (j+1) l d
end
section
variable {F:Int->Int->T}
theorem wu (k:Int):∀ (ks:List T) (j:Nat) (d:Int),(re F k j ks d).length=ks.length
 |[],_,_=>rfl
 |t::l,j,d=>by simp[re,wu k l (j+1) d]
theorem En (k:Int):∀ (ks:List T) (j:Nat) (d:Int) (a:Nat),(re F k j ks d)[a]?=(ks[a]?).map fun t=>rpT F t (d+cq k ((j+a:Nat):Int))
 |[],_,_,_=>by simp[re]
 |t::l,j,d,0=>by simp[re]
 |t::l,j,d,a+1=>by
  have ih:=En k l (j+1) d a;simp only[re,List.getElem?_cons_succ,ih];rw[show j+1+a=j+(a+1) by omega]
theorem Ri (k:Int)(ks:List T)(d:Int)(a:Nat)(t:T)(h:ks[a]?=some t):(re F k 0 ks d).take (a+1)=(re F k 0 ks d).take a++[rpT F t (d+cq k a)]:=by
 rw[List.take_add_one,En,h,z_];rfl
theorem tA (k:Int):∀ (l:List T) (j:Nat) (a:Int),a<=fw k j l a
 |[],_,_=>by unfold fw;omega
 |t::l,j,a=>by
  unfold fw;have:=tA k l (j+1) (max a (eD t-cq k j));omega
mutual
theorem yz:∀ (t:T) (d:Int),eD t<=d->rpT F t d=t
 |.mk k i nm ls ks,d,h=>by
  unfold eD at h;unfold rpT;by_cases hk:k=0
  ·rw[P_ hk]at h ⊢;have:=tA k ks 0 (i+1);rw[P_ o_]
  ·rw[N_ hk,uF k ks 0 _ d h]
theorem uF (k:Int):∀ (l:List T) (j:Nat) (a d:Int),fw k j l a<=d->re F k j l d=l
 |[],_,_,_,_=>rfl
 |t::l,j,a,d,h=>by
  unfold fw at h;unfold re;have:=tA k l (j+1) (max a (eD t-cq k j));rw[yz t _ o_,uF k l (j+1) _ d h]
end
end
def Fl (by_:Int)(i d:Int):T:=.mk 0 (i+d+by_) (bs []) [] []
mutual
theorem Em (b:Int):∀ (t:T) (d:Int),rpT (Fl b) t d=pU b t d
 |.mk k i nm ls ks,d=>by
  unfold rpT pU;by_cases hk:k=0
  ·rw[P_ hk,P_ hk];by_cases hi:i<d
   ·rw[P_ hi,P_ hi]
   ·rw[N_ hi,N_ hi];unfold Fl;rw[show i-d+d+b=i+b by omega]
  ·rw[N_ hk,N_ hk,yx b k ks 0 d]
theorem yx (b k:Int):∀ (l:List T) (j:Nat) (d:Int),re (Fl b) k j l d=pG b k j l d
 |[],_,_=>rfl
 |t::l,j,d=>by unfold re pG;rw[Em b t _,yx b k l (j+1) d]
end
def Fp (vs:List T)(i d:Int):T:=match vs[i.toNat]? with
 |some x=>pU d x 0
 |none=>.mk 0 (i-vs.length+d) (bs []) [] []
mutual
theorem El (vs:List T):∀ (t:T) (d:Int),rpT (Fp vs) t d=jB vs t d
 |.mk k i nm ls ks,d=>by
  unfold rpT jB;by_cases hk:k=0
  ·rw[P_ hk,P_ hk];by_cases hi:i<d
   ·rw[P_ hi,N_ o_]
   ·rw[N_ hi,P_ o_];unfold Fp;cases vs[(i-d).toNat]? with
    |some x=>rfl
    |none=>simp only;rw[show i-d-vs.length+d=i-vs.length by omega]
  ·rw[N_ hk,N_ hk,yw vs k ks 0 d]
theorem yw (vs:List T)(k:Int):∀ (l:List T) (j:Nat) (d:Int),re (Fp vs) k j l d=vo vs k j l d
 |[],_,_=>rfl
 |t::l,j,d=>by unfold re vo;rw[El vs t _,yw vs k l (j+1) d]
end
structure Ct (M:Ms):Prop where
 v0:0<=M.vis
 v1:M.vis<=4000000
 c0:0<=M.con
 c1:M.con<=20000
structure Sv (M M':Ms):Prop where
 w:M'.w=M.w
 n:M'.n=M.n
 con:M'.con=M.con
 vis:M.vis<=M'.vis
 le:M'.vis<=4000000
theorem Sm.v {M M':Ms}(s:Sm M M')(c:Ct M):Sv M M':=⟨s.1,s.2.1,s.2.2.1,by have:=s.2.2.2;omega,by have:=s.2.2.2;have:=c.v1;omega⟩
theorem Sv.refl {M:Ms}(c:Ct M):Sv M M:=⟨rfl,rfl,rfl,Int.le_refl _,c.v1⟩
theorem Sv.trans {a b c:Ms}(x:Sv a b)(y:Sv b c):Sv a c:=⟨y.w.trans x.w,y.n.trans x.n,y.con.trans x.con,Int.le_trans x.vis y.vis,y.le⟩
theorem Sv.ct {M M':Ms}(s:Sv M M')(c:Ct M):Ct M':=⟨Int.le_trans c.v0 s.vis,s.le,by rw[s.con];exact c.c0,by rw[s.con];exact c.c1⟩
def Sn (F:Int->Int->T)(M:Ms)(sn:List ((Int×Int)×Int)):Prop:=∀ e∈sn,∃ t,At M.ts e.1.1 t/\At M.ts e.2 (rpT F t e.1.2)
theorem Sn.up {F:Int->Int->T}{M M':Ms}{sn:List ((Int×Int)×Int)}(s:Sn F M sn)(le:Le M M'):Sn F M' sn:=fun e he=>by
 obtain⟨t,a,b⟩:=s e he;exact⟨t,le.at a,le.at b⟩
theorem Sn.add {F:Int->Int->T}{M:Ms}{sn:List ((Int×Int)×Int)}(s:Sn F M sn){i d o:Int}{t:T}(a:At M.ts i t)(b:At M.ts o (rpT F t d)):Sn F M (stg sn (i,d) o):=fun e he=>by
 rcases stg_mem he with rfl|he
 ·exact⟨t,a,b⟩
 ·exact s e he
structure Cl (A:Ma)(fv:AV)(cM cS cF cW kS:Nat)(sn:List ((Int×Int)×Int))(h:AH):Prop where
 gM:h.get cM=some (.box [.ptr A.a 0 0])
 gS:h.get cS=some (.box [.map kS])
 gF:h.get cF=some (.box [fv])
 gW:h.get cW=some (.box [.fn (140) [] [.ptr cM 0 0,.ptr cS 0 0,.ptr cF 0 0,.ptr cW 0 0]])
 mS:h.get kS=some (.map (mpg Tk AG.aO sn))
structure HX (B B1 kS:Nat)(h h':AH):Prop where
 z:h.z<=h'.z
 kw:∀ k,k<h.z->k<B∨B1<=k->k≠kS->h'.get k=h.get k
section
variable {B B1 kS:Nat}{h h' h'':AH}
theorem HX.refl (h:AH):HX B B1 kS h h:=⟨e_ _,fun _ _ _ _=>rfl⟩
theorem HX.trans (x:HX B B1 kS h h')(y:HX B B1 kS h' h''):HX B B1 kS h h'':=⟨Nat.le_trans x.z y.z,fun k hk q n=>(y.kw k (Nat.lt_of_lt_of_le hk x.z) q n).trans (x.kw k hk q n)⟩
theorem HM.x (x:HM B B1 h h'):HX B B1 kS h h':=⟨x.z,fun k hk q _=>x.kw k hk q⟩
theorem HX.set (x:HX B B1 kS h h'){k:Nat}(o:fD)(hk:h.z<=k∨k=kS):HX B B1 kS h (h'.set k o):=
 ⟨by rw[alb];exact x.z,fun j hj q n=>by rw[aB o_];exact x.kw j hj q n⟩
theorem HX.new (x:HX B B1 kS h h')(o:fD):HX B B1 kS h (h'.new o):=x.trans (HK.new _ _).m.x
end
