/- MachineKeeps: weak head normal forms (no condition). -/
import Derived.Test.YtocdlbblemjabaaGreatDoorBh
namespace Go.Proofs.YtocdlbblemjabaaGreatDoor
open Go.AG Go.AG.MK
theorem abm {C:MK.Cx}{j k:Nat}{h h':T}{as_ as':List T}{u:T}(s:MK.step C (Wn C j) h as_=some (.next h' as'))(q:wf C k h' as'=some u):∃ n,wf C n h as_=some u:=by
 refine⟨max j k+1,?_⟩;unfold wf;rw[ye (W':=fun t=>wf C (max j k) t []) (fun t u e=>wV (Nat.le_max_left j k) e) h as_ _ s];exact wV (Nat.le_max_right j k) q
theorem sd {C:MK.Cx}{j:Nat}{h h':T}{as_ as':List T}(s:MK.step C (Wn C j) h as_=some (.stuck h' as')):∃ n,wf C n h as_=some (cY h' as'):=by
 refine⟨j+1,?_⟩;unfold wf;rw[show(fun t=>wf C j t [])=Wn C j from rfl,s]
theorem Dt {C:MK.Cx}: ∀ (b:Nat) (t:T) (as_:List T) (n:Nat) (u:T),size t<=b->wf C n (bF t).1 ((bF t).2++as_)=some u->∃ m,wf C m t as_=some u:=by
 intro b;induction b with
 |zero=>intro t _ _ _ h;have:=bZ t;omega
 |succ b ih=>
  intro t as_ n u hb q;by_cases hd:Hd t
  ·rw[mb hd]at q;exact⟨n,q⟩
  ·obtain⟨k,i,nm,ls,ks⟩:=t;unfold Hd at hd;simp only[T.kind,T.K,Classical.not_imp,Decidable.not_not]at hd;obtain⟨rfl,hd⟩:=hd
   match ks,hd with
   |[f,a],_=>
    rw[ki]at q;simp only[List.append_assoc,List.cons_append,List.nil_append]at q;simp only[size,bO]at hb;obtain⟨m,hm⟩:=ih f (a::as_) n u o_ q;exact⟨m+1,by unfold wf;exact hm⟩
theorem abl {C:MK.Cx}{t u:T}(h:Wh C t u):Wh C u u:=by
 obtain⟨n,h⟩:=h;obtain⟨h',as',rfl,m,s⟩:=Ds _ _ _ _ h;exact sk_wf s
theorem step5 (C:MK.Cx)(W:T->Option T)(i:Int)(nm:ByteArray)(ls:List LL)(a b:T)(as_:List T):MK.step C W (.mk 5 i nm ls [a,b]) as_=match as_ with
  |[]=>some (.stuck (.mk 5 i nm ls [a,b]) as_)
  |x::l=>some (.next (jB [x] b 0) l):=rfl
theorem ahS (C:MK.Cx)(W:T->Option T)(i:Int)(nm:ByteArray)(ls:List LL)(a v b:T)(as_:List T):MK.step C W (.mk 11 i nm ls [a,v,b]) as_=some (.next (jB [v] b 0) as_):=rfl
theorem stepP {k:Int}(hk:k=9∨k=10)(C:MK.Cx)(W:T->Option T)(i:Int)(nm:ByteArray)(ls:List LL)(a:T)(as_:List T):MK.step C W (.mk k i nm ls [a]) as_=match W a with
  |none=>none
  |some p=>match ua k p with
   |some q=>some (.next q as_)
   |none=>some (.stuck (oc k p) as_):=by
 rcases hk with rfl|rfl<;>rfl
theorem stepE (C:MK.Cx)(W:T->Option T)(h:T)(as_:List T)(h3:h.kind≠3)(h4:h.kind≠4)(h5:h.kind≠5)(h9:h.kind≠9)(h10:h.kind≠10)(h11:h.kind≠11):MK.step C W h as_=some (.stuck h as_):=by
 obtain⟨k,i,nm,ls,ks⟩:=h;simp only[T.kind]at h3 h4 h5 h9 h10 h11;unfold MK.step;simp only[T.kind,T.K];split<;>first|rfl|exact absurd rfl h4|exact absurd rfl h5|exact absurd rfl h11|exact absurd rfl h9|exact absurd rfl h10|exact absurd rfl h3
theorem kid1 {ts:List T}{l:List Int}{ks:List T}(lk:Lk ts l ks)(h:l.length=1):∃ a t,l=[a]/\ks=[t]/\At ts a t:=by
 match l,ks,lk,h with
 |[a],[t],lk,_=>exact⟨a,t,rfl,rfl,lk.1⟩
theorem kid2 {ts:List T}{l:List Int}{ks:List T}(lk:Lk ts l ks)(h:l.length=2):∃ a b t u,l=[a,b]/\ks=[t,u]/\At ts a t/\At ts b u:=by
 match l,ks,lk,h with
 |[a,b],[t,u],lk,_=>exact⟨a,b,t,u,rfl,rfl,lk.1,lk.2.1⟩
theorem akZ {ts:List T}{l:List Int}{ks:List T}(lk:Lk ts l ks)(h:l.length=3):∃ a b c t u w,l=[a,b,c]/\ks=[t,u,w]/\At ts a t/\At ts b u/\At ts c w:=by
 match l,ks,lk,h with
 |[a,b,c],[t,u,w],lk,_=>exact⟨a,b,c,t,u,w,rfl,rfl,lk.1,lk.2.1,lk.2.2.1⟩
theorem air (h:AH)(a b:List AV):fY true false 1 [.nl] 2 [(0,1,.ls a),(1,1,.ls b)] h=.val (.clip [.ls a,.ls b]) h:=(rfl)
theorem SG (a b:List Int)(h:AH):cE (.clip [.ls (a.map AG.aO),.ls (b.map AG.aO)]) h=(.ls ([a,b].map encZ),h):=by
 rw[bG (by simp[AV.free,AV.ale,bE jc])];simp[AV.norm,AV.ald,encZ,bw fb]
theorem mP (h:AH)(x:Int):fY true false 1 [i_ 0] 1 [(0,1,i_ x)] h=.val (.clip [i_ x]) h:=(rfl)
theorem mo (a:Int)(h:AH):cE (.clip [i_ a]) h=(.ls ([a].map AG.aO),h):=by
 rw[bG (by simp[AV.free,AV.ale])];simp[AV.norm,AV.ald,AG.aO]
section
variable {K:aQ}{A:Ma}{B B1:Nat}{E:AV}{env:List DV}{M:Ms}{gN gF:Nat}{h:AH}{C:MK.Cx}{inst:T->List LL->Option T}
theorem St.putW (s:St A B B1 E M gN gF h)(w:List (Int×Int)):St A B B1 E {M with w:=w} gN gF (h.set A.kW (.map (mpg AG.aO AG.aO w))):=by
 obtain⟨n1,n2,n3,n4,n5,n6,n7,n8,n9,n10,n11,n12,n13,n14,n15⟩:=s.ok.ne;exact⟨s.ok,by rw[aB n4];exact s.gA,by rw[aB n8];exact s.gI,by rw[aB n11];exact s.gN,by rw[aB n13];exact s.gF,aH _ _ _,by rw[aB n15.symm];exact s.gM,by rw[alb];exact s.b1⟩
theorem St.putN (s:St A B B1 E M gN gF h)(w:List (Int×Int)):St A B B1 E {M with n:=w} gN gF (h.set A.kM (.map (mpg AG.aO AG.aO w))):=by
 obtain⟨n1,n2,n3,n4,n5,n6,n7,n8,n9,n10,n11,n12,n13,n14,n15⟩:=s.ok.ne;exact⟨s.ok,by rw[aB n5];exact s.gA,by rw[aB n9];exact s.gI,by rw[aB n12];exact s.gN,by rw[aB n14];exact s.gF,by rw[aB n15];exact s.gW,aH _ _ _,by rw[alb];exact s.b1⟩
theorem Wg.same {M M':Ms}(g:Wg M)(h1:M'.ns=M.ns)(h2:M'.ts=M.ts)(h3:M'.fr=M.fr):Wg M':=
 ⟨by rw[h1,h2];exact g.len,by rw[h1,h3];exact g.lenF,by rw[h1];exact g.most,by rw[h1,h2];exact g.node,by rw[h2,h3];exact g.free,by rw[h2];exact g.tok,by rw[h2];exact g.nd⟩
theorem Le.same {M M':Ms}(h1:M'.ns=M.ns)(h2:M'.ts=M.ts):Le M M':=⟨⟨[],by rw[h1];simp⟩,⟨[],by rw[h2];simp⟩⟩
def abf (A:Ma)(B B1:Nat)(E:AV)(C:MK.Cx)(M:Ms)(x:Int)(t:T)(h0:AH)(j:Nat)(fr:AF)(h:AH):Prop:=∃ tm M' gN gF ht hid ids as_,j=(4000001-M'.vis).toNat/\fr=⟨tm,⟨[],.no,none,31⟩⟩/\
 nth tm 0=.ptr A.a 0 0/\nth tm 1=i_ x/\nth tm 7=i_ hid/\nth tm 8=.ls (ids.map AG.aO)/\Gs A B B1 E M h0 h M' gN gF/\Mx C M M'/\
 At M'.ts hid ht/\Lk M'.ts ids as_/\(ids.length:Int)<=70000*(M'.con+1)/\Hd ht/\∀ n u,wf C n ht as_=some u->Wh C t u
theorem c1031 (hK:aZ K)(km:KM K)(kg:KG K)(eg:Eg env){m0:Nat}(ci:Ci K A B B1 (.ls (env.map bW)) inst m0):
  ∀ (n:Nat) (v0:Int),(4000001-v0).toNat<=n->∀ m,270000+m0+10*n<=m->Wq K A B B1 (.ls (env.map bW)) (Ce env inst) m v0:=by
 intro n;induction n with
 |zero=>
  intro v0 hn m hm M gN gF h x t s g c mem hv hx;have:=c.v1;omega
 |succ n ih=>
 intro v0 hn m hm M gN gF h x t s g c mem hv hx;obtain⟨m,rfl⟩:∃ k,m=k+3:=⟨m-3,o_⟩
 refine fG hK aj0 (ae (bD _ _ _ _) (ae (aG _ _ _) (aC _))) ?_;have b1:=s.b1;have ra:=s.ok.rng;have gA:=s.gA;have hlk:=fun z=>kY (kf:=AG.aO) (t:=1) AG.aO dI s.gW x z true
 unfold mL at gA;have hlk':∀ z,fm h 1 z true (.map A.kW) (i_ x)=_:=hlk
 have iaI:∀ (l:List Int) (i:Nat) (y:Int) (h:AH),l[i]?=some y->cz (.ls (l.map AG.aO)) h 1 (i_ (i:Int))=.val (.vptr (i_ y)) h:=fun l i y h e=>aK (f:=AG.aO) (sz:=1) (fun _=>rfl) e .i64 h
 have fin:∀ (tm:Tm) (H:AH) (M':Ms) (gN' gF':Nat) (hid:Int) (ids:List Int) (ht:T) (as_:List T),nth tm 0=.ptr A.a 0 0->nth tm 1=i_ x->nth tm 7=i_ hid->nth tm 8=.ls (ids.map AG.aO)->Gs A B B1 (.ls (env.map bW)) M h H M' gN' gF'->Mx (Ce env inst) M M'->
   At M'.ts hid ht->Lk M'.ts ids as_->(ids.length:Int)<=70000*(M'.con+1)->Wh (Ce env inst) t (cY ht as_)->
   R (cS K (m+2)) 1000000000000 [.code oJ] (XQ (cS K (m+2)) Ch (ru (PM B B1 h fun v h'=>Gq A B B1 (.ls (env.map bW)) M h' fun M'=>Mx (Ce env inst) M M'/\∃ r u,v=i_ r/\At M'.ts r u/\Wh (Ce env inst) t u))) .normal ⟨tm,⟨[],.no,none,31⟩⟩ H:=by
  rintro tm H M' gN' gF' hid ids ht as_ t0 t1 t7 t8 ⟨st,g',le,hm'⟩ mx ah lk hl wh;have cc:=mx.ct.c1;obtain⟨o2,H2,e2,hm2,q2⟩:=c1067 hK km (m-3) st g' hid ht ah ids as_ lk o_;rw[show m-3+5=m+2 by omega]at e2;simp only[go_sem,Nat.reduceEqDiff,oJ,t0,t7,t8];rcases q2 with⟨v,rfl,M2,gN2,gF2,st2,g2,le2,sm2,r,rfl,ar⟩|rfl
  ·have mx2:=mx.trans (sm2.mx mx.ct mx.mem le2);have le02:=le.trans le2;have gA2:=st2.gA;have up1:=lU (kf:=AG.aO) (t:=1) AG.aO dI st2.gW x r;have s3:=st2.putW (stg M2.w x r);have gA3:=s3.gA;have up2:=lU (kf:=AG.aO) (t:=1) AG.aO dI s3.gW r r;have s4:=s3.putW (stg (stg M2.w x r) r r);have up1:fK H2 1 (.map A.kW) (i_ x) (i_ r)=_:=up1;have up2:fK (H2.set A.kW (.map (mpg AG.aO AG.aO (stg M2.w x r)))) 1 (.map A.kW) (i_ r) (i_ r)=_:=up2;unfold mL at gA2 gA3;simp only[go_sem,Nat.reduceEqDiff,reduceCtorEq,e2,NA,t0,t1,gA2,up1,NB,gA3,up2,NC];refine fR (.inr rfl) (by simp only[go_sem,Ch]) (((hm'.trans hm2).set _ (.inr ra.2.2.2.2.1)).set _ (.inr ra.2.2.2.2.1)) ⟨_,gN2,gF2,s4,g2.same rfl rfl rfl,le02.trans (Le.same rfl rfl),⟨⟨mx2.ct.v0,mx2.ct.v1,mx2.ct.c0,mx2.ct.c1⟩,⟨fun e he=>?_,fun e he=>mx2.mem.n e he⟩,mx2.vis,mx2.con⟩,r,_,rfl,ar,wh⟩;rcases stg_mem he with rfl|he
   ·exact⟨_,_,ar,ar,abl wh⟩
   ·rcases stg_mem he with rfl|he
    ·exact⟨t,_,le02.at hx,ar,wh⟩
    ·exact mx2.mem.w e he
  ·simp only[go_sem,e2];exact cB (hm'.trans hm2)
 unfold ahb;simp only[go_sem,Nat.reduceEqDiff,reduceCtorEq,Ee,gA,hlk'];cases hw:lkg M.w x with
 |some o=>
  obtain⟨t',u,a1,a2,wh⟩:=mem.w _ (sF hw);have:=hx.det a1;subst this;simp only[go_sem,Nat.reduceEqDiff,AG.aO];exact fR (.inr rfl) (by simp only[go_sem,Ch]) (HM.refl h) ⟨M,gN,gF,s,g,Le.refl M,Mx.refl c mem,o,u,rfl,a2,wh⟩
 |none=>
  obtain⟨v,H1,e1,⟨r,ids,rfl,ah,lk,hil⟩,k1⟩:=TS hK m s g x t hx;simp only[go_sem,Nat.reduceEqDiff,reduceCtorEq,Ef,e1,Eh];have c0:=c.c0;have cv:=c.v0;refine bB (abf A B B1 (.ls (env.map bW)) (Ce env inst) M x t h) (4000001-M.vis).toNat o_ ⟨_,M,gN,gF,(bF t).1,r,ids,(bF t).2,rfl,rfl,by simp only[go_sem,reduceCtorEq],by simp only[go_sem,Nat.reduceEqDiff],by simp only[go_sem,Nat.reduceEqDiff],by simp only[go_sem],⟨s.hk k1,g,Le.refl M,HK.m k1⟩,Mx.refl c mem,ah,lk,o_,wc t,fun n u q=>Dt _ t [] n u (e_ _) (by rw[A_];exact q)⟩ ?_;rintro j fr H ⟨tm,M2,gN2,gF2,ht,hid,ids,as_,rfl,rfl,t0,t1,t7,t8,⟨st,g2,le2,hm2⟩,mx2,ah,lk,hil,hhd,back⟩;have cc:=mx2.ct.c1;have hmv:=mx2.vis;have cc0:=mx2.ct.c0;have stuck3:∀ (tm:Tm) (H4:AH) (M4:Ms) (gN4 gF4:Nat) (hid:Int) (ids':List Int) (ht:T) (as':List T),nth tm 0=.ptr A.a 0 0->nth tm 1=i_ x->nth tm 7=i_ hid->nth tm 8=.ls (ids'.map AG.aO)->nth tm 11=.bool false->Gs A B B1 (.ls (env.map bW)) M h H4 M4 gN4 gF4->Mx (Ce env inst) M M4->At M4.ts hid ht->Lk M4.ts ids' as'->(ids'.length:Int)<=70000*(M4.con+1)->Wh (Ce env inst) t (cY ht as')->
    R (cS K (m+2)) 1000000000000 [.code sx,.out 1] (LQ (cS K (m+2)) 1000000000000 (abf A B B1 (.ls (env.map bW)) (Ce env inst) M x t h) (4000001-M2.vis).toNat [.out 0,.code oJ] (XQ (cS K (m+2)) Ch (ru (PM B B1 h fun v h'=>Gq A B B1 (.ls (env.map bW)) M h' fun M'=>Mx (Ce env inst) M M'/\∃ r u,v=i_ r/\At M'.ts r u/\Wh (Ce env inst) t u)))) .normal ⟨tm,⟨[],.no,none,31⟩⟩ H4:=by
   intro tm H4 M4 gN4 gF4 hid ids' ht as' t0 t1 t7 t8 t11 gs mx a l hl wh;simp only[go_sem,reduceCtorEq,sx,t11];exact fin _ _ M4 gN4 gF4 hid ids' ht as' (by simp only[go_sem,reduceCtorEq,t0]) (by simp only[go_sem,Nat.reduceEqDiff,t1]) (by simp only[go_sem,Nat.reduceEqDiff,t7]) (by simp only[go_sem,Nat.reduceEqDiff,t8]) gs mx a l hl wh
  have goOn:∀ (tm:Tm) (H4:AH) (M4:Ms) (gN4 gF4:Nat) (r:Int) (z:List Int) (y:T) (l:List T),nth tm 0=.ptr A.a 0 0->nth tm 1=i_ x->nth tm 9=i_ r->nth tm 10=.ls (z.map AG.aO)->nth tm 11=.bool true->Gs A B B1 (.ls (env.map bW)) M h H4 M4 gN4 gF4->Mx (Ce env inst) M M4->M2.vis+1<=M4.vis->M2.con<=M4.con->At M4.ts r y->Lk M4.ts z l->(z.length:Int)<=70000*(M2.con+1)+400->(∃ k,MK.step (Ce env inst) (Wn (Ce env inst) k) ht as_=some (.next y l))->
    R (cS K (m+2)) 1000000000000 [.code sx,.out 1] (LQ (cS K (m+2)) 1000000000000 (abf A B B1 (.ls (env.map bW)) (Ce env inst) M x t h) (4000001-M2.vis).toNat [.out 0,.code oJ] (XQ (cS K (m+2)) Ch (ru (PM B B1 h fun v h'=>Gq A B B1 (.ls (env.map bW)) M h' fun M'=>Mx (Ce env inst) M M'/\∃ r u,v=i_ r/\At M'.ts r u/\Wh (Ce env inst) t u)))) .normal ⟨tm,⟨[],.no,none,31⟩⟩ H4:=by
   rintro tm H4 M4 gN4 gF4 r z y l t0 t1 t9 t10 t11 ⟨st4,g4,le4,hm4⟩ mx4 hv4 hc4 ar al hz ⟨sk,hs⟩;have cc4:=mx4.ct.c1;have cv4:=mx4.ct.v1;obtain⟨o5,H5,e5,hm5,q5⟩:=c1065 hK m st4 mx4.ct.c0 mx4.ct.c1;simp only[go_sem,reduceCtorEq,sx,t11,NG,t0];rcases q5 with⟨v,rfl,rfl,hc5,st5⟩|rfl
   ·obtain⟨M5,hM5⟩:∃ M5:Ms,M5={M4 with con:=M4.con+1}:=⟨_,rfl⟩
    rw[<- hM5]at st5;have g5:Wg M5:=g4.same (by rw[hM5]) (by rw[hM5]) (by rw[hM5]);have le5:Le M4 M5:=Le.same (by rw[hM5]) (by rw[hM5]);have con5:M5.con=M4.con+1:=by rw[hM5]
    have mx5:Mx (Ce env inst) M M5:=mx4.trans ⟨⟨by rw[hM5];exact mx4.ct.v0,by rw[hM5];exact mx4.ct.v1,by rw[con5];have:=mx4.ct.c0;omega,by rw[con5];omega⟩,mx4.mem.up le5 (by rw[hM5]) (by rw[hM5]),by rw[hM5];exact Int.le_refl _,by rw[con5];omega⟩;have vis5:M5.vis=M4.vis:=by rw[hM5]
    clear hM5;obtain⟨v6,H6,e6,⟨r6,ids6,rfl,ah6,lk6,hil6⟩,k6⟩:=TS hK m st5 g5 r y (le5.at ar);obtain⟨v7,H7,e7,rfl,k7⟩:=afK hK kg (m+1) [ids6,z] (by simp;omega) (by simp) H6;rw[show m+1+1=m+2 by omega,<- jo (f:=66) (c:=[]) (ae (SG ids6 z H6) (aC _)) (ae (Ir _ _) (aC _))]at e7;simp only[go_sem,Nat.reduceEqDiff,Nat.reduceMul,reduceCtorEq,NH,NI,t0,t9,t10,e5,e6,qu,air,e7];refine⟨(4000001-M5.vis).toNat,o_,_,M5,gN4,gF4,(bF y).1,r6,ids6++z,(bF y).2++l,rfl,rfl,by simp only[go_sem,reduceCtorEq,t0],by simp only[go_sem,Nat.reduceEqDiff,t1],by simp only[go_sem,Nat.reduceEqDiff],by simp only[go_sem,List.flatten_cons,List.flatten_nil,A_],⟨(st5.hk k6).hk k7,g5,le4.trans le5,((hm4.trans hm5).trans (HK.m k6)).trans (HK.m k7)⟩,mx5,ah6,lk6.append (le5.lk al),by rw[List.length_append];push_cast;omega,wc y,fun n u q=>?_⟩;obtain⟨a,ha⟩:=Dt _ y l n u (e_ _) q;obtain⟨b,hb⟩:=abm hs ha;exact back b u hb
   ·simp only[go_sem,e5];exact cB (hm4.trans hm5)
  obtain⟨o1,H1,e1,hm1,q1⟩:=Iv (h:=H) hK (m:=m+2) o_ st g2 mx2.ct;unfold Qr;rcases q1 with⟨v,rfl,rfl,M3,gN3,gF3,st3,g3,le3,hM3,sv3⟩|rfl
  ·have v3:M3.vis=M2.vis+1:=by rw[hM3]
   have c3:M3.con=M2.con:=by rw[hM3]
   have mx3:=mx2.trans (sv3.mx mx2.ct mx2.mem le3);have le03:=le2.trans le3;have hm3:=hm2.trans hm1;have ah3:=le3.at ah;have lk3:=le3.lk lk;clear hM3;obtain⟨hidn,rfl,eh⟩:=ah.nat;obtain⟨nv,ks,hn,rfl,lkn,hlt,tok,_⟩:=g3.at_node ah3;have hn:M3.ns[hidn]?=some nv:=by simpa using hn
   have hj:hidn<M3.ns.length:=(E_.1 hn).1;have nok:=g3.nok (m_ hn);have cl:=st3.cell hn;have ad:=fun H=>st3.addr hj H
   have gA3:=st3.gA;have l5:=cl.l5;unfold mL at gA3;unfold aT at l5;have nx3:=hm3.z;simp only[go_sem,Nat.reduceEqDiff,Nat.reduceAdd,reduceCtorEq,t0,e1,ND,t7,t8,NF,gA3,ad,l5];obtain⟨H2,hH2⟩:∃ H2:AH,H2=(H1.new (.box [i_ 0,i_ 0,.str (bs []),.nl,.nl])).set H1.z (.box [i_ nv.kind,i_ nv.idx,.str nv.name,.ls (nv.L.map ba),.ls (nv.K.map AG.aO)]):=⟨_,rfl⟩
   rw[<- hH2];have k2:HK H1 H2:=by rw[hH2];exact(HK.new _ _).set _ (e_ _)
   have g12:H2.get H1.z=some (.box [i_ nv.kind,i_ nv.idx,.str nv.name,.ls (nv.L.map ba),.ls (nv.K.map AG.aO)]):=by rw[hH2,aH]
   have nx2:H2.z=H1.z+1:=by rw[hH2,alb,ala]
   clear hH2;have st2:=st3.hk k2;have hm23:=hm3.trans (HK.m k2);refine aX (fun h5=>?_) (fun h5=>?_)
   ·obtain⟨ca,cb,ta,tb,hkd,rfl,aa,ab⟩:=kid2 lkn (by have q:=nok.nd.K;rw[h5]at q;exact Int.ofNat_inj.1 (q.trans rfl));have hnd:ndT nv [ta,tb]=.mk 5 nv.idx nv.name nv.L [ta,tb]:=by unfold ndT;rw[h5]
    have stp:=fun W=>step5 (Ce env inst) W nv.idx nv.name nv.L ta tb as_
    rw[<- hnd]at stp;by_cases hz:ids=[]
    ·have dl0:decide ((ids.length:Int) > 0)=false:=D_ (by rw[hz];simp);simp only[go_sem,Nat.reduceEqDiff,t8,L_,dl0];have has:as_=[]:=by
      have lk0:=lk3;rw[hz]at lk0;cases as_ with
      |cons _ _=>exact lk0.elim
      |nil=>rfl
     subst has;obtain⟨b,hb⟩:=sd (j:=0) (stp _);exact stuck3 _ H2 M3 gN3 gF3 (hidn:Int) ids _ [] (by simp only[go_sem,reduceCtorEq,t0]) (by simp only[go_sem,Nat.reduceEqDiff,t1]) (by simp only[go_sem,Nat.reduceEqDiff,t7]) (by simp only[go_sem,Nat.reduceEqDiff,t8]) (by simp only[go_sem,Nat.reduceEqDiff]) ⟨st2,g3,le03,hm23⟩ mx3 ah3 lk3 o_ (back b _ hb)
    ·obtain⟨i0,il,hc⟩:∃ a l,ids=a::l:=by
      cases ids with
      |nil=>exact absurd rfl hz
      |cons a l=>exact⟨a,l,rfl⟩
     have lk0:=lk3;rw[hc]at lk0;cases as_ with
     |nil=>exact lk0.elim
     |cons a0 al=>
      obtain⟨ai0,lk0⟩:=lk0;have hl0:0<ids.length:=by rw[hc];simp
      have dl0:decide ((ids.length:Int) > 0)=true:=t_;have ia:∀ h,cz (.ls (ids.map AG.aO)) h 1 (i_ 0)=.val (.vptr (i_ i0)) h:=fun h=>iaI ids 0 i0 h (by rw[hc];rfl)
      have ib:∀ h,cz (.ls (nv.K.map AG.aO)) h 1 (i_ 1)=.val (.vptr (i_ cb)) h:=fun h=>iaI nv.K 1 cb h (by rw[hkd];rfl)
      have le0:=cu i0;have leb:=cu cb;have hsl:=fun(tm:Tm) (h:AH)=>oT h ids (n:=1) (tm:=tm) (x:=.c (i_ 1)) rfl o_
      obtain⟨o8,H8,e8,hm8,q8⟩:=aa4 hK km (m:=m+2) o_ st2 g3 mx3.ct ab (ids:=[i0]) (vs:=[a0]) ⟨ai0,trivial⟩ (by simp);rw[<- jo (f:=62) (c:=[]) (ae (bD _ _ _ _) (ae (aG _ _ _) (ae (mo i0 H2) (aC _)))) (ae (bD _ _ _ _) (ae (aG _ _ _) (ae (dM _ _) (aC _))))]at e8;simp only[AG.aO]at le0 leb;rcases q8 with⟨v,rfl,M8,gN8,gF8,st8,g8,le8,sv8,r8,rfl,a8⟩|rfl
      ·simp only[go_sem,Nat.reduceEqDiff,Nat.reduceMul,reduceCtorEq,L_,dl0,g12,t0,t8,ia,ib,le0,leb,dT,mP,e8,hsl];exact goOn _ H8 M8 gN8 gF8 r8 (ids.drop 1) _ al (by simp only[go_sem,reduceCtorEq,t0]) (by simp only[go_sem,Nat.reduceEqDiff,t1]) (by simp only[go_sem,Nat.reduceEqDiff]) (by simp only[go_sem]) (by simp only[go_sem,Nat.reduceEqDiff]) ⟨st8,g8,le03.trans le8,hm23.trans hm8⟩ (mx3.trans (sv8.mx mx3.ct mx3.mem le8)) (by have:=sv8.vis;omega) (by rw[sv8.con,c3];exact Int.le_refl _) a8 (le8.lk (by rw[hc];exact lk0)) (by rw[List.length_drop];omega) ⟨0,stp _⟩
      ·simp only[go_sem,Nat.reduceEqDiff,Nat.reduceMul,Nat.reduceSub,Nat.reduceLT,reduceCtorEq,L_,dl0,g12,t0,t8,ia,ib,le0,leb,dT,mP,e8,hsl];exact cB (hm23.trans hm8)
   ·simp only[go_sem,Nat.reduceEqDiff];refine aX (fun h11=>?_) (fun h11=>?_)
    ·obtain⟨ca,cv,cb,ta,tv,tb,hkd,rfl,aa,av,ab⟩:=akZ lkn (by have q:=nok.nd.K;rw[h11]at q;exact Int.ofNat_inj.1 (q.trans rfl));have hnd:ndT nv [ta,tv,tb]=.mk 11 nv.idx nv.name nv.L [ta,tv,tb]:=by unfold ndT;rw[h11]
     have stp:=fun W=>ahS (Ce env inst) W nv.idx nv.name nv.L ta tv tb as_
     rw[<- hnd]at stp;have ia:∀ h,cz (.ls (nv.K.map AG.aO)) h 1 (i_ 1)=.val (.vptr (i_ cv)) h:=fun h=>iaI nv.K 1 cv h (by rw[hkd];rfl)
     have ib:∀ h,cz (.ls (nv.K.map AG.aO)) h 1 (i_ 2)=.val (.vptr (i_ cb)) h:=fun h=>iaI nv.K 2 cb h (by rw[hkd];rfl)
     have le0:=cu cv;have leb:=cu cb;obtain⟨o8,H8,e8,hm8,q8⟩:=aa4 hK km (m:=m+2) o_ st2 g3 mx3.ct ab (ids:=[cv]) (vs:=[tv]) ⟨av,trivial⟩ (by simp);rw[<- jo (f:=62) (c:=[]) (ae (bD _ _ _ _) (ae (aG _ _ _) (ae (mo cv H2) (aC _)))) (ae (bD _ _ _ _) (ae (aG _ _ _) (ae (dM _ _) (aC _))))]at e8;simp only[AG.aO]at le0 leb;rcases q8 with⟨v,rfl,M8,gN8,gF8,st8,g8,le8,sv8,r8,rfl,a8⟩|rfl
     ·simp only[go_sem,Nat.reduceEqDiff,Nat.reduceMul,reduceCtorEq,g12,t0,ia,ib,le0,leb,dT,mP,e8];exact goOn _ H8 M8 gN8 gF8 r8 ids _ as_ (by simp only[go_sem,reduceCtorEq,t0]) (by simp only[go_sem,Nat.reduceEqDiff,t1]) (by simp only[go_sem,Nat.reduceEqDiff]) (by simp only[go_sem,Nat.reduceEqDiff]) (by simp only[go_sem]) ⟨st8,g8,le03.trans le8,hm23.trans hm8⟩ (mx3.trans (sv8.mx mx3.ct mx3.mem le8)) (by have:=sv8.vis;omega) (by rw[sv8.con,c3];exact Int.le_refl _) a8 (le8.lk lk3) o_ ⟨0,stp _⟩
     ·simp only[go_sem,Nat.reduceEqDiff,Nat.reduceMul,reduceCtorEq,g12,t0,ia,ib,le0,leb,dT,mP,e8];exact cB (hm23.trans hm8)
    ·by_cases h910:nv.kind=9∨nv.kind=10
     ·obtain⟨ck,tk,hkd,rfl,ak⟩:=kid1 lkn (by have q:=nok.nd.K;rcases h910 with e|e<;>rw[e]at q<;>exact Int.ofNat_inj.1 (q.trans rfl));have ia:∀ h,cz (.ls (nv.K.map AG.aO)) h 1 (i_ 0)=.val (.vptr (i_ ck)) h:=fun h=>iaI nv.K 0 ck h (by rw[hkd];rfl)
      have le0:=cu ck;simp only[AG.aO]at le0;have hnd:ndT nv [tk]=.mk nv.kind nv.idx nv.name nv.L [tk]:=rfl;have stp:=fun W=>stepP h910 (Ce env inst) W nv.idx nv.name nv.L tk as_
      rw[<- hnd]at stp;obtain⟨o4,H4,e4,hm4,q4⟩:=ih (M2.vis+1) o_ (m+2) o_ M3 gN3 gF3 H2 ck tk st2 g3 mx3.ct mx3.mem o_ ak;rcases h910 with h9|h10
      ·rw[h9]at g12 stp;have dK:decide (nv.kind=9)=true:=T_ h9;rcases q4 with⟨v,rfl,M4,gN4,gF4,st4,g4,le4,mx4,r4,u4,rfl,a4,kk,wh4⟩|rfl
       ·obtain⟨rn,rfl,er⟩:=a4.nat;obtain⟨nv4,ks4,hn4,rfl,lkn4,_,tok4,_⟩:=g4.at_node a4;have hn4:M4.ns[rn]?=some nv4:=by simpa using hn4
        have hj4:rn<M4.ns.length:=(E_.1 hn4).1;have nok4:=g4.nok (m_ hn4);have ad4:=fun H=>st4.addr hj4 H
        have gA4:=st4.gA;have l54:=(st4.cell hn4).l5;unfold mL at gA4;unfold aT at l54;have nx4:=hm4.z;have hv4:=mx4.vis;have hc4:=mx4.con;have g124:=(hm4.kw _ o_ (.inr o_)).trans g12;obtain⟨H5,hH5⟩:∃ H5:AH,H5=(H4.new (.box [i_ 0,i_ 0,.str (bs []),.nl,.nl])).set H4.z (.box [i_ nv4.kind,i_ nv4.idx,.str nv4.name,.ls (nv4.L.map ba),.ls (nv4.K.map AG.aO)]):=⟨_,rfl⟩
        have k5:HK H4 H5:=by rw[hH5];exact(HK.new _ _).set _ (e_ _)
        have g14:H5.get H4.z=some (.box [i_ nv4.kind,i_ nv4.idx,.str nv4.name,.ls (nv4.L.map ba),.ls (nv4.K.map AG.aO)]):=by rw[hH5,aH]
        have g125:=(k5.kw _ o_).trans g124;have st5:=st4.hk k5;have hm5:=(hm23.trans hm4).trans (HK.m k5);have le05:=le03.trans le4;have mx5:=mx3.trans mx4;have wh4':Wn (Ce env inst) kk tk=some (ndT nv4 ks4):=wh4;simp only[go_sem,Nat.reduceEqDiff,Nat.reduceAdd,reduceCtorEq,dK,g12,t0,ia,le0,e4,gA4,ad4,l54];rw[<- hH5];clear hH5;refine aX (fun h8=>?_) (fun h8=>?_)
        ·obtain⟨c0,c1,c2,w0,w1,w2,hkd4,rfl,b0,b1,b2⟩:=akZ lkn4 (by have q:=nok4.nd.K;rw[h8]at q;exact Int.ofNat_inj.1 (q.trans rfl));have ib:∀ h,cz (.ls (nv4.K.map AG.aO)) h 1 (i_ 1)=.val (.vptr (i_ c1)) h:=fun h=>iaI nv4.K 1 c1 h (by rw[hkd4];rfl)
         have leb:=cu c1;simp only[AG.aO]at leb;have hw1:IntKind.wrap .i64 (1+9)=10:=by decide
         have hw2:IntKind.wrap .i64 (10-9)=1:=by decide
         simp only[go_sem,Nat.reduceEqDiff,g14,g125,hw1,hw2,ib,leb];exact goOn _ H5 M4 gN4 gF4 c1 ids w1 as_ (by simp only[go_sem,reduceCtorEq,t0]) (by simp only[go_sem,Nat.reduceEqDiff,t1]) (by simp only[go_sem,Nat.reduceEqDiff]) (by simp only[go_sem,Nat.reduceEqDiff]) (by simp only[go_sem]) ⟨st5,g4,le05,hm5⟩ mx5 o_ o_ b1 (le4.lk lk3) o_ ⟨kk,by
          rw[stp,wh4'];have:ua 9 (ndT nv4 [w0,w1,w2])=some w1:=by unfold ua;rw[P_ (show(ndT nv4 [w0,w1,w2]).kind=8 from h8)];rfl
          simp only[this]⟩
        ·obtain⟨o6,H6,e6,hm6,q6⟩:=TR hK km (m-2) st5 g4 9 [(rn:Int)] [ndT nv4 ks4] ⟨a4,trivial⟩ ⟨⟨by decide,by decide,rfl,by decide,by decide,fun _ _=>rfl,by simp[bs],by decide,fun _=>rfl,⟨by decide,by decide,fun _ _=>rfl⟩,by simp⟩,tok4,trivial⟩;rw[show m-2+4=m+2 by omega,<- jo (f:=63) (c:=[]) (ae (bD _ _ _ _) (ae (aG _ _ _) (ae (mo (rn:Int) H5) (aC _)))) (ae (bD _ _ _ _) (ae (aG _ _ _) (ae (dM _ _) (aC _))))]at e6;rcases q6 with⟨v,rfl,M6,gN6,gF6,st6,g6,le6,sm6,r6,rfl,a6⟩|rfl
         ·simp only[go_sem,Nat.reduceEqDiff,Nat.reduceMul,reduceCtorEq,t0,g125,dT,mP,e6];have mx6:=mx5.trans (sm6.mx mx4.ct mx4.mem le6);have hc6:=mx6.con;have stq:MK.step (Ce env inst) (Wn (Ce env inst) kk) (ndT nv [tk]) as_=some (.stuck (oc 9 (ndT nv4 ks4)) as_):=by
           rw[stp,wh4'];have:ua 9 (ndT nv4 ks4)=none:=tg.2 h8;simp only[this]
          obtain⟨b,hb⟩:=sd stq;have con6:M6.con=M4.con:=(sm6.v mx4.ct).con;exact stuck3 _ H6 M6 gN6 gF6 r6 ids _ as_ (by simp only[go_sem,reduceCtorEq,t0]) (by simp only[go_sem,Nat.reduceEqDiff,t1]) (by simp only[go_sem]) (by simp only[go_sem,Nat.reduceEqDiff,t8]) (by simp only[go_sem,Nat.reduceEqDiff]) ⟨st6,g6,le05.trans le6,hm5.trans hm6⟩ mx6 a6 (le6.lk (le4.lk lk3)) o_ (back b _ hb)
         ·simp only[go_sem,Nat.reduceEqDiff,Nat.reduceMul,reduceCtorEq,t0,g125,dT,mP,e6];exact cB (hm5.trans hm6)
       ·simp only[go_sem,Nat.reduceEqDiff,reduceCtorEq,dK,g12,t0,ia,le0,e4];exact cB (hm23.trans hm4)
      ·rw[h10]at g12 stp;have d9:decide (nv.kind=9)=false:=d_;have dK:decide (nv.kind=10)=true:=T_ h10;rcases q4 with⟨v,rfl,M4,gN4,gF4,st4,g4,le4,mx4,r4,u4,rfl,a4,kk,wh4⟩|rfl
       ·obtain⟨rn,rfl,er⟩:=a4.nat;obtain⟨nv4,ks4,hn4,rfl,lkn4,_,tok4,_⟩:=g4.at_node a4;have hn4:M4.ns[rn]?=some nv4:=by simpa using hn4
        have hj4:rn<M4.ns.length:=(E_.1 hn4).1;have nok4:=g4.nok (m_ hn4);have ad4:=fun H=>st4.addr hj4 H
        have gA4:=st4.gA;have l54:=(st4.cell hn4).l5;unfold mL at gA4;unfold aT at l54;have nx4:=hm4.z;have hv4:=mx4.vis;have hc4:=mx4.con;have g124:=(hm4.kw _ o_ (.inr o_)).trans g12;obtain⟨H5,hH5⟩:∃ H5:AH,H5=(H4.new (.box [i_ 0,i_ 0,.str (bs []),.nl,.nl])).set H4.z (.box [i_ nv4.kind,i_ nv4.idx,.str nv4.name,.ls (nv4.L.map ba),.ls (nv4.K.map AG.aO)]):=⟨_,rfl⟩
        have k5:HK H4 H5:=by rw[hH5];exact(HK.new _ _).set _ (e_ _)
        have g14:H5.get H4.z=some (.box [i_ nv4.kind,i_ nv4.idx,.str nv4.name,.ls (nv4.L.map ba),.ls (nv4.K.map AG.aO)]):=by rw[hH5,aH]
        have g125:=(k5.kw _ o_).trans g124;have st5:=st4.hk k5;have hm5:=(hm23.trans hm4).trans (HK.m k5);have le05:=le03.trans le4;have mx5:=mx3.trans mx4;have wh4':Wn (Ce env inst) kk tk=some (ndT nv4 ks4):=wh4;simp only[go_sem,Nat.reduceEqDiff,Nat.reduceAdd,reduceCtorEq,d9,dK,g12,t0,ia,le0,e4,gA4,ad4,l54];rw[<- hH5];clear hH5;refine aX (fun h8=>?_) (fun h8=>?_)
        ·obtain⟨c0,c1,c2,w0,w1,w2,hkd4,rfl,b0,b1,b2⟩:=akZ lkn4 (by have q:=nok4.nd.K;rw[h8]at q;exact Int.ofNat_inj.1 (q.trans rfl));have ib:∀ h,cz (.ls (nv4.K.map AG.aO)) h 1 (i_ 2)=.val (.vptr (i_ c2)) h:=fun h=>iaI nv4.K 2 c2 h (by rw[hkd4];rfl)
         have leb:=cu c2;simp only[AG.aO]at leb;have hw1:IntKind.wrap .i64 (1+10)=11:=by decide
         have hw2:IntKind.wrap .i64 (11-9)=2:=by decide
         simp only[go_sem,Nat.reduceEqDiff,g14,g125,hw1,hw2,ib,leb];exact goOn _ H5 M4 gN4 gF4 c2 ids w2 as_ (by simp only[go_sem,reduceCtorEq,t0]) (by simp only[go_sem,Nat.reduceEqDiff,t1]) (by simp only[go_sem,Nat.reduceEqDiff]) (by simp only[go_sem,Nat.reduceEqDiff]) (by simp only[go_sem]) ⟨st5,g4,le05,hm5⟩ mx5 o_ o_ b2 (le4.lk lk3) o_ ⟨kk,by
          rw[stp,wh4'];have:ua 10 (ndT nv4 [w0,w1,w2])=some w2:=by unfold ua;rw[P_ (show(ndT nv4 [w0,w1,w2]).kind=8 from h8)];rfl
          simp only[this]⟩
        ·obtain⟨o6,H6,e6,hm6,q6⟩:=TR hK km (m-2) st5 g4 10 [(rn:Int)] [ndT nv4 ks4] ⟨a4,trivial⟩ ⟨⟨by decide,by decide,rfl,by decide,by decide,fun _ _=>rfl,by simp[bs],by decide,fun _=>rfl,⟨by decide,by decide,fun _ _=>rfl⟩,by simp⟩,tok4,trivial⟩;rw[show m-2+4=m+2 by omega,<- jo (f:=63) (c:=[]) (ae (bD _ _ _ _) (ae (aG _ _ _) (ae (mo (rn:Int) H5) (aC _)))) (ae (bD _ _ _ _) (ae (aG _ _ _) (ae (dM _ _) (aC _))))]at e6;rcases q6 with⟨v,rfl,M6,gN6,gF6,st6,g6,le6,sm6,r6,rfl,a6⟩|rfl
         ·simp only[go_sem,Nat.reduceEqDiff,Nat.reduceMul,reduceCtorEq,t0,g125,dT,mP,e6];have mx6:=mx5.trans (sm6.mx mx4.ct mx4.mem le6);have hc6:=mx6.con;have stq:MK.step (Ce env inst) (Wn (Ce env inst) kk) (ndT nv [tk]) as_=some (.stuck (oc 10 (ndT nv4 ks4)) as_):=by
           rw[stp,wh4'];have:ua 10 (ndT nv4 ks4)=none:=tg.2 h8;simp only[this]
          obtain⟨b,hb⟩:=sd stq;have con6:M6.con=M4.con:=(sm6.v mx4.ct).con;exact stuck3 _ H6 M6 gN6 gF6 r6 ids _ as_ (by simp only[go_sem,reduceCtorEq,t0]) (by simp only[go_sem,Nat.reduceEqDiff,t1]) (by simp only[go_sem]) (by simp only[go_sem,Nat.reduceEqDiff,t8]) (by simp only[go_sem,Nat.reduceEqDiff]) ⟨st6,g6,le05.trans le6,hm5.trans hm6⟩ mx6 a6 (le6.lk (le4.lk lk3)) o_ (back b _ hb)
         ·simp only[go_sem,Nat.reduceEqDiff,Nat.reduceMul,reduceCtorEq,t0,g125,dT,mP,e6];exact cB (hm5.trans hm6)
       ·simp only[go_sem,Nat.reduceEqDiff,reduceCtorEq,d9,dK,g12,t0,ia,le0,e4];exact cB (hm23.trans hm4)
     ·have d9:decide (nv.kind=9)=false:=D_ fun e=>h910 (.inl e)
      have d10:decide (nv.kind=10)=false:=D_ fun e=>h910 (.inr e)
      simp only[go_sem,Nat.reduceEqDiff,d9,d10];refine aX (fun h3=>?_) (fun h3=>?_)
      ·obtain⟨o8,H8,e8,hm8,q8⟩:=c1064 hK km kg eg (m:=m) (v0:=M2.vis+1) (ih (M2.vis+1) o_ m o_) ci o_ o_ st2 g3 mx3.ct mx3.mem o_ (ks:=ks) nok h3 lk3 o_;unfold aT at e8;have ld:=fk (sz:=5) g12 rfl;rcases q8 with⟨v,rfl,M8,gN8,gF8,st8,g8,le8,mx8,ur⟩|rfl
       ·have hv8:=mx8.vis;have hc8:=mx8.con;rcases ur with⟨j8,z,rfl,k8,hs⟩|⟨r8,z,y,l,rfl,⟨k8,hs⟩,a8,lk8,hz⟩
        ·simp only[go_sem,Nat.reduceEqDiff,reduceCtorEq,t0,t8,ld,e8];obtain⟨b,hb⟩:=sd hs;exact stuck3 _ H8 M8 gN8 gF8 (hidn:Int) ids _ as_ (by simp only[go_sem,reduceCtorEq,t0]) (by simp only[go_sem,Nat.reduceEqDiff,t1]) (by simp only[go_sem,Nat.reduceEqDiff,t7]) (by simp only[go_sem,Nat.reduceEqDiff,t8]) (by simp only[go_sem]) ⟨st8,g8,le03.trans le8,hm23.trans hm8⟩ (mx3.trans mx8) (le8.at ah3) (le8.lk lk3) o_ (back b _ hb)
        ·simp only[go_sem,Nat.reduceEqDiff,reduceCtorEq,t0,t8,ld,e8];rw[<- lk.len]at hz;exact goOn _ H8 M8 gN8 gF8 r8 z y l (by simp only[go_sem,reduceCtorEq,t0]) (by simp only[go_sem,Nat.reduceEqDiff,t1]) (by simp only[go_sem,Nat.reduceEqDiff]) (by simp only[go_sem,Nat.reduceEqDiff]) (by simp only[go_sem]) ⟨st8,g8,le03.trans le8,hm23.trans hm8⟩ (mx3.trans mx8) o_ o_ a8 lk8 o_ ⟨k8,hs⟩
       ·simp only[go_sem,Nat.reduceEqDiff,reduceCtorEq,t0,t8,ld,e8];exact cB (hm23.trans hm8)
      ·simp only[go_sem];have h4:nv.kind≠4:=by
        intro h4;have k4:=nok.nd.K;rw[h4]at k4;have k4:((nv.K.length:Nat):Int)=2:=by simpa [dW] using k4
        exact hhd h4 (by show ks.length=2;rw[<- lkn.len];omega)
       have stp:=stepE (Ce env inst) (Wn (Ce env inst) 0) (ndT nv ks) as_ h3 h4 h5 (fun e=>h910 (.inl e)) (fun e=>h910 (.inr e)) h11;obtain⟨b,hb⟩:=sd stp;exact stuck3 _ H2 M3 gN3 gF3 (hidn:Int) ids _ as_ (by simp only[go_sem,reduceCtorEq,t0]) (by simp only[go_sem,Nat.reduceEqDiff,t1]) (by simp only[go_sem,Nat.reduceEqDiff,t7]) (by simp only[go_sem,Nat.reduceEqDiff,t8]) (by simp only[go_sem,Nat.reduceEqDiff]) ⟨st2,g3,le03,hm23⟩ mx3 ah3 lk3 o_ (back b _ hb)
  ·simp only[go_sem,t0,e1];exact cB (hm2.trans hm1)
end
