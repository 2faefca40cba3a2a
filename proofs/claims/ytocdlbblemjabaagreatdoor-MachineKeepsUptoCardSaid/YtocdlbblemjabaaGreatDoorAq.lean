/- AbsGo: regions that draw their order: the end of the proof; all calls (no condition beside what is said of the table of functions). -/
import Derived.Test.YtocdlbblemjabaaGreatDoorAp
import Derived.Calls
noncomputable section
namespace Go.AG
section
variable {C:Cx}{nt:Nat}{ops:Array Oper}{l:List aV}{ps:List Nat}{ss:List OS}{call:aQ}{st:Nat->DS}{p:Nat}{v:Nat->AV}{b:Frame}{K:KK}{k:List Item}{g0:Gh}
 {U0:Nat->Option (List AV)} {h0:AH}
theorem OR (fuel t:Nat)(listed:Array Bool):Region.linearise.go .any ops (fuel+1) t listed []=match (Region.ready .any ops listed)[t % (Region.ready .any ops listed).length]? with
  |some i=>i::Region.linearise.go .any ops fuel (t / (Region.ready .any ops listed).length) (listed.setIfInBounds i true) []
  |none=>[]:=by
 show(match (Region.ready .any ops listed)[t % (Region.ready .any ops listed).length]? with
  |some i=>Region.linearise.go .any ops fuel (t / (Region.ready .any ops listed).length) (listed.setIfInBounds i true) [i]
  |none=>[].reverse)=_
 cases (Region.ready .any ops listed)[t % (Region.ready .any ops listed).length]? with
 |none=>rfl
 |some i=>show Region.linearise.go .any ops fuel _ _ [i]=_;rw[linearise_go_acc];rfl
def Ends (call:aQ)(all:List (aV×DI))(l:List aV)(ss:List OS)(st:Nat->DS)(p:Nat)(r:AEx×AF×AH):Prop:=
 (p=l.length/\r=(.normal,(st p).fr,(st p).h))∨
 ∃ ao x vv fr h,l[p]?=some ao/\ss[p]?=some x/\ao.op.cls=.acts/\dL ao call (st p).fr (st p).h=some (.panic vv,fr,h)/\(mK ss p x).fin=true/\r=(.panic vv,⟨xX all fr.tm,fr.cx⟩,h)
theorem Sp (hcall:cK C call)(P:fU C nt ops l ps ss)(R:Run call l ss st p v)(hhs:(st 0).hs=[(st 0).h])(hok:rdsOk (st p).rds (st p).hs=true)(hnk:(st 0).nk=h0.z)
  (hnx:(st 0).h.z=h0.z+nb l l.length) (hop:∀ (i:Nat) (o:Oper) (ao:aV),ops[i]?=some o->l[i]?=some ao->uf C nt ops.toList o ao) {all:List (aV×DI)} (hall:all.map (·.1)=l) {e:AEx} {fr':AF} {h':AH} (E:Ends call all l ss st p (e,fr',h')) :
  ∀ (fuel t:Nat) (listed:Array Bool),listed.size=ops.size->jF ops (eS listed)->(∀ i,i<l.length->p<=i->eS listed i=false)->ops.size<=fuel+pz (eS listed) ops.size->
  ∀ {j:Nat} {g:Gh} {U:Nat->Option (List AV)} {w:World} {tmps:Array Value} {ds:List Deferred},Inv C nt l ss st p v b K g0 U0 h0 (eS listed) j g U w tmps ds->
  fC C b K nt k (lone (stF b tmps ds (.inRegion ops (Region.linearise.go .any ops fuel t listed [])::k)) (ei K (st j).fr.cx.rc) w) g0 U0 h0 e fr' h':=by
 have done:∀ (listed:Array Bool),(∀ i,i<l.length->p<=i->eS listed i=false)->(∀ i,i<ops.size->eS listed i=true)->
   ∀ {j:Nat} {g:Gh} {U:Nat->Option (List AV)} {w:World} {tmps:Array Value} {ds:List Deferred},Inv C nt l ss st p v b K g0 U0 h0 (eS listed) j g U w tmps ds->
   fC C b K nt k (lone (stF b tmps ds (.inRegion ops []::k)) (ei K (st j).fr.cx.rc) w) g0 U0 h0 e fr' h':=by
  intro listed hp hfull j g U w tmps ds I;have hpl:p=l.length:=by
   rcases Nat.lt_or_ge p l.length with h|h
   ·have:=hp p h (e_ _);rw[hfull p (by rw[<- P.len];exact h)]at this;cases this
   ·exact Nat.le_antisymm R.le h
  rcases E with⟨_,hr⟩|⟨ao,x,vv,fr,hh,h1,_⟩
  ·cases hr;have hna:cS ss (eS listed)=na ss p:=by
    refine oS P fun i ao hi _=>?_
    have hil:i<l.length:=(E_.1 hi).1;rw[hfull i (by rw[<- P.len];exact hil)];simp;omega
   obtain⟨e1,e2⟩:=R.same' P I.hj (e_ p) (I.count.symm.trans hna);have htm:iu (dh l) v (st 0).fr.tm (eS listed) l.length=(st p).fr.tm:=by
    rw[R.tm P p (e_ _),hpl];exact Dw _ fun i hi=>hfull i (by rw[<- P.len];exact hi)
   have hfr:(⟨iu (dh l) v (st 0).fr.tm (eS listed) l.length,(st j).fr.cx⟩:AF)=(st p).fr:=by rw[htm,e2]
   have F:=I.fr;rw[hfr]at F;have s:=I.sim;rw[e1]at s;have lo:=I.low0;rw[e1]at lo;refine⟨g,U,w,tmps,ds,I.ext,⟨I.old⟩,s,lo,F,?_⟩;rw[e2];exact .one qN
  ·rw[hpl,List.getElem?_eq_none (e_ _)]at h1;cases h1
 intro fuel;induction fuel with
 |zero=>
  intro t listed hsz hS hp hn j g U w tmps ds I;exact done listed hp (qp _ (by simpa using hn)) I
 |succ fuel ih=>
  intro t listed hsz hS hp hn j g U w tmps ds I;rw[OR];cases hi:(Region.ready .any ops listed)[t % (Region.ready .any ops listed).length]? with
  |none=>
   have hempty:Region.ready .any ops listed=[]:=by
    cases hq:Region.ready .any ops listed with
    |nil=>rfl
    |cons a m=>
     rw[hq]at hi;have:t % (a::m).length<(a::m).length:=Nat.mod_lt _ (by simp);rw[a_ this]at hi;cases hi
   refine done listed hp ?_ I;rcases first_not (f:=eS listed) ops.size with h|⟨i,h1,h2,h3⟩
   ·exact h
   ·have:i∈Region.ready .any ops listed:=(oW hsz).2 ⟨h2,ops[i],Array.getElem?_eq_getElem h1,fun m hm=>h3 m (P.pres.back i _ (by simp) m hm)⟩;rw[hempty]at this;cases this
  |some i=>
   have hr:qK ops (eS listed) i:=(oW hsz).1 (m_ hi);have hio:i<ops.size:=by obtain⟨_,o,ho,_⟩:=hr;exact(Array.getElem?_eq_some_iff.1 ho).1
   have hil:i<l.length:=by rw[P.len];exact hio
   show fC C b K nt k (lone (stF b tmps ds (.inRegion ops (i::Region.linearise.go .any ops fuel (t / (Region.ready .any ops listed).length) (listed.setIfInBounds i true) [])::k)) (ei K (st j).fr.cx.rc) w) g0 U0 h0 e fr' h';generalize hgo:Region.linearise.go .any ops fuel (t / (Region.ready .any ops listed).length) (listed.setIfInBounds i true) []=is;rcases Nat.lt_or_ge i p with hip|hip
   ·obtain⟨j',g',U',w',tmps',ds',I',stp⟩:=EO (k:=k) (is:=is) hcall P R hhs hok hnk hnx hS (hop i) hip hr I;rw[<- gX o_]at I';have hS':=fU.add_closed hS hr;rw[<- gX o_]at hS';rw[<- hgo]at stp ⊢;refine fC.of_steps stp (ih _ _ (by simpa using hsz) hS' (fun m hm hpm=>?_) ?_ I')
    ·rw[gX o_];simp only[js];rw[N_ o_];exact hp m hm hpm
    ·rw[gX o_,th hr.1,P_ hio];omega
   ·rcases E with⟨hpl,_⟩|⟨ao,x,vv,fr,hh,h1,h2,hact,hev,hfin,hres⟩
    ·omega
    ·have hip':i=p:=by
      rcases Nat.lt_or_eq_of_le hip with hlt|heq
      ·exfalso;obtain⟨ai,pi,k1,k2,k3⟩:=P.sum i (ss[i]'(by rw[P.slen];exact hil)) (a_ _);have hf:=za ss 0 hfin i _ (a_ (by rw[P.slen];exact hil));simp only[z_,Bool.or_eq_true]at hf;rcases hf with hf|hf
       ·have:=eE hf;omega
       ·have hbf:dX ps p i:=by
         unfold dX;rw[k2,<- kO];rw[k3]at hf;exact hf
        obtain⟨_,o,ho,hd⟩:=hr;have:=P.pre hS ho hd hbf;rw[hp p o_ (e_ _)]at this;cases this
      ·exact heq.symm
     subst hip';cases hres;have hcnt:=P.count_act hS h1 hact hr;obtain⟨e1,e2⟩:=R.same' P I.hj (e_ i) (I.count.symm.trans hcnt);have hag:=P.agree (v:=v) (tm0:=(st 0).fr.tm) hS h1 hr;rw[<- R.tm P i (e_ _)]at hag;obtain⟨u,q1,q2⟩:=jK (tm:=(st i).fr.tm) (cx:=(st i).fr.cx) hev;have q2:=q2 _ hag;have q1:fr.tm=(st i).fr.tm:=q1;rw[<- e1,<- e2]at q2;obtain⟨_,o,ho,hd⟩:=hr;obtain⟨G,_⟩:=oM (k:=k) (is:=is) hcall ho (hop i o ao ho h1) q2 I.sim I.fr;have G:=fC.pass (x:=[.inRegion ops is]) G (fun id=>by simp[exitTo]) (by simp);obtain⟨g1,U1,w1,t1,d1,x1,u1,s1,l1,f1,o1⟩:=G;refine⟨g1,U1,w1,t1,d1,I.ext.trans x1,⟨fun kk hk=>?_⟩,s1,I.low0.trans l1,⟨?_,f1.hd,f1.hr,f1.hn,f1.hf,f1.ho⟩,o1⟩
     ·rw[u1.kw kk (Nat.lt_of_lt_of_le hk I.low0.z)];exact I.old kk hk
     ·intro t;rcases hide_nth all fr.tm t with hh|⟨hh,hno⟩
      ·rw[hh];exact .any _
      ·rw[hh,q1,R.tm P i (e_ _)];have hno':∀ m,dh l m≠some t:=by
        intro m;unfold dh;cases hm:l[m]? with
        |none=>simp
        |some a=>
         rw[<- hall]at hm;obtain⟨pp,hp1,hp2⟩:=List.mem_map.1 (m_ hm);have:=hno pp hp1;rw[hp2]at this;exact this
       have:=f1.ht t;have e5:nth (iu (dh l) v (st 0).fr.tm (eS listed) l.length) t=nth (st 0).fr.tm t:=jU hno' _;have this:bA g1 (nth (iu (dh l) v (st 0).fr.tm (eS listed) l.length) t) (t1.getD t undef):=this;rw[e5]at this;rw[jU hno'];exact this
theorem GC (hcall:cK C call)(P:fU C nt ops l ps ss){q:Nat}{aq:aV}(hq:l[q]?=some aq)(hact:aq.op.cls=.acts)
  (R:Run call (oD (cH ss q) l 0) (nG (cH ss q) ss 0) st l.length v) (hhs:(st 0).hs=[(st 0).h]) (hok:rdsOk (st l.length).rds (st l.length).hs=true) (hnk:(st 0).nk=h0.z)
  (hnx:(st 0).h.z=h0.z+nb (oD (cH ss q) l 0) (oD (cH ss q) l 0).length) (hop:∀ (i:Nat) (o:Oper) (ao:aV),ops[i]?=some o->l[i]?=some ao->uf C nt ops.toList o ao) {all:List (aV×DI)} (hall:all.map (·.1)=l)
  {vv:AV} {fr:AF} {hh:AH} (hev:dL aq call (st q).fr (st q).h=some (.panic vv,fr,hh)) :
  ∀ (fuel t:Nat) (listed:Array Bool),listed.size=ops.size->jF ops (eS listed)->(∀ i,cH ss q i=true->eS listed i=false)->ops.size<=fuel+pz (eS listed) ops.size->
  ∀ {j:Nat} {g:Gh} {U:Nat->Option (List AV)} {w:World} {tmps:Array Value} {ds:List Deferred},Inv C nt (oD (cH ss q) l 0) (nG (cH ss q) ss 0) st l.length v b K g0 U0 h0 (eS listed) j g U w tmps ds->
  fC C b K nt k (lone (stF b tmps ds (.inRegion ops (Region.linearise.go .any ops fuel t listed [])::k)) (ei K (st j).fr.cx.rc) w) g0 U0 h0 (.panic vv) ⟨xX all fr.tm,fr.cx⟩ hh:=by
 have PV:=P.vir (cH ss q);have hql:q<l.length:=(E_.1 hq).1;have hwq:cH ss q q=true:=by unfold cH;simp
 intro fuel;induction fuel with
 |zero=>
  intro t listed hsz hS hp hn j g U w tmps ds I;have:=qp _ (by simpa using hn) q (by rw[<- P.len];exact hql);rw[hp q hwq]at this;cases this
 |succ fuel ih=>
  intro t listed hsz hS hp hn j g U w tmps ds I;rw[OR];cases hi:(Region.ready .any ops listed)[t % (Region.ready .any ops listed).length]? with
  |none=>
   have hempty:Region.ready .any ops listed=[]:=by
    cases hq:Region.ready .any ops listed with
    |nil=>rfl
    |cons a m=>
     rw[hq]at hi;have:t % (a::m).length<(a::m).length:=Nat.mod_lt _ (by simp);rw[a_ this]at hi;cases hi
   exfalso;rcases first_not (f:=eS listed) ops.size with h|⟨i,h1,h2,h3⟩
   ·have:=h q (by rw[<- P.len];exact hql);rw[hp q hwq]at this;cases this
   ·have:i∈Region.ready .any ops listed:=(oW hsz).2 ⟨h2,ops[i],Array.getElem?_eq_getElem h1,fun m hm=>h3 m (P.pres.back i _ (by simp) m hm)⟩;rw[hempty]at this;cases this
  |some i=>
   have hr:qK ops (eS listed) i:=(oW hsz).1 (m_ hi);have hio:i<ops.size:=by obtain⟨_,o,ho,_⟩:=hr;exact(Array.getElem?_eq_some_iff.1 ho).1
   have hil:i<l.length:=by rw[P.len];exact hio
   show fC C b K nt k (lone (stF b tmps ds (.inRegion ops (i::Region.linearise.go .any ops fuel (t / (Region.ready .any ops listed).length) (listed.setIfInBounds i true) [])::k)) (ei K (st j).fr.cx.rc) w) g0 U0 h0 _ _ _;generalize hgo:Region.linearise.go .any ops fuel (t / (Region.ready .any ops listed).length) (listed.setIfInBounds i true) []=is;cases hwi:cH ss q i with
   |false=>
    have hopv:∀ o ao,ops[i]?=some o->(oD (cH ss q) l 0)[i]?=some ao->uf C nt ops.toList o ao:=by
     intro o ao ho hao;rw[iH]at hao;obtain⟨a1,ha1,rfl⟩:=Option.map_eq_some_iff.1 hao;rw[z_,hwi,cond_false];exact hop i o a1 ho ha1
    obtain⟨j',g',U',w',tmps',ds',I',stp⟩:=EO (k:=k) (is:=is) hcall PV R hhs hok hnk hnx hS hopv hil hr I;rw[<- gX o_]at I';have hS':=fU.add_closed hS hr;rw[<- gX o_]at hS';rw[<- hgo]at stp ⊢;refine fC.of_steps stp (ih _ _ (by simpa using hsz) hS' (fun m hm=>?_) ?_ I')
    ·rw[gX o_];simp only[js];by_cases hmi:m=i
     ·subst hmi;rw[hwi]at hm;cases hm
     ·rw[N_ hmi];exact hp m hm
    ·rw[gX o_,th hr.1,P_ hio];omega
   |true=>
    have hip':i=q:=by
     rcases waits_before P hq hact hwi with h|hb
     ·exact h
     ·exfalso;obtain⟨_,o,ho,hd⟩:=hr;have:=P.pre hS ho hd hb;rw[hp q hwq]at this;cases this
    subst hip';have hcnt:=P.count_act hS hq hact hr;have hcv:cS (nG (cH ss i) ss 0) (eS listed)=cS ss (eS listed):=Zp hp;have hnv:na (nG (cH ss i) ss 0) i=na ss i:=by
     unfold na;exact Zp fun m hm=>by have:=vY hm;simp;omega
    obtain⟨e1,e2⟩:=R.same' PV I.hj (Nat.le_of_lt hil) (I.count.symm.trans (hcv.trans (hcnt.trans hnv.symm)));have htmV:∀ (S':Nat->Bool) (m:Nat),(∀ m',m'<m->cH ss i m'=true->S' m'=false)->iu (dh (oD (cH ss i) l 0)) v (st 0).fr.tm S' m=iu (dh l) v (st 0).fr.tm S' m:=by
     intro S' m;induction m with
     |zero=>intro _;rfl
     |succ m ihm=>
      intro hS2;rw[dG,dG,ihm (fun m' h=>hS2 m' o_)];cases hz:cH ss i m with
      |true=>rw[hS2 m o_ hz];rfl
      |false=>
       have:dh (oD (cH ss i) l 0) m=dh l m:=by
        unfold dh;rw[iH,z_,hz];cases l[m]?<;>rfl
       rw[this]
    have hag:=P.agree (v:=v) (tm0:=(st 0).fr.tm) hS hq hr;have htq:(st i).fr.tm=iu (dh l) v (st 0).fr.tm (fun _=>true) i:=by
     rw[R.tm PV i (Nat.le_of_lt hil)];refine htmV _ i fun m' hm' hz=>?_
     have:=vY hz;omega
    rw[<- htq,<- htmV (eS listed) l.length (fun m' _ hz=>hp m' hz)]at hag;obtain⟨u,q1,q2⟩:=jK (tm:=(st i).fr.tm) (cx:=(st i).fr.cx) hev;have q2:=q2 _ hag;have q1:fr.tm=(st i).fr.tm:=q1;rw[<- e1,<- e2]at q2;have If:=I.fr;rw[mA]at If;obtain⟨_,o,ho,hd⟩:=hr;obtain⟨G,_⟩:=oM (k:=k) (is:=is) hcall ho (hop i o aq ho hq) q2 I.sim If;have G:=fC.pass (x:=[.inRegion ops is]) G (fun id=>by simp[exitTo]) (by simp);obtain⟨g1,U1,w1,t1,d1,x1,u1,s1,l1,f1,o1⟩:=G;refine⟨g1,U1,w1,t1,d1,I.ext.trans x1,⟨fun kk hk=>?_⟩,s1,I.low0.trans l1,⟨?_,f1.hd,f1.hr,f1.hn,f1.hf,f1.ho⟩,o1⟩
    ·rw[u1.kw kk (Nat.lt_of_lt_of_le hk I.low0.z)];exact I.old kk hk
    ·intro t;rcases hide_nth all fr.tm t with hh|⟨hh,hno⟩
     ·rw[hh];exact .any _
     ·rw[hh,q1,htq];have hno':∀ m,dh l m≠some t:=by
       intro m;unfold dh;cases hm:l[m]? with
       |none=>simp
       |some a=>
        rw[<- hall]at hm;obtain⟨pp,hp1,hp2⟩:=List.mem_map.1 (m_ hm);have:=hno pp hp1;rw[hp2]at this;exact this
      have:=f1.ht t;have this:bA g1 (nth (iu (dh (oD (cH ss i) l 0)) v (st 0).fr.tm (eS listed) l.length) t) (t1.getD t undef):=this;rw[htmV (eS listed) l.length (fun m' _ hz=>hp m' hz),jU hno']at this;rw[jU hno'];exact this
theorem abE {P:Program}{id:Nat}{tmps:Array Value}{ds:List Deferred}{cs:List Frame}{w:World}(hm:P.follows .mixedOrders=true):
  ∃ t w',(w'=w∨w'=w.drew)/\step P (lone (stF b tmps ds (.code (.region id ops true)::k)) cs w)=.next (lone (stF b tmps ds (.inRegion ops (Region.linearise .any ops t)::k)) cs w'):=by
 by_cases hf:(Question.order b.fn id).forced
 ·refine⟨0,w,.inl rfl,step_lone_go ?_⟩;simp[stepG,stepG.exec,stF,hf,Region.schedule,hm]
 ·refine⟨_,w.drew,.inr rfl,step_lone_go (fr':=stF b tmps ds (.inRegion ops (Region.linearise .any ops ((Question.order b.fn id).cut (w.tape w.drawn (Question.order b.fn id))))::k)) ?_⟩;simp[stepG,stepG.exec,stF,hf,Region.schedule,hm]
theorem OZ (hcall:cK C call):BK C call:=by
 intro nt id ops l ac hc hd n fr h e fr' h' q g U w b K k tmps ds s f;obtain⟨ps,hp,hd⟩:=aA (show aD (kX ops.toList 0 []) _=_ from hd);obtain⟨hpb,hd⟩:=aN hd;simp only[Bool.and_eq_true]at hpb;cases hd;have P:=ab6 hc hp hpb.1 hpb.2;obtain⟨L,hL⟩:∃ L,L=ku (lY l ps) l 0 (lY l ps):=⟨_,rfl⟩
 have q:ji L call L (sZ L fr h)=some (e,fr',h'):=by rw[hL];exact q
 obtain⟨w1,w2⟩:=jZ (lY l ps) l 0 (lY l ps) P.slen;have hmap:L.map (·.1)=l:=by
  apply List.ext_getElem?;intro i;rw[List.getElem?_map,hL];rcases Nat.lt_or_ge i l.length with hi|hi
  ·have h1:l[i]?=some l[i]:=a_ hi;obtain⟨x,pp,h2,_,_⟩:=P.ss_get h1;rw[w2 i _ x h1 h2,h1];rfl
  ·rw[List.getElem?_eq_none o_,List.getElem?_eq_none hi];rfl
 obtain⟨st,p,DR⟩:=EX L q;rw[hL]at DR;obtain⟨v,R⟩:=ah2 P DR;rw[<- hL]at DR;have h0:=DR.start;obtain⟨t,w',hw',hst⟩:=abE (P:=C.P) (b:=b) (ops:=ops) (id:=id) (tmps:=tmps) (ds:=ds) (k:=k) (cs:=ei K fr.cx.rc) (w:=w) C.mixed;have s':Sim C g U h w':=by
  rcases hw' with rfl|rfl
  ·exact s
  ·exact s.drew
 obtain⟨U1,b1,b2,b3,b4,b5⟩:=qC (C:=C) L s';rw[hmap]at b4 b5;have hlen:L.length=l.length:=by rw[<- hmap];simp
 have hset:eS (Array.replicate ops.size false)=fun _=>false:=by
  funext i;unfold eS;simp[Array.getD_eq_getD_getElem?,Array.getElem?_replicate];split<;>rfl
 have hnum:pz (fun _=>false) ops.size=0:=by
  generalize ops.size=m;induction m with
  |zero=>rfl
  |succ m ih=>unfold pz;rw[ih];rfl
 have hlin:Region.linearise .any ops t=Region.linearise.go .any ops ops.size t (Array.replicate ops.size false) []:=rfl;have hop:=ab5 (C:=C) (nt:=nt) hc;have tm0:∀ (l':List aV) (v':Nat->AV) m,iu (dh l') v' fr.tm (fun _=>false) m=fr.tm:=by
  intro l' v' m;induction m with
  |zero=>rfl
  |succ m ih=>rw[dG,N_ (by simp)];exact ih
 have hcx:fr.cx.rc=(st 0).fr.cx.rc:=by rw[h0];rfl
 have old:rdsOk (st p).rds (st p).hs=true/\Ends call L l (lY l ps) st p (e,fr',h')->fC C b K nt k (lone (stF b tmps ds (.inRegion ops (Region.linearise .any ops t)::k)) (ei K fr.cx.rc) w') g U h e fr' h':=by
  intro hfin;rw[hlin,hcx];refine Sp hcall P R (by rw[h0];rfl) hfin.1 (by rw[h0];rfl) (by rw[h0,<- hlen];exact b4) hop hmap hfin.2 ops.size t _ (by simp) ?_ ?_ ?_ (j:=0) (g:=g) (U:=U1) ?_
  ·rw[hset];intro i o _ hi;cases hi
  ·intro i _ _;rw[hset]
  ·rw[hset,hnum];omega
  ·rw[hset];refine⟨Nat.zero_le _,?_,by rw[h0];exact b1,?_,.refl g,by rw[h0];exact b3,.refl _,b2,fun i ao z hi hz _=>b5 i ao z hi hz⟩
   ·unfold na;exact oS P fun i ao _ _=>by simp
   ·rw[h0];show FR g b K nt ⟨iu (dh l) v fr.tm (fun _=>false) l.length,fr.cx⟩ tmps ds;rw[tm0];exact f
 refine fC.of_steps (.one hst) ?_;rcases DR.fin with⟨h1,h2⟩|⟨o,d,h1,hcl,vv,fr2,h2,h3,h4⟩
 ·obtain⟨h3,h4⟩:=aN (show cond (rdsOk (st p).rds (st p).hs) _ none=_ from h2);cases h4;exact old ⟨h3,.inl ⟨o_,rfl⟩⟩
 ·have hlp:l[p]?=some o:=by rw[<- hmap,List.getElem?_map,h1];rfl
  obtain⟨x,pp,hx,_,_⟩:=P.ss_get hlp;have hdx:=w2 p o x hlp hx;rw[<- hL,h1,z_]at hdx;cases hdx;cases hfn:(mK (lY l ps) p x).fin with
  |true=>
   have h4:cond (mK (lY l ps) p x).fin (cond (rdsOk (st p).rds (st p).hs) (some (AEx.panic vv,AF.mk (xX L fr2.tm) fr2.cx,h2)) none) _=some (e,fr',h'):=h4;rw[hfn,cond_true]at h4;obtain⟨h5,h6⟩:=aN h4;cases h6;exact old ⟨h5,.inr ⟨o,x,vv,fr2,_,hlp,hx,hcl,h3,hfn,rfl⟩⟩
  |false=>
   have h4:cond (mK (lY l ps) p x).fin _ (aD (evRest (L.drop (p+1)) call (Nat.pred (len (st p).hs)) (st p)) fun _=>some (AEx.panic vv,AF.mk (xX L fr2.tm) fr2.cx,h2))=some (e,fr',h'):=h4;rw[hfn,cond_false]at h4;obtain⟨r',q1,q2⟩:=aA h4;cases q2;have hc0:Nat.pred (len (st p).hs)=na (lY l ps) p:=by
    rw[bH,(R.hs P (by rw[h0];rfl) p (e_ _)).1];rfl
   rw[hc0,hL]at q1;obtain⟨st',D⟩:=Eo _ q1;obtain⟨v',hv',RV,hok⟩:=abR P hlp hcl R D;have hv0:lz p st st' 0=sZ L fr h:=by unfold lz;rw[P_ (Nat.zero_le _)];exact h0
   have hnb:∀ i,i<=l.length->nb (oD (cH (lY l ps) p) l 0) i=nb l i:=by
    intro i;induction i with
    |zero=>intro _;cases l<;>rfl
    |succ i ihi=>
     intro hi;have hla:l[i]?=some l[i]:=a_ o_;have gL:(oD (cH (lY l ps) p) l 0)[i]?=some (cond (cH (lY l ps) p i) fu l[i]):=by rw[iH,hla,z_];rfl
     rw[pN _ i _ gL,pN _ i _ hla,ihi o_];cases hz:cH (lY l ps) p i with
     |false=>rfl
     |true=>
      have:=Fz P hlp hcl D hla hz;rw[N_ this,cond_true,N_ (by intro e;cases e)]
   have hcxv:fr.cx.rc=(lz p st st' 0).fr.cx.rc:=by rw[hv0];rfl
   have hevq:dL o call (lz p st st' p).fr (lz p st st' p).h=some (.panic vv,fr2,h'):=by unfold lz;rw[P_ (e_ _)];exact h3
   rw[hlin,hcxv];refine GC hcall P hlp hcl RV (by rw[hv0];rfl) hok (by rw[hv0];rfl) (by rw[mA,hnb _ (e_ _),hv0,<- hlen];exact b4) hop hmap hevq ops.size t _ (by simp) ?_ ?_ ?_ (j:=0) (g:=g) (U:=U1) ?_
   ·rw[hset];intro i o _ hi;cases hi
   ·intro i _;rw[hset]
   ·rw[hset,hnum];omega
   ·rw[hset];refine⟨Nat.zero_le _,?_,by rw[hv0];exact b1,?_,.refl g,by rw[hv0];exact b3,.refl _,b2,fun i ao z hi hz _=>?_⟩
    ·unfold na;exact oS (P.vir _) fun i ao _ _=>by simp
    ·rw[hv0];show FR g b K nt ⟨iu (dh (oD (cH (lY l ps) p) l 0)) v' fr.tm (fun _=>false) (oD (cH (lY l ps) p) l 0).length,fr.cx⟩ tmps ds;rw[tm0];exact f
    ·rw[iH]at hi;obtain⟨a1,ha1,e1⟩:=Option.map_eq_some_iff.1 hi;have hil:i<l.length:=(E_.1 ha1).1;rw[hnb i o_];cases hw:cH (lY l ps) p (0+i) with
     |true=>rw[hw,cond_true]at e1;subst e1;cases hz
     |false=>rw[hw,cond_false]at e1;subst e1;exact b5 i a1 z ha1 hz
end
section
variable {C:Cx}{E:Env}{b:Frame}{K:KK}{g g':Gh}{U:Nat->Option (List AV)}{h h0 h':AH}{w:World}{tm:Tm}{tmps:Array Value}{todo:List Item}{ds:List Deferred}{md:FrameMode}
theorem acY {call:aQ}(hcall:cK C call){F:Func}{fn:xr}{p:Bool}{fr:AF}{m:Md}{nt:Nat}{v:AV}{rc':RC}{g0:Gh}{U0:Nat->Option (List AV)}
  (hres:hX (ZS C.T) F.results.toList=some fn.results) (q:xg call p h0 fn fr m h=some (.ret v,rc',h')) (s0:∀ k o,h0.get k=some o->k<h0.z)
  (x0:Ext g0 g) (u0:nX h0.z U0 U) (l0:Low (lowered p h0) h) (s:Sim C g U h w) (f:FR g b K nt fr tmps ds) (hm:zZ g m md) :
  ∃ g' U' w' u,Ext g0 g'/\nX h0.z U0 U'/\Sim C g' U' h' w'/\bA g' v u/\(results F tmps).run C.P w'=.ok u w'/\
   Steps C.P (lone (stM b tmps ds todo md) (ei K fr.cx.rc) w) (lone (stM b tmps [] todo .returning) (ei K fr.cx.rc) w'):=by
 obtain⟨⟨m1,h1⟩,q1,q⟩:=aA (show aD (kJ fr.cx.dfs call m h) _=_ from q);obtain⟨g1,U1,w1,md1,x1,u1,s1,l1,hm1,st1⟩:=rT (b:=b) (tmps:=tmps) (todo:=todo) (cs:=ei K fr.cx.rc) hcall _ q1 s f.hd hm;have lall:Low (lowered p h0) h1:=l0.trans l1;have uall:nX h0.z U0 U1:=u0.trans u1 (by have:=l0.z;rw[jI]at this;exact this);have f1:=f.mono x1;cases hm1 with
 |pan hv=>cases q
 |ret=>
  obtain⟨vs,q2,q⟩:=aA (show aD (hO fn.results fr.tm h1) _=_ from q);obtain⟨u,hr,hv⟩:=uH s1 f1.ht hres q2;have same:some (dH.ret (one vs),fr.cx.rc,lowBack p h0 h1)=some (dH.ret v,rc',h')->∃ g' U' w' u,Ext g0 g'/\nX h0.z U0 U'/\Sim C g' U' h' w'/\bA g' v u/\(results F tmps).run C.P w'=.ok u w'/\
   Steps C.P (lone (stM b tmps ds todo md) (ei K fr.cx.rc) w) (lone (stM b tmps [] todo .returning) (ei K fr.cx.rc) w'):=by
   intro q;cases q;exact⟨g1,U1,w1,u,x0.trans x1,uall,s1.lowBack p h0,hv,hr,st1⟩
  cases p with
  |false=>exact same q
  |true=>
   have q:cond (Nat.ble h0.z h1.low) (some (dH.ret (frz 4 h1 h0.z (one vs)),fr.cx.rc,(⟨h1.z,h0.low,h0.objs⟩:AH))) (some (dH.ret (one vs),fr.cx.rc,(⟨h1.z,rZ h1.low h0.low,h1.objs⟩:AH)))=some (dH.ret v,rc',h'):=q;cases hc:Nat.ble h0.z h1.low with
   |false=>rw[hc]at q;exact same q
   |true=>
    rw[hc]at q;have hc:=eE hc;cases q;have hsame:∀ k,k<h0.z->h1.get k=h0.get k:=fun k hk=>lall.get k hk (Nat.lt_of_lt_of_le hk hc)
    have hnx:h0.z<=h1.z:=lall.z;refine⟨g1.leave h1 h0.z w1,_,w1,u,(x0.trans x1).trans (s1.leave_ext _),?_,s1.leave hnx h0.low s0 hsame,Bl s1 _ 4 hv,hr,st1⟩;exact⟨fun k hk=>by show(if k<h0.z then U1 k else none)=U0 k;rw[P_ hk];exact uall.kw k hk⟩
theorem CU {call:aQ}(hcall:cK C call)(hE:Dk C E){n:Nat}{f:FuncId}{as:List AV}{us:List Value}{v:AV}{rc':RC}(q:lE E call n f as .no h=some (.ret v,rc',h'))
  (s:Sim C g U h w) (ha:aY g as us):Calls C.P f ⟨us⟩ w fun e w'=>∃ u g' U',e=.returned u/\Ext g g'/\bA g' v u/\Sim C g' U' h' w':=by
 intro cs;have hdraw:=OZ hcall;obtain⟨fn,q1,q⟩:=aA (show aD (E.cf f) _=_ from q);obtain⟨F,hF,hc,hname⟩:=hE.ok f fn q1;obtain⟨body,hb,hc⟩:=aA (show aD F.body _=_ from hc);obtain⟨ac,hac,hc⟩:=aA (show aD (jA body C.P C.T C.kw F.ntmps) _=_ from hc);obtain⟨rs,hrs,hc⟩:=aA hc;cases hc;obtain⟨⟨e,fr',h1⟩,q2,q⟩:=aA q;obtain⟨K,hK⟩:∃ K:KK,K=⟨default,[],.nilIface,cs⟩:=⟨_,rfl⟩
 have hent:Frame.enter C.P f ⟨us⟩ .normal=stF (Frame.enter C.P f ⟨us⟩ .normal) ((⟨us⟩:Array Value)++Array.replicate (F.ntmps-us.length) undef) [] [.code body]:=by
  simp[Frame.enter,stF,hF,hb]
 have hfr:FR g (Frame.enter C.P f ⟨us⟩ .normal) K F.ntmps ⟨cT as,⟨[],.no,none,f⟩⟩ ((⟨us⟩:Array Value)++Array.replicate (F.ntmps-us.length) undef) []:=by
  refine⟨yg ha _,.nil,rfl,?_,rfl,.none⟩;simp;omega
 have G:=rU hcall hdraw n body ac F.ntmps hac (k:=[]) q2 (s.lowered _) hfr;rw[<- hent]at G;obtain⟨g1,U1,w1,tmps1,ds1,x1,u1,s1,l1,f1,o1⟩:=G;rw[jI]at u1;have hrc:fr'.cx.rc=.no:=mf f1.hr;have hcs:ei K .no=cs:=by rw[hK];rfl
 have go:∀ (m:Md) (md:FrameMode) (todo:List Item),zZ g1 m md->xg call (E.pure f) h ⟨F.ntmps,rs,ac⟩ fr' m h1=some (.ret v,rc',h')->
   Steps C.P (lone (Frame.enter C.P f ⟨us⟩ .normal) (ei K .no) w) (lone (stM (Frame.enter C.P f ⟨us⟩ .normal) tmps1 ds1 todo md) (ei K fr'.cx.rc) w1)->
   ∃ e w' fr,(∃ u g' U',e=.returned u/\Ext g g'/\bA g' v u/\Sim C g' U' h' w')/\Comes C.P (lone (Frame.enter C.P f ⟨us⟩ .normal) cs w) (lone fr cs w') e/\fr.fn=f/\fr.leaving C.P w' e:=by
  intro m md todo hm q st;obtain⟨g2,U2,w2,u,a1,a2,a3,a4,a5,a6⟩:=acY (b:=Frame.enter C.P f ⟨us⟩ .normal) (todo:=todo) hcall hrs q s.lt x1 u1 l1 s1 f1 hm;have st2:=st.trans a6;rw[hrc,hcs]at st2;exact⟨.returned u,w2,_,⟨u,g2,U2,rfl,a1,a4,a3⟩,st2,rfl,rfl,rfl,rfl,F,hF,a5⟩
 cases e with
 |exit id=>cases q
 |normal=>exact go .returning .returning [] .ret q (o1.trans (.one (DC rfl)))
 |ret=>
  obtain⟨k1,o1⟩:=o1;exact go .returning .returning (.code .ret::k1) .ret q (o1.trans (.one (tD rfl)))
 |panic pv=>
  obtain⟨k1,pv,hn,hv,o1⟩:=o1;exact go (.panicking _) _ k1 (.pan hv) q o1
end
def iC (w:World):Gh:={F:=fun b o=>w.cell? ⟨b,o,none⟩,ρ:=fun _ _=>none,w0:=w}
def rF:AH:=⟨0,0,.lf⟩
theorem QJ (C:Cx)(w:World)(hi:C.ini.p w):Sim C (iC w) (fun _=>none) rF w where
 frz _ _ _ e:=e
 obj k o e:=by cases e
 lt k o e:=by cases e
 unb k z e:=by cases e
 rlt k n l e:=by cases e
 sep k k' o o' l l' _ e:=by cases e
 old _ _:=rfl
 sz:=e_ _
 tape:=rfl
 os:=rfl
 output:=rfl
 ini:=hi
noncomputable section
def vm (P:Program):Tr TypeInfo:=Tr.ofList P.types.toList
def Bk (P:Program):Tr Func:=Tr.ofList P.funcs.toList
def cfOf (P:Program)(T:Tr TypeInfo)(FT:Tr Func)(keep:TypeId->Bool)(f:FuncId):Option xr:=aD (FT.get f) fun F=>afB P T keep F
def afu (P:Program)(keep:TypeId->Bool)(pure:FuncId->Bool):Env:={cf:=cfOf P (vm P) (Bk P) keep,pure:=pure}
def OC (P:Program):Bool:=P.funcs.toList.all fun F=>!(F.name == "runtime.NumGoroutine")
end
theorem Uh (P:Program):∀ t i,(vm P).get t=some i->P.info? t=some i:=by
 intro t i h;unfold vm at h;rw[Tr.get_ofList]at h;have h:P.types[t]?=some i:=by simpa using h
 show Tables.info? _ t=some i;unfold Tables.info?;rw[P_ (show t<P.types.size from(Array.getElem?_eq_some_iff.1 h).1)];exact h
def cxOf (P:Program)(keep:TypeId->Bool)(h:P.follows .mixedOrders=true)(I:Ini):Cx:={P:=P,T:=vm P,kw:=keep,ok:=Uh P,mixed:=h,ini:=I}
theorem aiH (P:Program)(keep:TypeId->Bool)(pure:FuncId->Bool)(h:P.follows .mixedOrders=true)(hn:OC P=true)(I:Ini):Dk (cxOf P keep h I) (afu P keep pure):=by
 refine⟨fun f fn e=>?_⟩;obtain⟨F,h1,h2⟩:=aA (show aD ((Bk P).get f) _=_ from e);unfold Bk at h1;rw[Tr.get_ofList]at h1;refine⟨F,show P.funcs[f]?=some F by simpa using h1,h2,?_⟩;have:=List.all_eq_true.1 hn F (m_ h1);simpa using this
mutual
def AV.free:AV->Bool
 |.ptr _ _ _=>false
 |.row _ _ _ _ _=>false
 |.map _=>false
 |.yld _=>false
 |.any=>false
 |.vptr v=>v.free
 |.ls es=>AV.ale es
 |.clip es=>AV.ale es
 |.fn _ a b=>AV.ale a&&AV.ale b
 |.ifc _ v=>v.free
 |.agg cs=>AV.ale cs
 |.tup vs=>AV.ale vs
 |_=>true
def AV.ale:List AV->Bool
 |[]=>true
 |a::l=>a.free&&AV.ale l
end
theorem gZ (l:List AV):AV.ale l=true↔∀ a∈l,a.free=true:=by
 induction l with
 |nil=>simp[AV.ale]
 |cons a l ih=>simp[AV.ale,ih]
theorem qv {v:AV}(h:v.free=true):∀ c∈v.cells,c.free=true:=by
 intro c hc;cases v<;>first|(simp[AV.free]at h;done)|skip
 case agg cs=>exact(gZ cs).1 (by simpa [AV.free] using h) c hc
 all_goals (simp[AV.cells]at hc;subst hc;exact h)
theorem yN {es:List AV}(h:AV.ale es=true):∀ c∈flat es,c.free=true:=by
 induction es with
 |nil=>intro c hc;simp[oQ]at hc
 |cons e es ih=>
  simp only[AV.ale,Bool.and_eq_true]at h;intro c hc;rw[cw,List.mem_append]at hc;rcases hc with hc|hc
  ·exact qv h.1 c hc
  ·exact ih h.2 c hc
mutual
theorem bA.local {g g':Gh}(hF:∀ b o v,g.F b o=some v->g'.F b o=some v):∀ {a:AV} {u:Value},bA g a u->a.free=true->bA g' a u
 |_,_,.bool b,_=>.bool b
 |_,_,.int k n,_=>.int k n
 |_,_,.str s,_=>.str s
 |_,_,.nilp,_=>.nilp
 |_,_,.ptr h,hf=>by cases hf
 |_,_,.vptr hc h,hf=>.vptr hc (eu.local hF h (qv (by simpa [AV.free] using hf)))
 |_,_,.nl,_=>.nl
 |_,_,.ls hs ha hn hl h,hf=>.ls hs ha hn hl (eu.local hF h (yN (by simpa [AV.free] using hf)))
 |_,_,.lst0,_=>.lst0
 |_,_,.clip hs ha hn hl h,hf=>.clip hs ha hn hl (eu.local hF h (yN (by simpa [AV.free] using hf)))
 |_,_,.clip0,_=>.clip0
 |_,_,.row h hs hl,hf=>by cases hf
 |_,_,.row0 h hs hl,hf=>by cases hf
 |_,_,.nilm,_=>.nilm
 |_,_,.map h,hf=>by cases hf
 |_,_,.fn h h',hf=>by
  simp only[AV.free,Bool.and_eq_true]at hf;exact .fn (aY.local hF h ((gZ _).1 hf.1)) (aY.local hF h' ((gZ _).1 hf.2))
 |_,_,.yld h,hf=>by cases hf
 |_,_,.nilf,_=>.nilf
 |_,_,.ifc h,hf=>.ifc (bA.local hF h (by simpa [AV.free] using hf))
 |_,_,.nili,_=>.nili
 |_,_,.agg hc h,hf=>.agg hc (aY.local hF h ((gZ _).1 (by simpa [AV.free] using hf)))
 |_,_,.tup h,hf=>.tup (aY.local hF h ((gZ _).1 (by simpa [AV.free] using hf)))
 |_,_,.any u,hf=>by cases hf
theorem aY.local {g g':Gh}(hF:∀ b o v,g.F b o=some v->g'.F b o=some v):∀ {a:List AV} {u:List Value},aY g a u->(∀ c∈a,c.free=true)->aY g' a u
 |_,_,.nil,_=>.nil
 |_,_,.cons h t,hf=>.cons (bA.local hF h (hf _ (by simp))) (aY.local hF t fun c hc=>hf c (by simp[hc]))
theorem eu.local {g g':Gh}(hF:∀ b o v,g.F b o=some v->g'.F b o=some v):∀ {b off:Nat} {l:List AV},eu g b off l->(∀ c∈l,c.free=true)->eu g' b off l
 |_,_,_,.nil b off,_=>.nil b off
 |_,_,_,.cons hu h t,hf=>.cons (hF _ _ _ hu) (bA.local hF h (hf _ (by simp))) (eu.local hF t fun c hc=>hf c (by simp[hc]))
end
def Gh.void (g:Gh)(w:World):Gh:={F:=g.F,ρ:=fun _ _=>none,w0:=w}
theorem Sim.void {C:Cx}{g:Gh}{U:Nat->Option (List AV)}{h:AH}{w:World}(s:Sim C g U h w):Sim C (g.void w) (fun _=>none) rF w where
 frz:=s.frz
 obj k o e:=by cases e
 lt k o e:=by cases e
 unb k z e:=by cases e
 rlt k n l e:=by cases e
 sep k k' o o' l l' _ e:=by cases e
 old _ _:=rfl
 sz:=e_ _
 tape:=rfl
 os:=rfl
 output:=rfl
 ini:=C.ini.up _ _ s.old s.sz s.ini
open Classical in
def Gh.back (g:Gh)(w w':World):Gh:={g with F:=fun b o=>if b<w.heap.size then g.F b o else w'.cell? ⟨b,o,none⟩}
theorem Sim.back {C:Cx}{g g2:Gh}{U U2:Nat->Option (List AV)}{h h2:AH}{w w':World}(s:Sim C g U h w)(x:Ext (g.void w) g2)(s2:Sim C g2 U2 h2 w'):
  Ext g (g.back w w')/\Sim C (g.back w w') U h w'/\∀ b o v,g2.F b o=some v->(g.back w w').F b o=some v:=by
 have hw0:g2.w0=w:=x.w0;have hold:∀ b,b<w.heap.size->w'.heap[b]?=w.heap[b]?:=fun b hb=>by have:=s2.old b (by rw[hw0];exact hb);rw[hw0]at this;exact this
 have hsz:w.heap.size<=w'.heap.size:=by have:=s2.sz;rw[hw0]at this;exact this
 have Flow:∀ b o,b<w.heap.size->(g.back w w').F b o=g.F b o:=fun b o hb=>by simp only[Gh.back,hb,if_true]
 have Fhigh:∀ b o,¬ b<w.heap.size->(g.back w w').F b o=w'.cell? ⟨b,o,none⟩:=fun b o hb=>by simp only[Gh.back,hb,if_false]
 have ex:Ext g (g.back w w'):=⟨fun b o v e=>by rw[Flow b o (s.frz_lt e)];exact e,fun _ _ _ e=>e,rfl,fun b o v hb e=>by rw[Flow b o (Nat.lt_of_lt_of_le hb s.sz)]at e;exact e⟩;refine⟨ex,?_,fun b o v e=>?_⟩
 ·constructor
  ·intro b o v e;by_cases hb:b<w.heap.size
   ·rw[Flow b o hb]at e;rw[mn (hold b hb)];exact s.frz b o v e
   ·rw[Fhigh b o hb]at e;exact e
  ·intro k o e u;obtain⟨l,r1,r2,r3⟩:=s.obj k o e u;refine⟨l,r1,r2,r3.kw ex (hold _ r3.block_lt) (fun i v q=>?_) (fun _ _ q=>q)⟩;rw[Flow _ _ r3.block_lt]at q;exact q
  ·exact s.lt
  ·exact s.unb
  ·exact s.rlt
  ·exact s.sep
  ·intro b hb;rw[hold b (Nat.lt_of_lt_of_le hb s.sz)];exact s.old b hb
  ·exact Nat.le_trans s.sz hsz
  ·rw[s2.tape,hw0];exact s.tape
  ·rw[s2.os,hw0];exact s.os
  ·rw[s2.output,hw0];exact s.output
  ·exact s.ini
 ·by_cases hb:b<w.heap.size
  ·rw[Flow b o hb];exact x.old b o v hb e
  ·rw[Fhigh b o hb];exact s2.frz b o v e
def dH.free:dH->Bool
 |.ret v=>v.free
 |.pan v=>v.free
