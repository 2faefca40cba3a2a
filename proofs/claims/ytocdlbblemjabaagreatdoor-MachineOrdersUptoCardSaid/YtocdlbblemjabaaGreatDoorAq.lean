/- Lemmas for MachineOrders (no condition). -/
import Derived.Test.YtocdlbblemjabaaGreatDoorAn
import Derived.Calls
set_option linter.defProp false
noncomputable section
namespace Go.AG
section
variable {C:Cx}{nt:Nat}{ops:Array Oper}{l:List aX}{ps:List Nat}{ss:List OS}{call:aN}{st:Nat->DS}{p:Nat}{v:Nat->AV}{b:Frame}{K:KK}{k:List Item}{g0:Gh}
 {U0:Nat->Option (List AV)} {h0:AH}
theorem MO (b t:Nat)(a:Array Bool):Region.linearise.go .any ops (b+1) t a []=match (Region.ready .any ops a)[t % (Region.ready .any ops a).length]? with
  |some i=>i::Region.linearise.go .any ops b (t / (Region.ready .any ops a).length) (a.setIfInBounds i true) []
  |none=>[]:=by
 grind [Region.ready,Region.linearise.go,linearise_go_acc]
def Ends (call:aN)(all:List (aX×DI))(l:List aX)(ss:List OS)(st:Nat->DS)(p:Nat)(r:AEx×AF×AH):Prop:=
 (p=l.length/\r=(.normal,(st p).fr,(st p).h))\/
 ∃b x c a h,l[p]?=some b/\ss[p]?=some x/\b.op.cls=.acts/\eO b call (st p).fr (st p).h=some (.panic c,a,h)/\(pI ss p x).fin=true/\r=(.panic c,⟨BG all a.tm,a.cx⟩,h)
def Pm (ak:dD C call)(P:je C nt ops l ps ss)(R:Run call l ss st p v)(ah:(st 0).hs=[(st 0).h])(aa:iD (st p).rds (st p).hs=true)(an:(st 0).nk=h0.z)
  (al:(st 0).h.z=h0.z+nb l l.length) (ax:∀(i:Nat) (o:Oper) (J:aX),ops[i]?=some o->l[i]?=some J->xP C nt ops.toList o J) {all:List (aX×DI)} (ar:all.map (·.1)=l) {e:AEx} {r:AF} {W:AH} (E:Ends call all l ss st p (e,r,W)) :
  ∀(f t:Nat) (c:Array Bool),c.size=ops.size->lZ ops (gh c)->(∀i,i<l.length->p<=i->gh c i=false)->ops.size<=f+sW (gh c) ops.size->
  ∀{j:Nat} {g:Gh} {U:Nat->Option (List AV)} {w:World} {d:Array Value} {ds:List Deferred},Inv C nt l ss st p v b K g0 U0 h0 (gh c) j g U w d ds->
  iI C b K nt k (lone (stF b d ds (.inRegion ops (Region.linearise.go .any ops f t c [])::k)) (gR K (st j).fr.cx.rc) w) g0 U0 h0 e r W:=by
 have done:∀(c:Array Bool),(∀i,i<l.length->p<=i->gh c i=false)->(∀i,i<ops.size->gh c i=true)->
   ∀{j:Nat} {g:Gh} {U:Nat->Option (List AV)} {w:World} {d:Array Value} {ds:List Deferred},Inv C nt l ss st p v b K g0 U0 h0 (gh c) j g U w d ds->
   iI C b K nt k (lone (stF b d ds (.inRegion ops []::k)) (gR K (st j).fr.cx.rc) w) g0 U0 h0 e r W:=by
  intro c M n j g U w d ds I;have L:p=l.length:=by
   rcases Nat.lt_or_ge p l.length with h|h
   ·have:=M p h (e_ _);rw[n p (by rw[<-P.len];omega)]at this;grind
   exact Nat.le_antisymm R.le h
  rcases E with⟨_,q⟩|⟨J,x,vv,fr,V,Y,_⟩
  ·cases q;have ad:cS ss (gh c)=na ss p:=by
    refine vA P λi J hi _=>?_;have am:i<l.length:=g_;rw[n i (by rw[<-P.len];omega)];simp;omega
   obtain⟨Z,e2⟩:=R.same' P I.hj o_ (I.count.symm.trans ad);have a1:jV (eJ l) v (st 0).fr.tm (gh c) l.length=(st p).fr.tm:=by
    rw[R.tm P p (e_ _),L];exact Gp _ λi hi=>n i (by rw[<-P.len];omega)
   have ac:(⟨jV (eJ l) v (st 0).fr.tm (gh c) l.length,(st j).fr.cx⟩:AF)=(st p).fr:=by simp_all
   have F:=I.fr;rw[ac]at F;have s:=I.sim;rw[Z]at s;have lo:=I.low0;rw[Z]at lo;refine⟨g,U,w,d,ds,I.ext,⟨I.old⟩,s,lo,F,?_⟩;rw[e2];exact .one uw
  grind
 intro f;induction f with
 |zero=>
  intro t c y B M hn j g U w d ds I;exact done c M (tQ _ o_) I
 |succ f ih=>
  intro t c y B M hn j g U w d ds I;rw[MO];cases hi:(Region.ready .any ops c)[t % (Region.ready .any ops c).length]? with
  |none=>
   have X:Region.ready .any ops c=[]:=by
    cases hq:Region.ready .any ops c with
    |nil=>rfl
    |cons a m=>
     grind [Nat.mod_lt,a_]
   refine done c M ?_ I;rcases first_not (f:=gh c) ops.size with h|⟨i,Y,h2,h3⟩
   ·omega
   have:i∈Region.ready .any ops c:=(su y).2 ⟨h2,ops[i],g_,λm hm=>h3 m (P.pres.back i _ (by simp) m hm)⟩;grind
  |some i=>
   have q:uq ops (gh c) i:=(su y).1 g_;have ap:i<ops.size:=by obtain⟨_,o,ho,_⟩:=q;grind
   have am:i<l.length:=by rw[P.len];omega
   show iI C b K nt k (lone (stF b d ds (.inRegion ops (i::Region.linearise.go .any ops f (t / (Region.ready .any ops c).length) (c.setIfInBounds i true) [])::k)) (gR K (st j).fr.cx.rc) w) g0 U0 h0 e r W;generalize aj:Region.linearise.go .any ops f (t / (Region.ready .any ops c).length) (c.setIfInBounds i true) []=is;rcases Nat.lt_or_ge i p with z|z
   ·obtain⟨j',g',U',w',ab,aw,I',S⟩:=Hu (k:=k) (is:=is) o_ P R ah aa an al B g_ z q I;rw[<-jH o_]at I';have D:=je.add_closed B q;rw[<-jH o_]at D;rw[<-aj]at S ⊢;refine iI.of_steps S (ih _ _ (by grind) D (λm hm a2=>?_) ?_ I')
    ·rw[jH o_];grind [nZ]
    rw[jH o_,wA q.1,P_ ap];omega
   rcases E with⟨L,_⟩|⟨J,x,vv,fr,V,Y,h2,aq,ag,T,H⟩
   ·omega
   have N:i=p:=by
    rcases Nat.lt_or_eq_of_le z with a0|ay
    ·exfalso;obtain⟨ai,pi,k1,k2,k3⟩:=P.sum i (ss[i]'(by rw[P.slen];omega)) g_;have O:=CW ss 0 T i _ (a_ (by grind));simp only[z_,Bool.or_eq_true]at O;rcases O with O|O
     ·have:=mM O;omega
     have af:fu ps p i:=by
      grind [fu,mR]
     obtain⟨_,o,ho,hd⟩:=q;have:=P.pre B ho hd af;grind
    omega
   subst N;cases H;have au:=P.count_act B Y o_ q;obtain⟨Z,e2⟩:=R.same' P I.hj o_ (I.count.symm.trans o_);have Q:=P.agree (v:=v) (tm0:=(st 0).fr.tm) B Y q;rw[<-R.tm P i (e_ _)]at Q;obtain⟨u,q1,q2⟩:=mg (tm:=(st i).fr.tm) (cx:=(st i).fr.cx) ag;have q2:=q2 _ Q;have q1:fr.tm=(st i).fr.tm:=q1;rw[<-Z,<-e2]at q2;obtain⟨_,o,ho,hd⟩:=q;obtain⟨G,_⟩:=rS (k:=k) (is:=is) o_ ho g_ q2 I.sim I.fr;have G:=iI.pass (x:=[.inRegion ops is]) G (λid=>by simp[exitTo]) (by simp);obtain⟨g1,U1,w1,t1,d1,x1,u1,s1,l1,A,o1⟩:=G;refine⟨g1,U1,w1,t1,d1,I.ext.trans x1,⟨λkk hk=>?_⟩,s1,I.low0.trans l1,⟨?_,A.hd,A.hr,A.hn,A.hf,A.ho⟩,o1⟩
   ·rw[u1.kw kk (B_ hk I.low0)];exact I.old kk hk
   intro t;rcases hide_nth all fr.tm t with V|⟨V,az⟩
   ·rw[V];exact .any _
   rw[V,q1,R.tm P i (e_ _)];have av:∀m,eJ l m≠some t:=by
    grind [eJ,m_]
   have:=A.ht t;have e5:nth (jV (eJ l) v (st 0).fr.tm (gh c) l.length) t=nth (st 0).fr.tm t:=oQ o_ _;have this:bR g1 (nth (jV (eJ l) v (st 0).fr.tm (gh c) l.length) t) (t1.getD t undef):=this;grind [oQ]
theorem Jl (ab:dD C call)(P:je C nt ops l ps ss){q:Nat}{aq:aX}(Q:l[q]?=some aq)(ai:aq.op.cls=.acts)
  (R:Run call (rC (du ss q) l 0) (qu (du ss q) ss 0) st l.length v) (X:(st 0).hs=[(st 0).h]) (S:iD (st l.length).rds (st l.length).hs=true) (ad:(st 0).nk=h0.z)
  (ac:(st 0).h.z=h0.z+nb (rC (du ss q) l 0) (rC (du ss q) l 0).length) (an:∀(i:Nat) (o:Oper) (A:aX),ops[i]?=some o->l[i]?=some A->xP C nt ops.toList o A) {all:List (aX×DI)} (aj:all.map (·.1)=l)
  {vv:AV} {L:AF} {y:AH} (W:eO aq call (st q).fr (st q).h=some (.panic vv,L,y)) :
  ∀(d t:Nat) (c:Array Bool),c.size=ops.size->lZ ops (gh c)->(∀i,du ss q i=true->gh c i=false)->ops.size<=d+sW (gh c) ops.size->
  ∀{j:Nat} {g:Gh} {U:Nat->Option (List AV)} {w:World} {e:Array Value} {ds:List Deferred},Inv C nt (rC (du ss q) l 0) (qu (du ss q) ss 0) st l.length v b K g0 U0 h0 (gh c) j g U w e ds->
  iI C b K nt k (lone (stF b e ds (.inRegion ops (Region.linearise.go .any ops d t c [])::k)) (gR K (st j).fr.cx.rc) w) g0 U0 h0 (.panic vv) ⟨BG all L.tm,L.cx⟩ y:=by
 have PV:=P.vir (du ss q);have aw:q<l.length:=g_;have av:du ss q q=true:=by unfold du;simp
 intro d;induction d with
 |zero=>
  intro t c p x V hn j g U w e ds I;have:=tQ _ (by simpa using hn) q (by rw[<-P.len];omega);grind
 |succ d ih=>
  intro t c p x V hn j g U w e ds I;rw[MO];cases hi:(Region.ready .any ops c)[t % (Region.ready .any ops c).length]? with
  |none=>
   have M:Region.ready .any ops c=[]:=by
    cases Q:Region.ready .any ops c with
    |nil=>rfl
    |cons a m=>
     grind [Nat.mod_lt,a_]
   exfalso;rcases first_not (f:=gh c) ops.size with h|⟨i,h1,h2,h3⟩
   ·have:=h q (by rw[<-P.len];omega);grind
   have:i∈Region.ready .any ops c:=(su p).2 ⟨h2,ops[i],g_,λm hm=>h3 m (P.pres.back i _ (by simp) m hm)⟩;grind
  |some i=>
   have n:uq ops (gh c) i:=(su p).1 g_;have ag:i<ops.size:=by have⟨_,o,ho,_⟩:=n;grind
   have F:i<l.length:=by rw[P.len];omega
   show iI C b K nt k (lone (stF b e ds (.inRegion ops (i::Region.linearise.go .any ops d (t / (Region.ready .any ops c).length) (c.setIfInBounds i true) [])::k)) (gR K (st j).fr.cx.rc) w) g0 U0 h0 _ _ _;generalize aa:Region.linearise.go .any ops d (t / (Region.ready .any ops c).length) (c.setIfInBounds i true) []=is;cases ah:du ss q i with
   |false=>
    have al:∀o A,ops[i]?=some o->(rC (du ss q) l 0)[i]?=some A->xP C nt ops.toList o A:=by
     grind [jX,Option.map_eq_some_iff]
    have⟨_,_,_,_,_,_,I',H⟩:=Hu (k:=k) (is:=is) o_ PV R X S ad ac x o_ F n I;rw[<-jH o_]at I';have z:=je.add_closed x n;rw[<-jH o_]at z;rw[<-aa]at H ⊢;refine iI.of_steps H (ih _ _ (by grind) z (λm hm=>?_) ?_ I')
    ·rw[jH o_];grind [nZ]
    rw[jH o_,wA n.1,P_ ag];omega
   |true=>
    have B:i=q:=by
     rcases waits_before P Q o_ ah with h|hb
     ·omega
     exfalso;have⟨_,o,ho,hd⟩:=n;have:=P.pre x ho hd hb;grind
    subst B;have D:=P.count_act x Q o_ n;have Z:cS (qu (du ss i) ss 0) (gh c)=cS ss (gh c):=Vl V;have af:na (qu (du ss i) ss 0) i=na ss i:=by
     unfold na;exact Vl λm hm=>by have:=zU hm;simp;omega
    have⟨e1,e2⟩:=R.same' PV I.hj o_ (I.count.symm.trans (Z.trans (D.trans af.symm)));have f:∀(N:Nat->Bool) (m:Nat),(∀r,r<m->du ss i r=true->N r=false)->jV (eJ (rC (du ss i) l 0)) v (st 0).fr.tm N m=jV (eJ l) v (st 0).fr.tm N m:=by
     intro N m;induction m with
     |zero=>intro _;rfl
     |succ m ar=>
      grind [fX,du,eJ,rC,jX]
    have E:=P.agree (v:=v) (tm0:=(st 0).fr.tm) x Q n;have J:(st i).fr.tm=jV (eJ l) v (st 0).fr.tm (λ_=>true) i:=by
     rw[R.tm PV i (Nat.le_of_lt F)];refine f _ i λr ap hz=>?_;have:=zU hz;omega
    rw[<-J,<-f (gh c) l.length (λr _ hz=>V r hz)]at E;have⟨_,Y,O⟩:=mg (tm:=(st i).fr.tm) (cx:=(st i).fr.cx) W;have O:=O _ E;have Y:L.tm=(st i).fr.tm:=Y;rw[<-e1,<-e2]at O;have If:=I.fr;rw[pB]at If;have⟨_,_,ho,_⟩:=n;have⟨G,_⟩:=rS (k:=k) (is:=is) o_ ho g_ O I.sim If;have G:=iI.pass (x:=[.inRegion ops is]) G (λid=>by simp[exitTo]) (by simp);have⟨g1,U1,w1,t1,d1,x1,u1,s1,l1,s,o1⟩:=G;refine⟨g1,U1,w1,t1,d1,I.ext.trans x1,⟨λkk hk=>?_⟩,s1,I.low0.trans l1,⟨?_,s.hd,s.hr,s.hn,s.hf,s.ho⟩,o1⟩
    ·rw[u1.kw kk (B_ hk I.low0)];exact I.old kk hk
    intro t;rcases hide_nth all L.tm t with y|⟨y,au⟩
    ·rw[y];exact .any _
    rw[y,Y,J];have ak:∀m,eJ l m≠some t:=by
     grind [eJ,m_]
    have:=s.ht t;have this:bR g1 (nth (jV (eJ (rC (du ss i) l 0)) v (st 0).fr.tm (gh c) l.length) t) (t1.getD t undef):=this;grind [gh,oQ]
def XC {P:Program}{id:Nat}{tmps:Array Value}{ds:List Deferred}{cs:List Frame}{w:World}(hm:P.follows .mixedOrders=true):
  ∃t w',(w'=w\/w'=w.drew)/\step P (lone (stF b tmps ds (.code (.region id ops true)::k)) cs w)=.next (lone (stF b tmps ds (.inRegion ops (Region.linearise .any ops t)::k)) cs w'):=by
 by_cases hf:(Question.order b.fn id).forced
 ·refine⟨0,w,g_,step_lone_go ?_⟩;simp[stepG,stepG.exec,stF,hf,Region.schedule,hm]
 refine⟨_,w.drew,g_,step_lone_go (fr':=stF b tmps ds (.inRegion ops (Region.linearise .any ops ((Question.order b.fn id).cut (w.tape w.drawn (Question.order b.fn id))))::k)) ?_⟩;simp[stepG,stepG.exec,stF,hf,Region.schedule,hm]
theorem MW (hcall:dD C call):BE C call:=by
 intro nt id ops l ac hc hd n fr h e fr' h' q g U w b K k tmps ds s f;have⟨ps,hp,hd⟩:=aC (show aI (mX ops.toList 0 []) _=_ from hd);have⟨hpb,hd⟩:=bj hd;simp only[Bool.and_eq_true]at hpb;cases hd;have P:=Yf hc hp g_ g_;have⟨L,hL⟩:∃L,L=mJ (oM l ps) l 0 (oM l ps):=⟨_,rfl⟩;have q:lH L call L (wv L fr h)=some (e,fr',h'):=by rw[hL];exact q
 have⟨_,w2⟩:=mE (oM l ps) l 0 (oM l ps) P.slen;have hmap:L.map (·.1)=l:=by
  apply List.ext_getElem?;intro i;rw[List.getElem?_map,hL];rcases Nat.lt_or_ge i l.length with hi|hi
  ·have h1:l[i]?=some l[i]:=g_;have⟨x,pp,h2,_,_⟩:=P.ss_get h1;rw[w2 i _ x h1 h2,h1];rfl
  grind
 have⟨st,p,DR⟩:=HO L q;rw[hL]at DR;have⟨v,R⟩:=adm P DR;rw[<-hL]at DR;have h0:=DR.start;have⟨t,w',hw',hst⟩:=XC (P:=C.P) (b:=b) (ops:=ops) (id:=id) (tmps:=tmps) (ds:=ds) (k:=k) (cs:=gR K fr.cx.rc) (w:=w) C.mixed;have s':Sim C g U h w':=by
  rcases hw' with rfl|rfl
  ·omega
  exact s.drew
 have⟨U1,b1,b2,b3,b4,b5⟩:=tW (C:=C) L s';rw[hmap]at b4 b5;have hlen:L.length=l.length:=by rw[<-hmap];simp
 have hset:gh (Array.replicate ops.size false)=λ_=>false:=by
  funext i;unfold gh;simp[Array.getD_eq_getD_getElem?,Array.getElem?_replicate];grind
 have hnum:sW (λ_=>false) ops.size=0:=by
  generalize ops.size=m;induction m with
  |zero=>rfl
  |succ m ih=>unfold sW;rw[ih];rfl
 have hlin:Region.linearise .any ops t=Region.linearise.go .any ops ops.size t (Array.replicate ops.size false) []:=rfl;have hop:=Ye (C:=C) (nt:=nt) hc;have tm0:∀(l':List aX) (v':Nat->AV) m,jV (eJ l') v' fr.tm (λ_=>false) m=fr.tm:=by
  intro l' v' m;induction m with
  |zero=>rfl
  |succ m ih=>grind [fX]
 have hcx:fr.cx.rc=(st 0).fr.cx.rc:=by rw[h0];rfl
 have old:iD (st p).rds (st p).hs=true/\Ends call L l (oM l ps) st p (e,fr',h')->iI C b K nt k (lone (stF b tmps ds (.inRegion ops (Region.linearise .any ops t)::k)) (gR K fr.cx.rc) w') g U h e fr' h':=by
  intro hfin;rw[hlin,hcx];refine Pm o_ P R (by rw[h0];rfl) g_ (by rw[h0];rfl) (by rw[h0,<-hlen];exact b4) hop o_ g_ ops.size t _ (by simp) ?_ ?_ ?_ (j:=0) (g:=g) (U:=U1) ?_
  ·rw[hset];intro i o _ hi;grind
  ·grind
  ·rw[hset,hnum];omega
  rw[hset];refine⟨o_,?_,by rw[h0];exact b1,?_,.refl g,by rw[h0];exact b3,.refl _,b2,g_⟩
  ·grind [na,vA]
  rw[h0];show FR g b K nt ⟨jV (eJ l) v fr.tm (λ_=>false) l.length,fr.cx⟩ tmps ds;simp_all
 refine iI.of_steps (.one hst) ?_;rcases DR.fin with⟨h1,h2⟩|⟨o,d,h1,hcl,vv,fr2,h2,h3,h4⟩
 ·have⟨h3,h4⟩:=bj (show cond (iD (st p).rds (st p).hs) _ none=_ from h2);cases h4;exact old ⟨h3,.inl ⟨o_,rfl⟩⟩
 have hlp:l[p]?=some o:=by rw[<-hmap,List.getElem?_map,h1];rfl
 have⟨x,_,hx,_,_⟩:=P.ss_get hlp;have hdx:=w2 p o x hlp hx;rw[<-hL,h1,z_]at hdx;cases hdx;cases hfn:(pI (oM l ps) p x).fin with
 |true=>
  have h4:cond (pI (oM l ps) p x).fin (cond (iD (st p).rds (st p).hs) (some (AEx.panic vv,AF.mk (BG L fr2.tm) fr2.cx,h2)) none) _=some (e,fr',h'):=h4;rw[hfn,cond_true]at h4;have⟨h5,h6⟩:=bj h4;cases h6;exact old ⟨h5,.inr ⟨o,x,vv,fr2,_,hlp,hx,hcl,h3,hfn,rfl⟩⟩
 |false=>
  have h4:cond (pI (oM l ps) p x).fin _ (aI (iB (L.drop (p+1)) call (Nat.pred (len (st p).hs)) (st p)) λ_=>some (AEx.panic vv,AF.mk (BG L fr2.tm) fr2.cx,h2))=some (e,fr',h'):=h4;rw[hfn,cond_false]at h4;have⟨_,q1,q2⟩:=aC h4;cases q2;have hc0:Nat.pred (len (st p).hs)=na (oM l ps) p:=by
   rw[bT,(R.hs P (by rw[h0];rfl) p (e_ _)).1];rfl
  rw[hc0,hL]at q1;have⟨st',D⟩:=GL _ q1;have⟨v',_,RV,hok⟩:=XO P hlp hcl R D;have hv0:nG p st st' 0=wv L fr h:=by grind [nG]
  have hnb:∀i,i<=l.length->nb (rC (du (oM l ps) p) l 0) i=nb l i:=by
   intro i;induction i with
   |zero=>intro _;cases l<;>rfl
   |succ i ihi=>
    intro hi;have hla:l[i]?=some l[i]:=g_;have gL:(rC (du (oM l ps) p) l 0)[i]?=some (cond (du (oM l ps) p i) iA l[i]):=by rw[jX,hla,z_];rfl
    rw[tA _ i _ gL,tA _ i _ hla,ihi o_];cases hz:du (oM l ps) p i with
    |false=>rfl
    |true=>
     have:=Ir P hlp hcl D hla hz;rw[N_ this,cond_true,N_ (by intro e;cases e)]
  have hcxv:fr.cx.rc=(nG p st st' 0).fr.cx.rc:=by rw[hv0];rfl
  have hevq:eO o call (nG p st st' p).fr (nG p st st' p).h=some (.panic vv,fr2,h'):=by grind [nG]
  rw[hlin,hcxv];refine Jl o_ P hlp hcl RV (by rw[hv0];rfl) hok (by rw[hv0];rfl) (by rw[pB,hnb _ (e_ _),hv0,<-hlen];exact b4) hop o_ o_ ops.size t _ (by simp) ?_ ?_ ?_ (j:=0) (g:=g) (U:=U1) ?_
  ·rw[hset];intro i o _ hi;grind
  ·grind
  ·rw[hset,hnum];omega
  rw[hset];refine⟨o_,?_,by rw[hv0];exact b1,?_,.refl g,by rw[hv0];exact b3,.refl _,b2,λi ao z hi hz _=>?_⟩
  ·unfold na;simp_all
  ·rw[hv0];show FR g b K nt ⟨jV (eJ (rC (du (oM l ps) p) l 0)) v' fr.tm (λ_=>false) (rC (du (oM l ps) p) l 0).length,fr.cx⟩ tmps ds;simp_all
  rw[jX]at hi;have⟨_,_,e1⟩:=Option.map_eq_some_iff.1 hi;have hil:i<l.length:=g_;rw[hnb i o_];cases hw:du (oM l ps) p (0+i) with
  |true=>rw[hw,cond_true]at e1;subst e1;cases hz
  |false=>grind
end
def FI {C:Cx}{E:Env}{g:Gh}{U:Nat->Option (List AV)}{h j:AH}{w:World}{call:aN}(a:dD C call)(p:AZ C E){n:Nat}{f:FuncId}{as:List AV}{l:List Value}{v:AV}{i:RC}(q:qw E call n f as .no h=some (.ret v,i,j))
  (s:Sim C g U h w) (A:bD g as l):Calls C.P f ⟨l⟩ w λe c=>∃u b d,e=.returned u/\Ext g b/\bR b v u/\Sim C b d j c:=by
 intro t;obtain⟨F,b,d,c,u,_,_,_,y,_,o,_,r,_,x,st,B,rfl,z⟩:=MQ (K:=⟨default,[],.nilIface,t⟩) (kind:=.normal) a (MW a) p q s A rfl;have:=oX x;subst this;exact⟨.returned u,c,_,⟨u,b,d,rfl,o,B,r⟩,st,rfl,rfl,rfl,rfl,F,y,z⟩
def jW (w:World):Gh:={F:=λb o=>w.cell? ⟨b,o,none⟩,ρ:=λ_ _=>none,w0:=w}
def uS:AH:=⟨0,.lf⟩
def NO (C:Cx)(w:World)(hi:C.ini.p w):Sim C (jW w) (λ_=>none) uS w where
 frz _ _ _ e:=e
 obj k o e:=by cases e
 lt k o e:=by cases e
 unb k z e:=by grind
 rlt k n l e:=by cases e
 sep k k' o o' l l' _ e:=by cases e
 old _ _:=rfl
 sz:=e_ _
 tape:=rfl
 os:=rfl
 output:=rfl
 ini:=hi
noncomputable section
def ze (P:Program):Tr TypeInfo:=Tr.ofList P.types.toList
def Er (P:Program):Tr Func:=Tr.ofList P.funcs.toList
def cfOf (P:Program)(T:Tr TypeInfo)(a:Tr Func)(f:FuncId):Option Di:=aI (a.get f) λF=>abE P T F
def abz (P:Program):Env:=cfOf P (ze P) (Er P)
def MC (P:Program):Bool:=P.funcs.toList.all λF=>!(F.name == "runtime.NumGoroutine")
end
def Rz (P:Program):∀t i,(ze P).get t=some i->P.info? t=some i:=by
 grind [ze,Tr.get_ofList,Tables.info?,Array.getElem?_eq_some_iff]
def cxOf (P:Program)(h:P.follows .mixedOrders=true)(I:Ini):Cx:={P:=P,T:=ze P,ok:=Rz P,mixed:=h,ini:=I}
def ad7 (P:Program)(h:P.follows .mixedOrders=true)(b:MC P=true)(I:Ini):AZ (cxOf P h I) (abz P):=by
 intro f fn e;have⟨F,a,c⟩:=aC (show aI ((Er P).get f) _=_ from e);unfold Er at a;rw[Tr.get_ofList]at a;refine⟨F,show P.funcs[f]?=some F by grind,c,?_⟩;have:=List.all_eq_true.1 b F g_;grind
mutual
def AV.free:AV->Bool
 |.ptr _ _ _=>false
 |.row _ _ _ _ _=>false
 |.map _=>false
 |.yld _=>false
 |.any=>false
 |.vp v=>v.free
 |.ls c=>AV.frees c
 |.clip c=>AV.frees c
 |.fn _ a b=>AV.frees a&&AV.frees b
 |.ifc _ v=>v.free
 |.agg e=>AV.frees e
 |.tup d=>AV.frees d
 |_=>true
def AV.frees:List AV->Bool
 |[]=>true
 |a::l=>a.free&&AV.frees l
end
theorem jI (l:List AV):AV.frees l=true<->∀a∈l,a.free=true:=by
 induction l with
 |nil=>simp[AV.frees]
 |cons a l b=>grind [AV.frees]
theorem tT {v:AV}(h:v.free=true):∀c∈v.cells,c.free=true:=by
 intro c a;cases v<;>first|(simp[AV.free]at h;done)|skip
 all_goals grind [jI,AV.free,AV.cells]
def CD {a:List AV}(h:AV.frees a=true):∀c∈bJ a,c.free=true:=by
 induction a with
 |nil=>grind [lQ]
 |cons e a b=>
  grind [AV.frees,cK,tT]
mutual
def bR.local {g l:Gh}(d:∀b o v,g.F b o=some v->l.F b o=some v):∀{a:AV} {u:Value},bR g a u->a.free=true->bR l a u
 |_,_,.bool b,_=>.bool b
 |_,_,.int k n,_=>.int k n
 |_,_,.str s,_=>.str s
 |_,_,.nilp,_=>.nilp
 |_,_,.ptr h,c=>by cases c
 |_,_,.vp j h,c=>.vp j (fO.local d h (tT (by grind [AV.free])))
 |_,_,.nl,_=>.nl
 |_,_,.ls hs f i e h,c=>.ls hs f i e (fO.local d h (CD (by grind [AV.free])))
 |_,_,.lst0,_=>.lst0
 |_,_,.clip hs f i e h,c=>.clip hs f i e (fO.local d h (CD (by grind [AV.free])))
 |_,_,.clip0,_=>.clip0
 |_,_,.row h hs e,c=>by cases c
 |_,_,.row0 h hs e,c=>by cases c
 |_,_,.nilm,_=>.nilm
 |_,_,.map h,c=>by cases c
 |_,_,.fn h m,c=>by
  simp only[AV.free,Bool.and_eq_true]at c;exact .fn (bD.local d h ((jI _).1 g_)) (bD.local d m ((jI _).1 g_))
 |_,_,.yld h,c=>by cases c
 |_,_,.nilf,_=>.nilf
 |_,_,.ifc h,c=>.ifc (bR.local d h (by grind [AV.free]))
 |_,_,.nili,_=>.nili
 |_,_,.agg j h,c=>.agg j (bD.local d h ((jI _).1 (by grind [AV.free])))
 |_,_,.tup h,c=>.tup (bD.local d h ((jI _).1 (by grind [AV.free])))
 |_,_,.any u,c=>by cases c
def bD.local {g e:Gh}(d:∀b o v,g.F b o=some v->e.F b o=some v):∀{a:List AV} {u:List Value},bD g a u->(∀c∈a,c.free=true)->bD e a u
 |_,_,.nil,_=>.nil
 |_,_,.cons h t,f=>.cons (bR.local d h g_) (bD.local d t g_)
def fO.local {g e:Gh}(d:∀b o v,g.F b o=some v->e.F b o=some v):∀{b a:Nat} {l:List AV},fO g b a l->(∀c∈l,c.free=true)->fO e b a l
 |_,_,_,.nil b a,_=>.nil b a
 |_,_,_,.cons f h t,i=>.cons g_ (bR.local d h g_) (fO.local d t g_)
end
def Gh.void (g:Gh)(w:World):Gh:={F:=g.F,ρ:=λ_ _=>none,w0:=w}
def Sim.void {C:Cx}{g:Gh}{U:Nat->Option (List AV)}{h:AH}{w:World}(s:Sim C g U h w):Sim C (g.void w) (λ_=>none) uS w where
 frz:=s.frz
 obj k o e:=by cases e
 lt k o e:=by cases e
 unb k z e:=by grind
 rlt k n l e:=by cases e
 sep k k' o o' l l' _ e:=by cases e
 old _ _:=rfl
 sz:=e_ _
 tape:=rfl
 os:=rfl
 output:=rfl
 ini:=C.ini.up _ _ s.old s.sz s.ini
open Classical in
def Gh.back (g:Gh)(w a:World):Gh:={g with F:=λb o=>if b<w.heap.size then g.F b o else a.cell? ⟨b,o,none⟩}
theorem Sim.back {C:Cx}{g p:Gh}{U z:Nat->Option (List AV)}{h B:AH}{w d:World}(s:Sim C g U h w)(x:Ext (g.void w) p)(n:Sim C p z B d):
  Ext g (g.back w d)/\Sim C (g.back w d) U h d/\∀b o v,p.F b o=some v->(g.back w d).F b o=some v:=by
 have m:p.w0=w:=x.w0;have f:∀b,b<w.heap.size->d.heap[b]?=w.heap[b]?:=λb c=>by have:=n.old b (by grind);grind
 have t:w.heap.size<=d.heap.size:=by grind
 have a:∀b o,b<w.heap.size->(g.back w d).F b o=g.F b o:=λb o c=>by grind [Gh.back]
 have j:∀b o,¬b<w.heap.size->(g.back w d).F b o=d.cell? ⟨b,o,none⟩:=λb o c=>by grind [Gh.back]
 have ex:Ext g (g.back w d):=⟨λb o v e=>by rw[a b o (s.frz_lt e)];omega,λ_ _ _ e=>e,rfl,λb o v c e=>by rw[a b o (B_ c s.sz)]at e;omega⟩;refine⟨ex,?_,λb o v e=>?_⟩
 ·constructor
  ·intro b o v e;by_cases c:b<w.heap.size
   ·rw[a b o c]at e;rw[po (f b c)];exact s.frz b o v e
   grind
  ·intro k o e u;have⟨l,A,y,r⟩:=s.obj k o e u;refine⟨l,A,y,r.kw ex (f _ r.block_lt) (λi v q=>?_) (λ_ _ q=>q)⟩;rw[a _ _ r.block_lt]at q;omega
  ·exact s.lt
  ·exact s.unb
  ·exact s.rlt
  ·exact s.sep
  ·intro b c;rw[f b (B_ c s.sz)];exact s.old b c
  ·exact C_ s.sz t
  ·rw[n.tape,m];exact s.tape
  ·rw[n.os,m];exact s.os
  ·rw[n.output,m];exact s.output
  exact s.ini
 by_cases c:b<w.heap.size
 ·rw[a b o c];exact x.old b o v c e
 rw[j b o c];exact n.frz b o v e
def ep.free:ep->Bool
 |.ret v=>v.free
 |.pan v=>v.free
