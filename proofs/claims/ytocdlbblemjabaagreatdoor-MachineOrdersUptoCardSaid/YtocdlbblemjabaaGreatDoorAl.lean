/- Lemmas for MachineOrders (no condition). -/
import Derived.Test.YtocdlbblemjabaaGreatDoorAh
set_option linter.defProp false
namespace Go.AG
variable {ops:Array Oper}{params:Array Tmp}{kind:CallKind}{F:Func}{f:FuncId}{g:Gh}{cs:List Frame}{a us:List Value}{d lc:Loc}{L:Loop}{c st:LoopState}{j n l id nt:Nat}{pend:Option AEx}{P:Program}{rc rc':RC}{call:aN}{as:bu}{out:ep}
section
variable {C:Cx}{b:Frame}{K:KK}{nt:Nat}{k:List Item}{g g1:Gh}{U U1:Nat->Option (List AV)}{h h1 h':AH}{e:AEx}{fr fr':AF}{w w1:World}{tmps:Array Value}{ds:List Deferred}
def Sim.born (s:Sim C g U h w){l:Loc}(e:g.ρ j n=some l):U j=none:=by
 cases q:U j with
 |none=>rfl
 |some z=>rw[(s.unb j z q).2 n]at e;grind
theorem Mu (c:dD C call): ∀(l:List aX) (i:Nat) {g:Gh} {U:Nat->Option (List AV)} {h:AH} {w:World} {tmps:Array Value} {ds:List Deferred} {fr fr':AF} {e:AEx} {h':AH},
  (∀j a,l[j]?=some a->∃o,ops[i+j]?=some o/\xP C nt ops.toList o a)->wc l call fr h=some (e,fr',h')->Sim C g U h w->FR g b K nt fr tmps ds->
  iI C b K nt k (lone (stF b tmps ds (.inRegion ops (List.range' i l.length)::k)) (gR K fr.cx.rc) w) g U h e fr' h'
 |[],i,g,U,h,w,tmps,ds,fr,fr',e,h',_,q,s,f=>by
  cases q;exact⟨g,U,w,tmps,ds,.refl g,.refl _ U,s,.refl _,f,.one uw⟩
 |a::l,i,g,U,h,w,tmps,ds,fr,fr',e,h',p,q,s,f=>by
  have⟨o,ho,d⟩:=p 0 a rfl;rcases andThen_some q with⟨u,h1,n,r⟩|⟨n,y⟩
  ·have⟨G,_⟩:=rS (k:=k) (is:=List.range' (i+1) l.length) o_ ho d n s f;refine G.then λg1 U1 w1 m v t x=>Mu o_ l (i+1) (λj a z=>?_) r t x;have⟨_,ho,d⟩:=p (j+1) a (by grind);grind
  have⟨G,_⟩:=rS (k:=k) (is:=List.range' (i+1) l.length) o_ ho d n s f;exact iI.pass (x:=[.inRegion ops (List.range' (i+1) l.length)]) G (λid=>by simp[exitTo]) o_
theorem wE {d c:Type}{f:d->Option c}: ∀{l:List d} {r:List c} {i:Nat} {b:c},ma f l=some r->r[i]?=some b->∃a,l[i]?=some a/\f a=some b
 |[],r,i,b,e,q=>by cases e;grind
 |a::l,r,i,b,e,q=>by
  obtain⟨m,n,h1,g,rfl⟩:=cA e;cases i with
  |zero=>grind
  |succ i=>
   obtain⟨j,h,k⟩:=wE (i:=i) g (by simpa using q);grind
theorem IA (a:dD C call){l:List aX}(d:ma (De C.P C.T nt ops.toList) ops.toList=some l)(q:wc l call fr h=some (e,fr',h'))
  (s:Sim C g U h w) (f:FR g b K nt fr tmps ds):iI C b K nt k (lone (stF b tmps ds (.code (.region id ops false)::k)) (gR K fr.cx.rc) w) g U h e fr' h':=by
 refine iI.of_steps (.one NT) ?_;have c:l.length=ops.size:=by rw[wY d];simp
 grind [List.range_eq_range',Mu,wE,CQ]
theorem RK {f:Operand}{ps:Array Tmp}{as bd:Code}{mark:List Deferred}{d:Deferred}{fr0:Frame}
  (hE:(Instr.enterLoop b.fn tmps ps as bd b.roundOf).run P w=.ok (l,mark) w1) (hd:(Deferred.ofValue (bE tmps f) #[.func (.yield l) #[] #[]]).run P w1=.ok d w1) (hent:KN P d .normal w1 fr0) :
  step P (lone (stF b tmps ds (.code (.rangeFunc f ps as bd)::k)) cs w)=.next (lone fr0 (stF b tmps (mark++ds) (.inRangeFunc l::k)::cs) w1):=by
 refine step_lone_go ?_;have e:=Aa b tmps (mark++ds) (.inRangeFunc l::k);simp only[stF]at e;have hev:bE tmps (.const (.func (.yield l) #[] #[]))=.func (.yield l) #[] #[]:=rfl;rcases hent with⟨ff,as',h1,rfl⟩|⟨_,l',ff,ts,xx,yy,h1,rfl⟩
 ·simp[stepG,stepG.exec,stF,hE,stepG.apply,resolve,e,hev,hd,h1]
 simp[stepG,stepG.exec,stF,hE,stepG.apply,resolve,e,hev,hd,h1]
def wO {jump:Option Code}(hE:(Instr.endLoop l).run P w=.ok jump w1):
  step P (lone (stF b tmps ds (.endRangeFunc l::k)) cs w)=.next (lone (stF b tmps ds ((jump.map Item.code).toList++k)) cs w1):=by
 refine step_lone_go ?_;simp[stepG,stepG.exec,stF,hE]
def lK (e:w.heap[l]?=some (.loop L)):(Instr.getLoop l).run C.P w=.ok L w:=by
 have:=pU (C:=C) e (by intros;simp);simp[Instr.getLoop,this]
theorem Pd {c:List Nat}{d t:Code}{i:bu}{p:Nat×List DF×AH}(E:params.toList=c)(G:nM d C.P C.T nt=some as)(H:nM t C.P C.T nt=some i)
  (hk:pR nt c=true) (q:uR fr c as i h=some p) (s:Sim C g U h w) (f:FR g b K nt fr tmps ds) :
  ∃g1 w1 l mark,Ext g g1/\Sim C g1 U p.2.2 w1/\Low h p.2.2/\g1.ρ p.1 0=some l/\(Instr.enterLoop b.fn tmps params d t b.roundOf).run C.P w=.ok (l.block,mark) w1/\
   FR g1 b K nt (BC p.2.1 fr) tmps (mark++ds):=by
 have a:=f.ho;cases n:fr.cx.rnd with
 |none=>
  have q:Option.casesOn fr.cx.rnd (some (Nat.succ h.z,[DF.mark h.z],(h.new (.dfd false)).new (.loop .ready none fr.tm c as i fr.cx.fid)))
   (λl=>aI (h.get l) λo=>jA o none λ_ _ _ _ _ _ _=>some (h.z,[],h.new (.loop .ready none fr.tm c as i fr.cx.fid)))=some p:=q
  rw[n]at q a;cases q;have v:b.roundOf=none:=by cases e:b.roundOf with
   |none=>rfl
   |some y=>rw[e]at a;cases a
  obtain⟨D,F⟩:=s.alloc (.dfd false) (.deferred (some [])) ⟨w.heap.size,0,0,0⟩ rfl rfl (heap_alloc_new _ _);obtain⟨L,r⟩:∃L:Loop,L={state:=.ready,pending:=none,fn:=b.fn,tmps:=tmps,params:=params,assign:=d,body:=t,defers:=w.heap.size}:=⟨_,rfl⟩;have P:(h.new (.dfd false)).z=h.z+1:=AH.next_new _ _;obtain⟨j,A⟩:=F.alloc (.loop .ready none fr.tm c as i fr.cx.fid) (.loop L) ⟨w.heap.size+1,0,0,0⟩ (by simp_all) rfl (by
   refine⟨L,?_,?_⟩
   ·grind [World.size_alloc,heap_alloc_new]
   subst r;exact⟨rfl,.none,(f.ht.mono D).mono ((g.at h.z 0 ⟨w.heap.size,0,0,0⟩).at_ext _ (F.rfresh 0)),E,f.hf.symm,⟨nt,f.hn,G,H,hk⟩⟩)
  refine⟨_,_,⟨w.heap.size+1,0,0,0⟩,[{target:=.collected w.heap.size,args:=#[]}],D.trans j,A,(Low.new _ _).trans (Low.new _ _),Gh.at_same _ _ _ _,?_,?_⟩
  ·rw[v,r];simp[Instr.enterLoop]
  have k:=f.mono (D.trans j);exact⟨k.ht,.mark (lc:=⟨w.heap.size,0,0,0⟩) (j.ρ _ _ _ (Gh.at_same _ _ _ _)) k.hd,k.hr,k.hn,k.hf,k.ho⟩
 |some z=>
  have q:Option.casesOn fr.cx.rnd (some (Nat.succ h.z,[DF.mark h.z],(h.new (.dfd false)).new (.loop .ready none fr.tm c as i fr.cx.fid)))
   (λl=>aI (h.get l) λo=>jA o none λ_ _ _ _ _ _ _=>some (h.z,[],h.new (.loop .ready none fr.tm c as i fr.cx.fid)))=some p:=q
  rw[n]at q a;obtain⟨o,J,q⟩:=aC o_;cases o with
  |loop st pend R M Q T S=>
   cases q;cases e:b.roundOf with
   |none=>rw[e]at a;cases a
   |some I=>
    rw[e]at a;obtain⟨B,m,x⟩:∃B,g.ρ z 0=some B/\I=B.block:=by cases a with|some h=>grind
    obtain⟨u,h1,_,O,N,_⟩:=s.obj z _ J (s.born m);have h1:g.ρ z 0=some u:=h1;rw[m]at h1;cases h1;obtain⟨L,r⟩:∃L:Loop,L={state:=.ready,pending:=none,fn:=b.fn,tmps:=tmps,params:=params,assign:=d,body:=t,defers:=O.defers}:=⟨_,rfl⟩;obtain⟨j,A⟩:=s.alloc (.loop .ready none fr.tm c as i fr.cx.fid) (.loop L) ⟨w.heap.size,0,0,0⟩ rfl rfl (by
     refine⟨L,heap_alloc_new _ _,?_⟩;subst r;exact⟨rfl,.none,f.ht.mono (g.at_ext _ (s.rfresh 0)),E,f.hf.symm,⟨nt,f.hn,G,H,hk⟩⟩)
    refine⟨_,_,⟨w.heap.size,0,0,0⟩,[],j,A,Low.new _ _,Gh.at_same _ _ _ _,?_,f.mono j⟩;subst x;have:=lK (C:=C) N;rw[r];simp[Instr.enterLoop,this]
  |_=>cases q
theorem Fy (q:tD fr l h=some (e,fr',h'))(s:Sim C g U h w)(hl:g.ρ l 0=some lc)(f:FR g b K nt fr tmps ds):
  iI C b K nt k (lone (stF b tmps ds (.endRangeFunc lc.block::k)) (gR K fr.cx.rc) w) g U h e fr' h':=by
 have⟨o,hg,q⟩:=aC (show aI (h.get l) _=_ from q);cases o with
 |loop st pend tm0 ps0 as0 b0 f0=>
  have⟨lc',h1,_,L0,h2,hL⟩:=s.obj l _ hg (s.born hl);have h1:g.ρ l 0=some lc':=h1;rw[hl]at h1;cases h1;have⟨hb,q⟩:=lq q;have hst:L0.state≠.busy:=by rw[hL.hst];intro hq;rw[hq]at hb;cases hb
  have hrun:(Instr.endLoop lc.block).run C.P w=.ok L0.pending (eK w lc.block (.loop {L0 with state:=.exhausted})):=by
   have e1:=lK (C:=C) h2;have e2:=kZ (C:=C) (ob':=.loop {L0 with state:=.exhausted}) h2 (by intros;simp);simp[Instr.endLoop,e1,e2,hst]
  have hlt:lc.block<w.heap.size:=g_;have hput:∀pend',Rj pend' L0.pending->Sim C g U (h.set l (.loop .exhausted pend' tm0 ps0 as0 b0 f0)) (eK w lc.block (.loop {L0 with state:=.exhausted})):=by
   intro pend' hp;refine s.put hg (s.born hl) hl rfl ⟨_,fC hlt,?_⟩ (λi v x=>?_)
   ·exact⟨rfl,hp,hL.htm,hL.hps,hL.hfn,hL.hcode⟩
   have:=s.frz _ _ _ x;grind [World.cell?]
  have hp:=hL.hpend;generalize eK w lc.block (.loop {L0 with state:=.exhausted})=W at hrun hput;cases pend with
  |none=>
   cases q;have hpn:L0.pending=none:=by cases hp2:L0.pending with
    |none=>rfl
    |some y=>rw[hp2]at hp;cases hp
   refine⟨g,U,_,tmps,ds,.refl g,.refl _ U,hput none hp,Low.set _ _ _,f,?_⟩;have:=wO (P:=C.P) (b:=b) (tmps:=tmps) (ds:=ds) (k:=k) (cs:=gR K fr.cx.rc) o_;rw[hpn]at this;exact .one this
  |some e0=>
   cases q;refine⟨g,U,_,tmps,ds,.refl g,.refl _ U,hput (some e) hp,Low.set _ _ _,f,?_⟩;have:=wO (P:=C.P) (b:=b) (tmps:=tmps) (ds:=ds) (k:=k) (cs:=gR K fr.cx.rc) o_;generalize L0.pending=pd at hp this;cases hp with
   |ret=>exact⟨k,.one this⟩
   |exit id=>exact⟨k,rfl,.one this⟩
 |_=>cases q
theorem Ov (hcall:dD C call){fo:Operand}{f:AX}{ps:List Nat}{asC bC:Code}{bd:bu}(hf:cX fo=some f)(hp:params.toList=ps)
  (ha:nM asC C.P C.T nt=some as) (hb:nM bC C.P C.T nt=some bd) (hk:pR nt ps=true) (q:zJ call f ps as bd fr h=some (e,fr',h')) (s:Sim C g U h w) (F:FR g b K nt fr tmps ds) :
  iI C b K nt k (lone (stF b tmps ds (.code (.rangeFunc fo params asC bC)::k)) (gR K fr.cx.rc) w) g U h e fr' h':=by
 have⟨p,q1,q⟩:=aC (show aI (uR fr ps as bd h) _=_ from q);have⟨⟨out,_,_⟩,q2,q⟩:=aC q;have⟨g1,w1,l,mark,x1,s1,lo1,hl,hE,F1⟩:=Pd hp ha hb hk q1 s F;have hvf:=(cT F.ht hf).mono x1;have hva:bD g1 [.yld p.1] [.func (.yield l.block) #[] #[]]:=.cons (.yld hl) .nil;have⟨_,_,hd,_,g',U',w',hx,hu,hs,_,hrc,hland⟩:=
  hcall _ _ _ _ _ _ _ q2 g1 U w1 _ _ ⟨stF b tmps (mark++ds) (.inRangeFunc l.block::k),gR K fr.cx.rc,.nilIface,stF b tmps (mark++ds) (.inRangeFunc l.block::k)::gR K fr.cx.rc⟩ .normal s1 hvf hva rfl rfl
 have hrc':=oX hrc;subst hrc';have h0:=RK (P:=C.P) (b:=b) (tmps:=tmps) (ds:=ds) (k:=k) (cs:=gR K fr.cx.rc) hE (hd w1) o_;refine iI.of_steps (.one h0) (iI.after x1 (.refl _ U) lo1 ?_);cases out with
 |ret v=>
  have⟨_,hv,hst⟩:=hland;refine iI.of_steps hst (iI.after hx hu o_ ?_);exact Fy (fr:=BC p.2.1 fr) q hs (hx.ρ _ _ _ hl) (F1.mono hx)
 |pan v=>
  have⟨pv,hv,hst⟩:=hland;cases q;exact⟨g',U',w',tmps,mark++ds,hx,hu,hs,o_,F1.mono hx,.inRangeFunc l.block::k,pv,trivial,hv,hst rfl⟩
end
def BE (C:Cx)(call:aN):Prop:=
 ∀(nt id:Nat) (ops:Array Oper) (l:List aX) (a:bu),ma (De C.P C.T nt ops.toList) ops.toList=some l->abF ops.toList l=some a->
  ∀(n:Nat) (fr:AF) (h:AH) (e:AEx) (fr':AF) (h':AH),dY a call n fr h=some (e,fr',h')->
  ∀(g:Gh) (U:Nat->Option (List AV)) (w:World) (b:Frame) (K:KK) (k:List Item) (tmps:Array Value) (ds:List Deferred),Sim C g U h w->FR g b K nt fr tmps ds->
   iI C b K nt k (lone (stF b tmps ds (.code (.region id ops true)::k)) (gR K fr.cx.rc) w) g U h e fr' h'
section
variable {C:Cx}
def iI.stay {b:Frame}{K:KK}{k:List Item}{m:Machine}{U:Nat->Option (List AV)}{h:AH}{fr:AF}{w:World}{tmps:Array Value}{ds:List Deferred}{e:AEx}(s:Sim C g U h w)
  (f:FR g b K nt fr tmps ds) (o:Out C.P b K k m g fr tmps ds w e):iI C b K nt k m g U h e fr h:=⟨g,U,w,tmps,ds,.refl g,.refl _ U,s,.refl _,f,o⟩
theorem OU (n:Nat)(st:AF->AH->RX)(fr:AF)(h:AH):Io (n+1) st fr h=kQ (st fr h) (Io n st):=rfl
theorem AI (hcall:dD C call)(hdraw:BE C call)(n:Nat)(c:Code):∀(ac:bu) (nt:Nat),nM c C.P C.T nt=some ac->
  ∀{fr:AF} {h:AH} {e:AEx} {fr':AF} {h':AH} {g:Gh} {U:Nat->Option (List AV)} {w:World} {b:Frame} {K:KK} {k:List Item} {tmps:Array Value} {ds:List Deferred},
   dY ac call n fr h=some (e,fr',h')->Sim C g U h w->FR g b K nt fr tmps ds->iI C b K nt k (lone (stF b tmps ds (.code c::k)) (gR K fr.cx.rc) w) g U h e fr' h':=by
 induction c with
 |skip=>
  intro ac nt hc fr h e fr' h' g U w b K k tmps ds q s f;cases hc;cases q;exact .stay s f (.one Xz)
 |region id ops draw=>
  intro ac nt hc fr h e fr' h' g U w b K k tmps ds q s f;have⟨l,h1,hc⟩:=aC (show aI (ma (De C.P C.T nt ops.toList) ops.toList) _=_ from hc);cases draw with
  |false=>cases hc;exact IA o_ h1 q s f
  |true=>exact hdraw nt id ops l ac h1 hc n fr h e fr' h' q g U w b K k tmps ds s f
 |seq x y ihx ihy=>
  intro ac nt hc fr h e fr' h' g U w b K k tmps ds q s f;have⟨ax,h1,hc⟩:=aC (show aI (nM x C.P C.T nt) _=_ from hc);have⟨ay,h2,hc⟩:=aC (show aI (nM y C.P C.T nt) _=_ from hc);cases hc;refine iI.of_steps (.one ada) ?_;rcases andThen_some (show kQ (dY ax call n fr h) (dY ay call n)=_ from q) with⟨fr1,h1',q1,q2⟩|⟨q1,hn⟩
  ·exact(ihx ax nt h1 (k:=.code y::k) q1 s f).then g_
  exact iI.pass (x:=[.code y]) g_ (λid=>by simp[exitTo]) hn
 |cond c x y ihx ihy=>
  intro ac nt hc fr h e fr' h' g U w b K k tmps ds q s f;have⟨cc,h0,hc⟩:=aC (show aI (cX c) _=_ from hc);have⟨ax,h1,hc⟩:=aC (show aI (nM x C.P C.T nt) _=_ from hc);have⟨ay,h2,hc⟩:=aC (show aI (nM y C.P C.T nt) _=_ from hc);cases hc;have hv:=cT f.ht h0;have q:BA (ev cc fr.tm) (dY ax call n) (dY ay call n) fr h=_:=q;generalize ev cc fr.tm=z at q hv;cases z<;>first|(cases q;done)|skip
  case bool t=>
   have hv:=hv.bool_inv;refine iI.of_steps (.one (XD hv)) ?_;cases t with
   |false=>exact ihy ay nt h2 q s f
   |true=>exact ihx ax nt h1 q s f
 |block id x ih=>
  intro ac nt hc fr h e fr' h' g U w b K k tmps ds q s f;have⟨ax,h1,hc⟩:=aC (show aI (nM x C.P C.T nt) _=_ from hc);cases hc;have⟨⟨e1,fr1,h1'⟩,q1,q⟩:=aC (show aI (dY ax call n fr h) _=_ from q);refine iI.of_steps (.one RQ) ?_;have G:=ih ax nt h1 (k:=.inBlock id::k) q1 s f;cases e1 with
  |normal=>
   cases q;exact G.then λg1 U1 w1 t1 d1 s1 f1=>.stay s1 f1 (.one Iu)
  |ret=>
   cases q;have⟨g1,U1,w1,t1,d1,x1,u1,s1,lo1,f1,st⟩:=G;exact⟨g1,U1,w1,t1,d1,x1,u1,s1,lo1,f1,st⟩
  |panic v=>
   cases q;have⟨g1,U1,w1,t1,d1,x1,u1,s1,lo1,f1,st⟩:=G;exact⟨g1,U1,w1,t1,d1,x1,u1,s1,lo1,f1,st⟩
  |exit j=>
   have⟨g1,U1,w1,t1,d1,x1,u1,s1,lo1,f1,k1,hk1,st⟩:=G;have q:some (cond (Nat.beq j id) AEx.normal (.exit j),fr1,h1')=some (e,fr',h'):=q;cases hj:Nat.beq j id with
   |true=>
    rw[hj]at q;cases q;have hj:=dB hj;subst hj;refine⟨g1,U1,w1,t1,d1,x1,u1,s1,lo1,f1,?_⟩;refine st.trans (.one (XB ?_));rw[hk1];simp[exitTo]
   |false=>
    rw[hj]at q;cases q;refine⟨g1,U1,w1,t1,d1,x1,u1,s1,lo1,f1,k1,?_,st⟩;have:(id==j)=false:=by simp;intro hq;simp_all
    grind [exitTo]
 |loop x ih=>
  intro ac nt hc fr h e fr' h' g U w b K k tmps ds q s f;have⟨ax,h1,hc⟩:=aC (show aI (nM x C.P C.T nt) _=_ from hc);cases hc;refine iI.of_steps (.one XA) ?_;have q:Io n (dY ax call n) fr h=some (e,fr',h'):=q;have key:∀(m:Nat) {fr:AF} {h:AH} {g:Gh} {U:Nat->Option (List AV)} {w:World} {tmps:Array Value} {ds:List Deferred},Io m (dY ax call n) fr h=some (e,fr',h')->Sim C g U h w->FR g b K nt fr tmps ds->
    iI C b K nt k (lone (stF b tmps ds (.code x :: .inLoop x::k)) (gR K fr.cx.rc) w) g U h e fr' h':=by
   intro m;induction m with
   |zero=>intro fr h g U w tmps ds q;cases q
   |succ m ihm=>
    intro fr h g U w tmps ds q s f;rcases andThen_some (show kQ (dY ax call n fr h) (Io m (dY ax call n))=_ from q) with⟨fr1,h1',q1,q2⟩|⟨q1,hn⟩
    ·exact(ih ax nt h1 (k:=.inLoop x::k) q1 s f).then λg1 U1 w1 t1 d1 s1 f1=>iI.of_steps (.one NU) g_
    exact iI.pass (x:=[.inLoop x]) g_ (λid=>by simp[exitTo]) hn
  grind
 |rangeFunc fo ps as bd _ _=>
  intro ac nt hc fr h e fr' h' g U w b K k tmps ds q s f;have⟨_,h0,hc⟩:=aC (show aI (cX fo) _=_ from hc);have⟨_,h1,hc⟩:=aC (show aI (nM as C.P C.T nt) _=_ from hc);have⟨_,h2,hc⟩:=aC (show aI (nM bd C.P C.T nt) _=_ from hc);have⟨hk,hc⟩:=bj hc;cases hc;exact Ov o_ h0 rfl h1 h2 hk q s f
 |exit id=>
  intro ac nt hc fr h e fr' h' g U w b K k tmps ds q s f;cases hc;cases q;exact .stay s f ⟨k,rfl,.refl _ _⟩
 |scope x ih=>
  intro ac nt hc fr h e fr' h' g U w b K k tmps ds q s f;have⟨ax,h1,hc⟩:=aC (show aI (nM x C.P C.T nt) _=_ from hc);cases hc;refine iI.of_steps (.one RI) ?_;have G:=ih ax nt h1 (k:=.inScope x::k) q s f;by_cases hn:e=.normal
  ·subst hn;exact G.then λg1 U1 w1 t1 d1 s1 f1=>.stay s1 f1 (.one Is)
  exact iI.pass (x:=[.inScope x]) G (λid=>by simp[exitTo]) hn
 |label l=>
  intro ac nt hc fr h e fr' h' g U w b K k tmps ds q s f;cases hc;cases q;exact .stay s f (.one RN)
 |goto l=>intro ac nt hc;cases hc
 |ret=>
  intro ac nt hc fr h e fr' h' g U w b K k tmps ds q s f;cases hc;cases q;exact .stay s f ⟨k,.refl _ _⟩
 |refuse why=>intro ac nt hc;cases hc
end
def stM (b:Frame)(tmps:Array Value)(ds:List Deferred)(todo:List Item)(md:FrameMode):Frame:={b with tmps:=tmps,defers:=ds,todo:=todo,mode:=md}
inductive Kf (g:Gh):Md->FrameMode->Prop
 |ret:Kf g .returning .returning
 |pan {v:AV} {pv:Value} (h:bR g v pv):Kf g (.panicking v) (.panicking [ent pv false])
def Kf.mono {g':Gh}(x:Ext g g'){m:Md}{md:FrameMode}(h:Kf g m md):Kf g' m md:=by
 cases h with
 |ret=>exact .ret
 |pan h=>exact .pan (h.mono x)
section
variable {C:Cx}{b:Frame}{K:KK}{nt:Nat}{k todo:List Item}{g g1:Gh}{U U1:Nat->Option (List AV)}{h h1 h':AH}{fr fr':AF}{w w1:World}{tmps:Array Value}{ds:List Deferred}{md:FrameMode}{cs:List Frame}
def Dk {bl:Nat}{as:Array Value}{calls:List Deferred}(hm:md≠.run)(hr:(Instr.takeDeferred bl).run P w=.ok calls w1):
  step P (lone (stM b tmps ({target:=.collected bl,args:=as} :: ds) todo md) cs w)=.next (lone (stM b tmps (calls++ds) todo md) cs w1):=by
 refine step_lone_go ?_;cases md with
 |run=>grind
 |returning=>simp[stepG,stM,unwind,hr]
 |panicking ch=>simp[stepG,stM,unwind,hr]
def EZ {f':FuncId}{cap as as':Array Value}(hm:md≠.run)(hr:(invoke (.fn (.func f) cap) as).run P w=.ok (.enter f' as') w):
  step P (lone (stM b tmps ({target:=.fn (.func f) cap,args:=as} :: ds) todo md) cs w)=.next (lone (Frame.enter P f' as' .deferred) (stM b tmps ds todo md::cs) w):=by
 refine step_lone_go ?_;cases md with
 |run=>grind
 |returning=>simp[stepG,stM,unwind,callDeferred,hr]
 |panicking ch=>simp[stepG,stM,unwind,callDeferred,hr]
theorem NS {u:Value}(hF:P.funcs[b.fn]?=some F)(hr:(results F tmps).run P w=.ok u w)(hk:ye g K b.kind rc)(hK:K.cs=K.c0::K.rest):
  step P (lone (stM b tmps [] todo .returning) (gR K rc) w)=.next (lone (AW K u rc) K.rest w):=by
 refine step_lone_go ?_;cases rc with
 |no=>have hk:b.kind=.normal:=hk;simp[stepG,stM,unwind,hF,hr,gR,AW,doReturn,hk,hK]
 |ret=>have hk:b.kind=.deferred:=hk;simp[stepG,stM,unwind,hF,hr,gR,AW,doReturn,hk]
 |pend v=>have hk:b.kind=.deferred:=hk.1;simp[stepG,stM,unwind,hF,hr,gR,AW,doReturn,hk,ent]
 |done=>have hk:b.kind=.deferred:=hk;simp[stepG,stM,unwind,hF,hr,gR,AW,doReturn,hk,ent]
theorem Jo (fr:Frame)(a:Bu fr.todo):fr.catches P=false:=by
 unfold Frame.catches;split
 ·rename_i h;rw[h]at a;exact a.elim
 grind
def Gy {ch:List PanicEntry}{c:Frame}(hn:Bu todo):step P (lone (stM b tmps [] todo (.panicking ch)) (c::cs) w)=.next (lone (c.raise ch) cs w):=by
 refine step_lone_go ?_;have:=Jo (P:=P) (stM b tmps [] todo (.panicking ch)) hn;simp only[stM]at this;simp[stepG,stM,unwind,this]
def RM (hr:b.roundOf=none):step P (lone (stF b tmps ds []) cs w)=.next (lone (stM b tmps ds [] .returning) cs w):=
 step_lone_go (by simp[stepG,stepG.exec,stF,stM,hr])
def EY (hr:b.roundOf=none):step P (lone (stF b tmps ds (.code .ret::k)) cs w)=.next (lone (stM b tmps ds (.code .ret::k) .returning) cs w):=
 step_lone_go (by simp[stepG,stepG.exec,stF,stM,hr])
theorem Se {a:Nat}(e:w.heap[a]?=some (.deferred (some []))):(Instr.takeDeferred a).run C.P w=.ok [] (eK w a (.deferred none)):=by
 have b:=pU (C:=C) e (by intros;simp);have c:=kZ (C:=C) (ob':=.deferred none) e (by intros;simp);simp[Instr.takeDeferred,b,c]
theorem AE (B:dD C call):∀(l:List DF) {m I:Md} {h h':AH} {g:Gh} {U:Nat->Option (List AV)} {w:World} {ds:List Deferred} {md:FrameMode},
  ou l call m h=some (I,h')->Sim C g U h w->Gi g l ds->Kf g m md->
  ∃g' K J z,Ext g g'/\xZ h.z U K/\Sim C g' K h' J/\Low h h'/\Kf g' I z/\Steps C.P (lone (stM b tmps ds todo md) cs w) (lone (stM b tmps [] todo z) cs J)
 |[],m,I,h,h',g,U,w,ds,md,q,s,d,hm=>by
  cases q;cases d;exact⟨g,U,w,md,.refl g,.refl _ U,s,.refl _,hm,.refl _ _⟩
 |.mark j::l,m,I,h,h',g,U,w,ds,md,q,s,d,hm=>by
  have⟨p,k,q⟩:=aC (show aI (JP (.mark j) call m h) _=_ from q);have⟨o,hg,k⟩:=aC (show aI (h.get j) _=_ from k);have⟨_,ht,k⟩:=aC k;have⟨R,k⟩:=lq k;subst R;cases k;cases o<;>first|(cases ht;done)|skip
  cases ht;cases d with
  |@mark _ W _ c r d=>
   have⟨Y,h1,_,h2⟩:=s.obj j _ hg (s.born r);have h1:g.ρ j 0=some Y:=h1;rw[r]at h1;cases h1;have h2:w.heap[W.block]?=some (.deferred (some [])):=h2;have T:W.block<w.heap.size:=g_;have s1:Sim C g U (h.set j (.dfd true)) (eK w W.block (.deferred none)):=s.put hg (s.born r) r rfl (fC T) (λi v x=>by
    have:=s.frz _ _ _ x;grind [World.cell?])
   have H:md≠.run:=by cases hm<;>simp
   have⟨g',K,J,z,a1,Q,N,M,Z,a6⟩:=AE o_ l q s1 d hm;refine⟨g',K,J,z,a1,Q,N,(Low.set _ _ _).trans M,Z,.head (Dk o_ (Se h2)) a6⟩
 |.call f as::l,m,I,h,h',g,U,w,ds,md,q,s,d,hm=>by
  have⟨p,k,qq⟩:=aC (show aI (JP (.call f as) call m h) _=_ from q);have⟨⟨out,D,h1⟩,q0,k⟩:=aC (show aI (call f as (acD m) h) _=_ from k);cases d with
  |@fn fi a b' _ x y us _ c ha hb hs d=>
   have⟨pv,L⟩:∃pv,(∀v,m=.panicking v->bR g v pv/\md=.panicking [ent pv false]):=by
    cases hm with
    |ret=>simp_all
    |pan h=>exact⟨_,λv e=>by cases e;exact⟨h,rfl⟩⟩
   have ad:ye g ⟨stM b tmps c todo md,cs,pv,stM b tmps c todo md::cs⟩ .deferred (acD m):=by
    cases m with
    |returning=>rfl
    |panicking v=>exact⟨rfl,g_⟩
   have S:gR ⟨stM b tmps c todo md,cs,pv,stM b tmps c todo md::cs⟩ (acD m)=stM b tmps c todo md::cs:=by
    cases m with
    |returning=>cases hm;rfl
    |panicking v=>rw[(L v rfl).2];rfl
   have⟨_,O,hd,G,g',_,_,hx,hu,aa,hl,_,n⟩:=
    B _ _ _ _ _ _ _ q0 g U w _ _ ⟨stM b tmps c todo md,cs,pv,stM b tmps c todo md::cs⟩ .deferred s (.fn ha hb) hs o_ rfl
   have F:=hd w;rw[tP (C:=C) (.fn ha hb) rfl w]at F;cases F;have H:md≠.run:=by cases hm<;>simp
   rw[S]at n;have h0:Steps C.P (lone (stM b tmps ({target:=.fn (.func fi) ⟨y⟩,args:=⟨x++us⟩} :: c) todo md) cs w) (lone O (stM b tmps c todo md::cs) w):=by
    rcases G with⟨ff,ag,h1,rfl⟩|⟨hk,_⟩
    ·exact .one (EZ o_ h1)
    grind
   cases out with
   |pan v=>cases k
   |ret v=>
    have⟨u,_,E⟩:=n;have X:∃A,Kf g' p.1 A/\p.2=h1/\AW ⟨stM b tmps c todo md,cs,pv,stM b tmps c todo md::cs⟩ u D=stM b tmps c todo A:=by
     cases D with
     |no=>cases k
     |ret=>cases m with
      |returning=>cases k;exact⟨.returning,.ret,rfl,rfl⟩
      |panicking v=>cases k
     |done=>cases m with
      |returning=>cases k
      |panicking v=>cases k;exact⟨.returning,.ret,rfl,rfl⟩
     |pend v0=>cases m with
      |returning=>cases k
      |panicking v=>cases k;exact⟨.panicking [ent pv false],.pan ((L v rfl).1.mono hx),rfl,rfl⟩
    have⟨_,ab,V,P⟩:=X;rw[P]at E;rw[V]at qq;have⟨g2,U2,w2,ac,a1,Q,N,M,Z,a6⟩:=AE o_ l qq aa (d.mono hx) ab;exact⟨g2,U2,w2,ac,hx.trans a1,hu.trans Q hl,N,hl.trans M,Z,(h0.trans E).trans a6⟩
def rdV (tmps:Array Value):ResultVar->Sem Value
 |.tmp t=>pure (tmps.getD t undef)
 |.cell a t=>do loadVar t (<-asAddr (tmps.getD a undef))
theorem XU {tm:Tm}(s:Sim C g U h w)(d:ig g tm tmps){r:ResultVar}{c:bG}{v:AV}(b:acT C.T r=some c)(q:UW c tm h=some v):
  ∃u,(rdV tmps r).run C.P w=.ok u w/\bR g v u:=by
 cases r with
 |tmp t=>cases b;cases q;exact⟨tmps.getD t undef,by simp[rdV],d t⟩
 |cell a t=>
  have⟨_,h1,b⟩:=aC (show aI (szT C.T t) _=_ from b);have⟨_,b⟩:=bj b;cases b;have⟨_,y,_,_,e⟩:=Hm s h1 (d a) q;exact⟨y,by show((do loadVar t (<-asAddr (tmps.getD a undef)):Sem Value)).run C.P w=_;grind [asAddr],e⟩
end
section
variable {C:Cx}{b:Frame}{K:KK}{g g':Gh}{U:Nat->Option (List AV)}{h h':AH}{w:World}{tm:Tm}{tmps:Array Value}
theorem UC (s:Sim C g U h w)(d:ig g tm tmps):∀{l:List ResultVar} {c:List bG} {a:List AV},ma (acT C.T) l=some c->fH c tm h=some a->
  ∃b,(l.mapM (rdV tmps)).run C.P w=.ok b w/\bD g a b
 |[],c,a,e,q=>by cases e;cases q;exact⟨[],by simp,.nil⟩
 |r::l,c,a,e,q=>by
  obtain⟨_,_,h1,n,rfl⟩:=cA e;have⟨_,k,q⟩:=aC q;have⟨_,j,q⟩:=aC q;cases q;have⟨u,_,i⟩:=XU s d h1 k;have⟨b,_,f⟩:=UC s d n j;exact⟨u::b,by simp_all,.cons i f⟩
theorem Iz (s:Sim C g U h w)(k:ig g tm tmps){i:List bG}{c:List AV}(e:ma (acT C.T) F.results.toList=some i)(q:fH i tm h=some c):
  ∃u,(results F tmps).run C.P w=.ok u w/\bR g (one c) u:=by
 have⟨f,_,j⟩:=UC s k e q;have d:(results F tmps).run C.P w=.ok (if h:(⟨f⟩:Array Value).size=1 then (⟨f⟩:Array Value)[0] else .tuple ⟨f⟩) w:=by
  have:results F tmps=(do let c <-F.results.mapM (rdV tmps);pure (if h:c.size=1 then c[0] else .tuple c)):=by
   congr
  rw[this,Array.mapM_eq_mapM_toList];simp_all
 cases j with
 |nil=>exact⟨_,d,.tup .nil⟩
 |cons a t=>cases t with
  |nil=>exact⟨_,d,a⟩
  |cons b t=>exact⟨_,d,.tup (.cons a (.cons b t))⟩
end
def AZ (C:Cx)(E:Env):Prop:=∀f fn,E f=some fn->∃F,C.P.funcs[f]?=some F/\abE C.P C.T F=some fn/\(F.name == "runtime.NumGoroutine")=false
section
variable {C:Cx}{E:Env}{K:KK}{g:Gh}{U:Nat->Option (List AV)}{h h':AH}{w:World}
theorem NQ {as:List AV}(h:bD g as a)(n:Nat):ig g (cU as) ((⟨a⟩:Array Value)++Array.replicate n undef):=by
 intro i;have c:nth (cU as) i=(as[i]?).getD (.tup []):=by
  unfold nth cU;rw[Tr.get_ofList];cases as[i]?<;>rfl
 rw[c,Array.getD_eq_getD_getElem?];by_cases hi:i<a.length
 ·have b:((⟨a⟩:Array Value)++Array.replicate n undef)[i]?=a[i]?:=by
   rw[Array.getElem?_append_left o_];simp
  have d:=h.length;have⟨_,_,_⟩:=h.get (a_ (show i<as.length by omega));grind
 have d:=h.length;rw[S_ o_];have b:(((⟨a⟩:Array Value)++Array.replicate n undef)[i]?).getD undef=undef:=by
  grind
 rw[b];exact .tup .nil
def Near (C:Cx)(K:KK)(g:Gh)(U:Nat->Option (List AV))(h:AH)(w:World)(f:FuncId)(d:List Value)(i:RC)(a:CallKind)(out:ep)(b:RC)(h':AH):Prop:=
  ∃F g' e c u tmps todo md,C.P.funcs[f]?=some F/\(callFunc f ⟨d⟩).run C.P w=.ok (.enter f ⟨d⟩) w/\Ext g g'/\xZ h.z U e/\Sim C g' e h' c/\Low h h'/\ye g' K a b/\
   Steps C.P (lone (Frame.enter C.P f ⟨d⟩ a) (gR K i) w) (lone (stM (Frame.enter C.P f ⟨d⟩ a) tmps [] todo md) (gR K b) c)/\
   match out with
   |.ret v=>bR g' v u/\md=.returning/\(results F tmps).run C.P c=.ok u c
   |.pan v=>bR g' v u/\md=.panicking [ent u false]/\Bu todo
theorem MQ (M:dD C call)(O:BE C call)(hE:AZ C E){as:List AV}{k c:RC}
  (q:qw E call n f as k h=some (out,c,h')) (s:Sim C g U h w) (ha:bD g as a) (Q:ye g K kind k) :
  Near C K g U h w f a k kind out c h':=by
 obtain⟨fn,J,q⟩:=aC (show aI (E f) _=_ from q);obtain⟨F,P,j,V⟩:=hE f fn J;obtain⟨d,hb,j⟩:=aC (show aI F.body _=_ from j);obtain⟨ac,y,j⟩:=aC o_;obtain⟨W,D,j⟩:=aC j;cases j;have p:(callFunc f ⟨a⟩).run C.P w=.ok (.enter f ⟨a⟩) w:=by
  have T:¬F.name = "runtime.NumGoroutine" :=by grind
  simp[callFunc,P,T,hb]
 obtain⟨⟨e,fr',h1⟩,N,q⟩:=aC q;have r:Frame.enter C.P f ⟨a⟩ kind=stF (Frame.enter C.P f ⟨a⟩ kind) ((⟨a⟩:Array Value)++Array.replicate (F.ntmps-a.length) undef) [] [.code d]:=by
  grind [Frame.enter,stF]
 have z:FR g (Frame.enter C.P f ⟨a⟩ kind) K F.ntmps ⟨cU as,⟨[],k,none,f⟩⟩ ((⟨a⟩:Array Value)++Array.replicate (F.ntmps-a.length) undef) []:=by
  refine⟨NQ ha _,.nil,Q,?_,rfl,.none⟩;simp;omega
 have G:=AI o_ o_ n d ac F.ntmps y (k:=[]) N s z;rw[<-r]at G;obtain⟨g1,U1,w1,b,H,x1,u1,s1,t,Y,i⟩:=G;have I:∀(m:Md) (md:FrameMode) (todo:List Item),Kf g1 m md->Bu todo->Dd call ⟨F.ntmps,W,ac⟩ fr' m h1=some (out,c,h')->
   Steps C.P (lone (Frame.enter C.P f ⟨a⟩ kind) (gR K k) w) (lone (stM (Frame.enter C.P f ⟨a⟩ kind) b H todo md) (gR K fr'.cx.rc) w1)->Near C K g U h w f a k kind out c h':=by
  intro m md todo hm A q st;obtain⟨⟨m2,h2⟩,J,q⟩:=aC (show aI (ou fr'.cx.dfs call m h1) _=_ from q);obtain⟨X,U2,w2,aa,x,u2,R,Z,L,l⟩:=AE (b:=Frame.enter C.P f ⟨a⟩ kind) (tmps:=b) (todo:=todo) (cs:=gR K fr'.cx.rc) o_ _ J s1 Y.hd hm;have S:=Y.mono x;cases L with
  |pan o=>cases q;exact⟨F,X,U2,w2,_,_,_,_,P,p,x1.trans x,u1.trans u2 t,R,C_ t Z,S.hr,st.trans l,o,rfl,A⟩
  |ret=>
   obtain⟨vs,N,q⟩:=aC (show aI (fH W fr'.tm h2) _=_ from q);obtain⟨u,Q,o⟩:=Iz R S.ht D N;cases q;exact⟨F,X,U2,w2,_,_,_,_,P,p,x1.trans x,u1.trans u2 t,R,C_ t Z,S.hr,st.trans l,o,rfl,Q⟩
 cases e with
 |exit id=>cases q
 |normal=>exact I .returning .returning [] .ret trivial q (i.trans (.one (RM rfl)))
 |ret=>
  obtain⟨B,i⟩:=i;exact I .returning .returning (.code .ret::B) .ret trivial q (i.trans (.one (EY rfl)))
 |panic v=>
  obtain⟨B,pv,A,o,i⟩:=i;exact I (.panicking v) _ B (.pan o) A q i
theorem adR (hcall:dD C call)(hdraw:BE C call)(hE:AZ C E){as:List AV}
  (q:qw E call n f as rc h=some (out,rc',h')) (s:Sim C g U h w) (ha:bD g as us) (hr:ye g K kind rc) (hK:K.cs=K.c0::K.rest) :
  (callFunc f ⟨us⟩).run C.P w=.ok (.enter f ⟨us⟩) w/\∃g' U' w',Ext g g'/\xZ h.z U U'/\Sim C g' U' h' w'/\Low h h'/\ye g' K kind rc'/\
   JZ C.P K kind rc' (lone (Frame.enter C.P f ⟨us⟩ kind) (gR K rc) w) g' w' out:=by
 have⟨_,g',U',w',u,_,_,_,hF,hcf,a1,a2,a3,a4,a5,st,hm⟩:=MQ hcall hdraw hE q s ha hr;refine⟨hcf,g',U',w',a1,a2,a3,a4,a5,?_⟩;cases out with
 |ret v=>obtain⟨hv,rfl,hr⟩:=hm;exact⟨u,hv,st.trans (.one (NS hF hr a5 hK))⟩
 |pan v=>
  obtain⟨hv,rfl,hn⟩:=hm;refine⟨u,hv,λhk=>?_⟩;subst hk;have:=oX a5;subst this;have st:Steps _ _ (lone _ K.cs w'):=st;rw[hK]at st;exact st.trans (.one (Gy hn))
end
section
variable {C:Cx}{E:Env}{b:Frame}{K:KK}{g g':Gh}{U:Nat->Option (List AV)}{h h0 h':AH}{w w1:World}{tm:Tm}{tmps:Array Value}{k:List Item}{ds:List Deferred}{cs:List Frame}{c:Frame}{l:Nat}{v:Value}
def EX (hro:b.roundOf=some l)(hk:b.kind=.normal)(hr:(Instr.endRound l none).run P w=.ok v w1):
  step P (lone (stF b tmps ds []) (c::cs) w)=.next (lone (c.finish v) cs w1):=
 step_lone_go (by simp[stepG,stepG.exec,stF,hro,hr,doReturn,hk])
def EW (hro:b.roundOf=some l)(hk:b.kind=.normal)(hr:(Instr.endRound l (some .ret)).run P w=.ok v w1):
  step P (lone (stF b tmps ds (.code .ret::k)) (c::cs) w)=.next (lone (c.finish v) cs w1):=
 step_lone_go (by simp[stepG,stepG.exec,stF,hro,hr,doReturn,hk])
def Dj (hro:b.roundOf=some l)(hk:b.kind=.normal)(he:exitTo id k=none)(hr:(Instr.endRound l (some (.exit id))).run P w=.ok v w1):
  step P (lone (stF b tmps ds (.code (.exit id)::k)) (c::cs) w)=.next (lone (c.finish v) cs w1):=
 step_lone_go (by simp[stepG,stepG.exec,stF,hro,hr,doReturn,hk,he])
def RR (hro:b.roundOf=some l)(hr:(Instr.beginRound l).run P w=.ok () w1):
  step P (lone (stF b tmps ds (.beginRound::k)) cs w)=.next (lone (stF b tmps ds k) cs w1):=
 step_lone_go (by simp[stepG,stepG.exec,stF,hro,stepG.apply,hr,Frame.finish])
theorem Fs (p:Nat)(b:List Nat)(a:AV)(as:List AV)(tm:Tm):qS (p::b) (a::as) tm=qS b as (tm.put p a):=rfl
theorem yF: ∀(b:List Nat) {as:List AV} {us:List Value} {tm:Tm} {tmps:Array Value},b.length=as.length->bD g as us->pR nt b=true->nt<=tmps.size->ig g tm tmps->
  ig g (qS b as tm) ((b.zip us).foldl (λtmps (p:Nat×Value)=>tmps.setIfInBounds p.1 p.2) tmps)/\nt<=((b.zip us).foldl (λtmps (p:Nat×Value)=>tmps.setIfInBounds p.1 p.2) tmps).size
 |[],as,us,tm,tmps,j,f,i,d,e=>by exact⟨e,d⟩
 |p::b,as,us,tm,tmps,j,f,i,d,e=>by
  cases f with
  |nil=>grind
  |@cons a u as us h t=>
   have⟨h1,k⟩:=fq (show and (Nat.blt p nt) (pR nt b)=true from i);rw[Fs];have c:=ig.put (d:=some p) e h1 d h;have:=yF b (as:=as) (us:=us) (tm:=tm.put p a) (tmps:=tmps.setIfInBounds p u) (by grind) t k (by grind) c;simp_all
theorem Oi (e:w.heap[l]?=some (.loop L))(d:a.length=L.params.size):
  (Instr.yield l ⟨a⟩).run C.P w=.ok (.round l L.fn ((L.params.toList.zip a).foldl (λtmps (p:Nat×Value)=>tmps.setIfInBounds p.1 p.2) L.tmps) L.assign L.body) w:=by
 have b:=lK (C:=C) e;have f:(L.params.zip (⟨a⟩:Array Value)).foldl (λtmps (p:Nat×Value)=>tmps.setIfInBounds p.1 p.2) L.tmps=(L.params.toList.zip a).foldl (λtmps (p:Nat×Value)=>tmps.setIfInBounds p.1 p.2) L.tmps:=by
  rw[<-Array.foldl_toList];simp
 have c:(L.params.zip (⟨a⟩:Array Value)).size=L.params.size:=by simp_all
 simp[Instr.yield,b,d];grind
theorem En (s:Sim C g U h w){a:Tm}{e:List Nat}{c:bu}(i:g.ρ j 0=some d)(k:h.get j=some (.loop st pend a e as c f)):
  ∃L,w.heap[d.block]?=some (.loop L)/\KL C g st pend a e as c f L:=by
 have⟨b,h1,_,_,_,_⟩:=s.obj j _ k (s.born i);have h1:g.ρ j 0=some b:=h1;grind
theorem Hl (s:Sim C g U h w){j:Nat}{d:Loc}{st c:LoopState}{pend a:Option AEx}{b:Tm}{m:List Nat}{as l:bu}{f:FuncId}{L:Loop}{p:Option Code}(o:g.ρ j 0=some d)
  (q:h.get j=some (.loop st pend b m as l f)) (e:w.heap[d.block]?=some (.loop L)) (k:KL C g st pend b m as l f L) (r:Rj a p) :
  Sim C g U (h.set j (.loop c a b m as l f)) (eK w d.block (.loop {L with state:=c,pending:=p})):=by
 have n:d.block<w.heap.size:=g_;refine s.put q (s.born o) o rfl ⟨_,fC n,?_⟩ (λi v x=>?_)
 ·exact⟨rfl,r,k.htm,k.hps,k.hfn,k.hcode⟩
 have:=s.frz _ _ _ x;grind [World.cell?]
theorem Oo (e:w.heap[l]?=some (.loop L))(hs:L.state=.ready):(Instr.beginRound l).run C.P w=.ok () (eK w l (.loop {L with state:=.busy})):=by
 have a:=lK (C:=C) e;have b:=kZ (C:=C) (ob':=.loop {L with state:=.busy}) e (by intros;simp);simp[Instr.beginRound,a,b,hs]
theorem Dn (e:w.heap[l]?=some (.loop L))(a:Option Code):
  (Instr.endRound l a).run C.P w=.ok (.bool a.isNone) (eK w l (.loop {L with state:=if a.isNone then .ready else .done,pending:=a})):=by
 have c:=lK (C:=C) e;have b:=kZ (C:=C) (ob':=.loop {L with state:=if a.isNone then .ready else .done,pending:=a}) e (by intros;simp);cases a<;>(simp at b;simp[Instr.endRound,c,b])
theorem ER {j:Nat}{c:LoopState}{a:Option AEx}(q:pL h j c a=some h'):∃st pend b e as d f,h.get j=some (.loop st pend b e as d f)/\h'=h.set j (.loop c a b e as d f):=by
 have⟨o,_,q⟩:=aC (show aI (h.get j) _=_ from q);cases o with
 |loop st pend b e as d f=>cases q;grind
 |_=>cases q
theorem Xi (hcall:dD C call)(hdraw:BE C call){args:List AV}(q:AQ call n j args h=some (out,rc',h'))
  (s:Sim C g U h w) (hl:g.ρ j 0=some lc) (ha:bD g args us) (hK:K.cs=K.c0::K.rest) :
  ∃ff ts x y,(Instr.yield lc.block ⟨us⟩).run C.P w=.ok (.round lc.block ff ts x y) w/\∃g' U' w',Ext g g'/\xZ h.z U U'/\Sim C g' U' h' w'/\Low h h'/\ye g' K .normal rc'/\
   JZ C.P K .normal rc' (lone (Frame.round lc.block ff ts x y .normal) (gR K .no) w) g' w' out:=by
 obtain⟨o,hg,q⟩:=aC (show aI (h.get j) _=_ from q);cases o with
 |loop st pend tm0 ps as bd f=>
  obtain⟨hlen,q⟩:=bj (show cond (Nat.beq (len args) (len ps)) (DD call n j bd (dY as call n ⟨qS ps args tm0,⟨[],.no,some j,f⟩⟩ h)) none=some (out,rc',h') from q);have hlen:=dB o_;rw[bT,bT]at hlen;obtain⟨L,e,hL⟩:=En s hl hg;obtain⟨nt,hnt,hca,hcb,hbk⟩:=hL.hcode;have hps:=hL.hps;have hul:us.length=L.params.size:=by rw[<-ha.length,hlen,<-hps];simp
  obtain⟨ht,hn⟩:=yF (nt:=nt) ps (as:=args) (us:=us) (tm:=tm0) (tmps:=L.tmps) o_ ha hbk hnt hL.htm;refine⟨_,_,_,_,Oi e hul,?_⟩;rw[hps];generalize (ps.zip us).foldl (λtmps (p:Nat×Value)=>tmps.setIfInBounds p.1 p.2) L.tmps=ts at ht hn;obtain⟨b,hb⟩:∃b,b=Frame.round lc.block L.fn ts L.assign L.body .normal:=⟨_,rfl⟩;have hst:Frame.round lc.block L.fn ts L.assign L.body .normal=stF b ts [] (.code L.assign :: [.beginRound,.code L.body]):=by subst hb;rfl
  have hro:b.roundOf=some lc.block:=by subst hb;rfl
  have hkd:b.kind=.normal:=by subst hb;rfl
  rw[hst];have hfr:FR g b K nt ⟨qS ps args tm0,⟨[],.no,some j,f⟩⟩ ts []:=⟨ht,.nil,hkd,hn,by subst hb;exact hL.hfn.symm,by rw[hro];exact .some hl⟩;obtain⟨⟨e1,fr1,h1⟩,q1,q⟩:=aC (show aI (dY as call n ⟨qS ps args tm0,⟨[],.no,some j,f⟩⟩ h) _=_ from q);obtain⟨hnorm,q⟩:=bj o_;cases e1<;>first|(cases hnorm;done)|skip
  obtain⟨g1,U1,w1,t1,d1,x1,u1,s1,l1,f1,o1⟩:=AI o_ o_ n L.assign as nt hca (k:=[.beginRound,.code L.body]) q1 s hfr;obtain⟨h2,q2,q⟩:=aC q;obtain⟨o2,hg2,q2⟩:=aC (show aI (h1.get j) _=_ from q2);cases o2 with
  |loop st2 pend2 tm2 ps2 as2 bd2 f2=>
   obtain⟨hrd,q2⟩:=bj (show cond (MM st2) (some (h1.set j (.loop .busy pend2 tm2 ps2 as2 bd2 f2))) none=some h2 from q2);cases q2;have hl1:=x1.ρ _ _ _ hl;obtain⟨L2,e2,hL2⟩:=En s1 hl1 hg2;have hst2:L2.state=.ready:=by rw[hL2.hst];cases st2<;>first|rfl|cases hrd
   have s2:Sim C g1 U1 (h1.set j (.loop .busy pend2 tm2 ps2 as2 bd2 f2)) (eK w1 lc.block (.loop {L2 with state:=.busy})):=Hl s1 hl1 hg2 e2 hL2 hL2.hpend;have o2:=Steps.trans (show Steps C.P _ _ from o1) (.one (RR hro (Oo (C:=C) e2 o_)));obtain⟨⟨e3,fr3,h3⟩,q3,q⟩:=aC q;obtain⟨hnil,q⟩:=bj o_;obtain⟨g3,U3,w3,t3,d3,x3,u3,s3,l3,f3,o3⟩:=AI o_ o_ n L.body bd nt hcb (k:=[]) q3 s2 f1;have xx:=x1.trans x3;have ll:Low h h3:=(l1.trans (Low.set _ _ _)).trans l3;have uu:=u1.trans u3 l1;have hl3:=xx.ρ _ _ _ hl;have hrc3:fr3.cx.rc=.no:=oX (by have:=f3.hr;rw[hkd]at this;omega);have fin:∀(jump:Option Code) (pd:Option AEx),Rj pd jump->xR jump.isNone (pL h3 j (if jump.isNone then .ready else .done) pd)=some (out,rc',h')->
     (∀v w',(Instr.endRound lc.block jump).run C.P w3=.ok v w'->Steps C.P (lone (stF b ts [] (.code L.assign :: [.beginRound,.code L.body])) (gR K .no) w) (lone (K.c0.finish v) K.rest w'))->
     ∃g' U' w',Ext g g'/\xZ h.z U U'/\Sim C g' U' h' w'/\Low h h'/\ye g' K .normal rc'/\JZ C.P K .normal rc' (lone (stF b ts [] (.code L.assign :: [.beginRound,.code L.body])) (gR K .no) w) g' w' out:=by
    intro jump pd hp q hs;obtain⟨h4,q4,q⟩:=aC (show aI (pL h3 j (if jump.isNone then .ready else .done) pd) _=_ from q);cases q;obtain⟨st4,pend4,tm4,ps4,as4,bd4,f4,hg4,rfl⟩:=ER q4;obtain⟨L4,e4,hL4⟩:=En s3 hl3 hg4;have hrun:=Dn (C:=C) e4 jump;exact⟨g3,U3,_,xx,uu,Hl s3 hl3 hg4 e4 hL4 hp,ll.trans (Low.set _ _ _),rfl,_,.bool _,hs _ _ hrun⟩
   cases e3 with
   |normal=>
    refine fin none none .none q λv w' hr=>?_;have o3:Steps C.P _ (lone (stF b t3 d3 []) (gR K fr3.cx.rc) w3):=o3;rw[hrc3,show gR K .no=K.c0::K.rest from hK]at o3;exact o2.trans (o3.trans (.one (EX hro hkd hr)))
   |ret=>
    refine fin (some .ret) (some .ret) .ret q λv w' hr=>?_;obtain⟨k1,o3⟩:=o3;rw[hrc3,show gR K .no=K.c0::K.rest from hK]at o3;exact o2.trans (o3.trans (.one (EW hro hkd hr)))
   |exit id=>
    refine fin (some (.exit id)) (some (.exit id)) (.exit id) q λv w' hr=>?_;obtain⟨k1,hk1,o3⟩:=o3;rw[hrc3,show gR K .no=K.c0::K.rest from hK]at o3;exact o2.trans (o3.trans (.one (Dj hro hkd hk1 hr)))
   |panic v=>
    cases q;obtain⟨k1,pv,hnc,hv,o3⟩:=o3;rw[hrc3,show gR K .no=K.c0::K.rest from hK]at o3;have hds:d3=[]:=by
     have hd:=f3.hd;cases hdf:fr3.cx.dfs with
     |nil=>rw[hdf]at hd;cases hd;rfl
     |cons a t=>rw[hdf]at hnil;cases hnil
    subst hds;refine⟨g3,U3,w3,xx,uu,s3,ll,rfl,pv,hv,λ_=>?_⟩;exact o2.trans (o3.trans (.one (Gy hnc)))
  |_=>cases q2
 |_=>cases q
end
