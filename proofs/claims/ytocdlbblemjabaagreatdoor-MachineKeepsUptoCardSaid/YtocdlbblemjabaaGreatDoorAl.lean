/- AbsGo: the walk of the machine: regions in their own order, loops over functions (no condition). -/
import Derived.Test.YtocdlbblemjabaaGreatDoorAk
namespace Go.AG
section
variable {C:Cx}{b:Frame}{K:KK}{nt:Nat}{k:List Item}{g g1:Gh}{U U1:Nat->Option (List AV)}{h h1 h':AH}{e:AEx}{fr fr':AF}{w w1:World}{tmps:Array Value}{ds:List Deferred}
theorem Sim.born (s:Sim C g U h w){j n:Nat}{l:Loc}(e:g.ρ j n=some l):U j=none:=by
 cases q:U j with
 |none=>rfl
 |some z=>rw[(s.unb j z q).2 n]at e;cases e
theorem Gp (o:aV)(l:List aV)(call:aQ)(fr:AF)(h:AH):sQ (o::l) call fr h=andThen (dL o call fr h) (sQ l call):=rfl
theorem Oz {call:aQ}(hcall:cK C call){ops:Array Oper}: ∀ (l:List aV) (i:Nat) {g:Gh} {U:Nat->Option (List AV)} {h:AH} {w:World} {tmps:Array Value} {ds:List Deferred} {fr fr':AF} {e:AEx} {h':AH},
  (∀ j ao,l[j]?=some ao->∃ o,ops[i+j]?=some o/\uf C nt ops.toList o ao)->sQ l call fr h=some (e,fr',h')->Sim C g U h w->FR g b K nt fr tmps ds->
  fC C b K nt k (lone (stF b tmps ds (.inRegion ops (List.range' i l.length)::k)) (ei K fr.cx.rc) w) g U h e fr' h'
 |[],i,g,U,h,w,tmps,ds,fr,fr',e,h',_,q,s,f=>by
  cases q;exact⟨g,U,w,tmps,ds,.refl g,.refl _ U,s,.refl _,f,.one qN⟩
 |ao::l,i,g,U,h,w,tmps,ds,fr,fr',e,h',hl,q,s,f=>by
  rw[Gp]at q;obtain⟨o,ho,hc⟩:=hl 0 ao rfl;have ho:ops[i]?=some o:=ho;rw[List.length_cons,List.range'_succ];rcases andThen_some q with⟨fr1,h1,q1,q2⟩|⟨q1,hn⟩
  ·obtain⟨G,_⟩:=oM (k:=k) (is:=List.range' (i+1) l.length) hcall ho hc q1 s f;refine G.then fun g1 U1 w1 tmps1 ds1 s1 f1=>Oz hcall l (i+1) (fun j ao hj=>?_) q2 s1 f1
   obtain⟨o,ho,hc⟩:=hl (j+1) ao (by simpa using hj);exact⟨o,by rw[show i+1+j=i+(j+1) by omega];exact ho,hc⟩
  ·obtain⟨G,_⟩:=oM (k:=k) (is:=List.range' (i+1) l.length) hcall ho hc q1 s f;exact fC.pass (x:=[.inRegion ops (List.range' (i+1) l.length)]) G (fun id=>by simp[exitTo]) (fun q=>hn q)
theorem tp {α β:Type}{f:α->Option β}: ∀ {l:List α} {r:List β} {i:Nat} {b:β},hX f l=some r->r[i]?=some b->∃ a,l[i]?=some a/\f a=some b
 |[],r,i,b,e,q=>by cases e;simp at q
 |a::l,r,i,b,e,q=>by
  obtain⟨b',r',h1,h2,rfl⟩:=bS e;cases i with
  |zero=>simp at q;subst q;exact⟨a,rfl,h1⟩
  |succ i=>
   obtain⟨a',h3,h4⟩:=tp (i:=i) h2 (by simpa using q);exact⟨a',by simpa using h3,h4⟩
theorem FI {call:aQ}(hcall:cK C call){id:Nat}{ops:Array Oper}{l:List aV}(hc:hX (zm C.P C.T C.kw nt ops.toList) ops.toList=some l)(q:sQ l call fr h=some (e,fr',h'))
  (s:Sim C g U h w) (f:FR g b K nt fr tmps ds):fC C b K nt k (lone (stF b tmps ds (.code (.region id ops false)::k)) (ei K fr.cx.rc) w) g U h e fr' h':=by
 refine fC.of_steps (.one QR) ?_;have hlen:l.length=ops.size:=by rw[tL hc];simp
 rw[List.range_eq_range',<- hlen];refine Oz hcall l 0 (fun j ao hj=>?_) q s f;obtain⟨o,h1,h2⟩:=tp hc hj;exact⟨o,by rw[z_];simpa using h1,yX h2⟩
theorem Ur {P:Program}{f:Operand}{ps:Array Tmp}{as bd:Code}{l:Nat}{mark:List Deferred}{d:Deferred}{fr0:Frame}{cs:List Frame}
  (hE:(Instr.enterLoop b.fn tmps ps as bd b.roundOf).run P w=.ok (l,mark) w1) (hd:(Deferred.ofValue (alc tmps f) #[.func (.yield l) #[] #[]]).run P w1=.ok d w1) (hent:IA P d .normal w1 fr0) :
  step P (lone (stF b tmps ds (.code (.rangeFunc f ps as bd)::k)) cs w)=.next (lone fr0 (stF b tmps (mark++ds) (.inRangeFunc l::k)::cs) w1):=by
 refine step_lone_go ?_;have e:=wb b tmps (mark++ds) (.inRangeFunc l::k);simp only[stF]at e;have hev:alc tmps (.const (.func (.yield l) #[] #[]))=.func (.yield l) #[] #[]:=rfl;rcases hent with⟨ff,as',h1,rfl⟩|⟨_,l',ff,ts,xx,yy,h1,rfl⟩
 ·simp[stepG,stepG.exec,stF,hE,stepG.apply,resolve,e,hev,hd,h1]
 ·simp[stepG,stepG.exec,stF,hE,stepG.apply,resolve,e,hev,hd,h1]
theorem tE {P:Program}{l:Nat}{jump:Option Code}{cs:List Frame}(hE:(Instr.endLoop l).run P w=.ok jump w1):
  step P (lone (stF b tmps ds (.endRangeFunc l::k)) cs w)=.next (lone (stF b tmps ds ((jump.map Item.code).toList++k)) cs w1):=by
 refine step_lone_go ?_;simp[stepG,stepG.exec,stF,hE]
theorem jl {l:Nat}{L:Loop}(e:w.heap[l]?=some (.loop L)):(Instr.getLoop l).run C.P w=.ok L w:=by
 have:=ko (C:=C) e (by intros;simp);simp[Instr.getLoop,this]
theorem Sf {ps:List Nat}{params:Array Tmp}{asC bC:Code}{as bd:aF}{p:Nat×List DF×AH}(hp:params.toList=ps)(ha:jA asC C.P C.T C.kw nt=some as)(hb:jA bC C.P C.T C.kw nt=some bd)
  (hk:mV nt ps=true) (q:rE fr ps as bd h=some p) (s:Sim C g U h w) (f:FR g b K nt fr tmps ds) :
  ∃ g1 w1 l mark,Ext g g1/\Sim C g1 U p.2.2 w1/\Low h p.2.2/\g1.ρ p.1 0=some l/\(Instr.enterLoop b.fn tmps params asC bC b.roundOf).run C.P w=.ok (l.block,mark) w1/\
   FR g1 b K nt (xV p.2.1 fr) tmps (mark++ds):=by
 have hro:=f.ho;cases hrn:fr.cx.rnd with
 |none=>
  have q:Option.casesOn fr.cx.rnd (some (Nat.succ h.z,[DF.mark h.z],(h.new (.dfd false)).new (.loop .ready none fr.tm ps as bd fr.cx.fid)))
   (fun l=>aD (h.get l) fun o=>gO o none fun _ _ _ _ _ _ _=>some (h.z,[],h.new (.loop .ready none fr.tm ps as bd fr.cx.fid)))=some p:=q
  rw[hrn]at q hro;cases q;have hbn:b.roundOf=none:=by cases hbr:b.roundOf with
   |none=>rfl
   |some y=>rw[hbr]at hro;cases hro
  obtain⟨x1,s1⟩:=s.alloc (.dfd false) (.deferred (some [])) ⟨w.heap.size,0,0,0⟩ rfl rfl (heap_alloc_new _ _);obtain⟨L,hL⟩:∃ L:Loop,L={state:=.ready,pending:=none,fn:=b.fn,tmps:=tmps,params:=params,assign:=asC,body:=bC,defers:=w.heap.size}:=⟨_,rfl⟩
  have hnx:(h.new (.dfd false)).z=h.z+1:=AH.ala _ _;obtain⟨x2,s2⟩:=s1.alloc (.loop .ready none fr.tm ps as bd fr.cx.fid) (.loop L) ⟨w.heap.size+1,0,0,0⟩ (by rw[World.size_alloc]) rfl (by
   refine⟨L,?_,?_⟩
   ·show((w.alloc _).alloc _).heap[w.heap.size+1]?=_;rw[<- World.size_alloc w (.deferred (some []))];exact heap_alloc_new _ _
   ·subst hL;exact⟨rfl,.none,(f.ht.mono x1).mono ((g.at h.z 0 ⟨w.heap.size,0,0,0⟩).at_ext _ (s1.rfresh 0)),hp,f.hf.symm,⟨nt,f.hn,ha,hb,hk⟩⟩)
  rw[hnx]at x2 s2;refine⟨_,_,⟨w.heap.size+1,0,0,0⟩,[{target:=.collected w.heap.size,args:=#[]}],x1.trans x2,s2,(Low.new _ _).trans (Low.new _ _),Gh.at_same _ _ _ _,?_,?_⟩
  ·rw[hbn,hL];simp[Instr.enterLoop]
  ·have f2:=f.mono (x1.trans x2);exact⟨f2.ht,.mark (lc:=⟨w.heap.size,0,0,0⟩) (x2.ρ _ _ _ (Gh.at_same _ _ _ _)) f2.hd,f2.hr,f2.hn,f2.hf,f2.ho⟩
 |some rl=>
  have q:Option.casesOn fr.cx.rnd (some (Nat.succ h.z,[DF.mark h.z],(h.new (.dfd false)).new (.loop .ready none fr.tm ps as bd fr.cx.fid)))
   (fun l=>aD (h.get l) fun o=>gO o none fun _ _ _ _ _ _ _=>some (h.z,[],h.new (.loop .ready none fr.tm ps as bd fr.cx.fid)))=some p:=q
  rw[hrn]at q hro;obtain⟨o,hg,q⟩:=aA (show aD (h.get rl) _=_ from q);cases o with
  |loop st pend tm0 ps0 as0 b0 f0=>
   cases q;cases hbr:b.roundOf with
   |none=>rw[hbr]at hro;cases hro
   |some lb=>
    rw[hbr]at hro;obtain⟨lc,hlc,hlb⟩:∃ lc,g.ρ rl 0=some lc/\lb=lc.block:=by cases hro with|some h=>exact⟨_,h,rfl⟩
    obtain⟨lc',h1,_,L0,h2,_⟩:=s.obj rl _ hg (s.born hlc);have h1:g.ρ rl 0=some lc':=h1;rw[hlc]at h1;cases h1;obtain⟨L,hL⟩:∃ L:Loop,L={state:=.ready,pending:=none,fn:=b.fn,tmps:=tmps,params:=params,assign:=asC,body:=bC,defers:=L0.defers}:=⟨_,rfl⟩
    obtain⟨x2,s2⟩:=s.alloc (.loop .ready none fr.tm ps as bd fr.cx.fid) (.loop L) ⟨w.heap.size,0,0,0⟩ rfl rfl (by
     refine⟨L,heap_alloc_new _ _,?_⟩;subst hL;exact⟨rfl,.none,f.ht.mono (g.at_ext _ (s.rfresh 0)),hp,f.hf.symm,⟨nt,f.hn,ha,hb,hk⟩⟩)
    refine⟨_,_,⟨w.heap.size,0,0,0⟩,[],x2,s2,Low.new _ _,Gh.at_same _ _ _ _,?_,f.mono x2⟩;subst hlb;have:=jl (C:=C) h2;rw[hL];simp[Instr.enterLoop,this]
  |_=>cases q
theorem CA {l:Nat}{lc:Loc}(q:pO fr l h=some (e,fr',h'))(s:Sim C g U h w)(hl:g.ρ l 0=some lc)(f:FR g b K nt fr tmps ds):
  fC C b K nt k (lone (stF b tmps ds (.endRangeFunc lc.block::k)) (ei K fr.cx.rc) w) g U h e fr' h':=by
 obtain⟨o,hg,q⟩:=aA (show aD (h.get l) _=_ from q);cases o with
 |loop st pend tm0 ps0 as0 b0 f0=>
  obtain⟨lc',h1,_,L0,h2,hL⟩:=s.obj l _ hg (s.born hl);have h1:g.ρ l 0=some lc':=h1;rw[hl]at h1;cases h1;have q:cond (rB st) none (Option.casesOn pend (some (AEx.normal,fr,h.set l (.loop .exhausted none tm0 ps0 as0 b0 f0))) fun e=>some (e,fr,h.set l (.loop .exhausted (some e) tm0 ps0 as0 b0 f0)))=some (e,fr',h'):=q;obtain⟨hb,q⟩:=fO q;have hst:L0.state≠.busy:=by rw[hL.hst];intro hq;rw[hq]at hb;cases hb
  have hrun:(Instr.endLoop lc.block).run C.P w=.ok L0.pending (setBlk w lc.block (.loop {L0 with state:=.exhausted})):=by
   have e1:=jl (C:=C) h2;have e2:=iY (C:=C) (ob':=.loop {L0 with state:=.exhausted}) h2 (by intros;simp);simp[Instr.endLoop,e1,e2,hst]
  have hlt:lc.block<w.heap.size:=(Array.getElem?_eq_some_iff.1 h2).1;have hput:∀ pend',Ua pend' L0.pending->Sim C g U (h.set l (.loop .exhausted pend' tm0 ps0 as0 b0 f0)) (setBlk w lc.block (.loop {L0 with state:=.exhausted})):=by
   intro pend' hp;refine s.put hg (s.born hl) hl rfl ⟨_,dZ hlt,?_⟩ (fun i v x=>?_)
   ·exact⟨rfl,hp,hL.htm,hL.hps,hL.hfn,hL.hcode⟩
   ·have:=s.frz _ _ _ x;unfold World.cell? at this;simp[h2]at this
  have hp:=hL.hpend;generalize setBlk w lc.block (.loop {L0 with state:=.exhausted})=W at hrun hput;cases pend with
  |none=>
   cases q;have hpn:L0.pending=none:=by cases hp2:L0.pending with
    |none=>rfl
    |some y=>rw[hp2]at hp;cases hp
   refine⟨g,U,_,tmps,ds,.refl g,.refl _ U,hput none hp,Low.set _ _ _,f,?_⟩;have:=tE (P:=C.P) (b:=b) (tmps:=tmps) (ds:=ds) (k:=k) (cs:=ei K fr.cx.rc) hrun;rw[hpn]at this;exact .one this
  |some e0=>
   cases q;refine⟨g,U,_,tmps,ds,.refl g,.refl _ U,hput (some e) hp,Low.set _ _ _,f,?_⟩;have:=tE (P:=C.P) (b:=b) (tmps:=tmps) (ds:=ds) (k:=k) (cs:=ei K fr.cx.rc) hrun;generalize L0.pending=pd at hp this;cases hp with
   |ret=>exact⟨k,.one this⟩
   |exit id=>exact⟨k,rfl,.one this⟩
 |_=>cases q
theorem Ro {call:aQ}(hcall:cK C call){fo:Operand}{f:AX}{ps:List Nat}{params:Array Tmp}{asC bC:Code}{as bd:aF}(hf:cX fo=some f)(hp:params.toList=ps)
  (ha:jA asC C.P C.T C.kw nt=some as) (hb:jA bC C.P C.T C.kw nt=some bd) (hk:mV nt ps=true) (q:OX call f ps as bd fr h=some (e,fr',h')) (s:Sim C g U h w) (F:FR g b K nt fr tmps ds) :
  fC C b K nt k (lone (stF b tmps ds (.code (.rangeFunc fo params asC bC)::k)) (ei K fr.cx.rc) w) g U h e fr' h':=by
 obtain⟨p,q1,q⟩:=aA (show aD (rE fr ps as bd h) _=_ from q);obtain⟨⟨out,rc',h2⟩,q2,q⟩:=aA q;obtain⟨g1,w1,l,mark,x1,s1,lo1,hl,hE,F1⟩:=Sf hp ha hb hk q1 s F;have hvf:=(bQ F.ht hf).mono x1;have hva:aY g1 [.yld p.1] [.func (.yield l.block) #[] #[]]:=.cons (.yld hl) .nil;obtain⟨d,fr0,hd,hent,g',U',w',hx,hu,hs,hlow,hrc,hland⟩:=
  hcall _ _ _ _ _ _ _ q2 g1 U w1 _ _ ⟨stF b tmps (mark++ds) (.inRangeFunc l.block::k),ei K fr.cx.rc,.nilIface,stF b tmps (mark++ds) (.inRangeFunc l.block::k)::ei K fr.cx.rc⟩ .normal s1 hvf hva rfl rfl
 have hrc':=mf hrc;subst hrc';have h0:=Ur (P:=C.P) (b:=b) (tmps:=tmps) (ds:=ds) (k:=k) (cs:=ei K fr.cx.rc) hE (hd w1) hent;refine fC.of_steps (.one h0) (fC.after x1 (.refl _ U) lo1 ?_);cases out with
 |ret v=>
  obtain⟨u,hv,hst⟩:=hland;refine fC.of_steps hst (fC.after hx hu hlow ?_);exact CA (fr:=xV p.2.1 fr) q hs (hx.ρ _ _ _ hl) (F1.mono hx)
 |pan v=>
  obtain⟨pv,hv,hst⟩:=hland;cases q;exact⟨g',U',w',tmps,mark++ds,hx,hu,hs,hlow,F1.mono hx,.inRangeFunc l.block::k,pv,trivial,hv,hst rfl⟩
end
def BK (C:Cx)(call:aQ):Prop:=
 ∀ (nt id:Nat) (ops:Array Oper) (l:List aV) (ac:aF),hX (zm C.P C.T C.kw nt ops.toList) ops.toList=some l->afC ops.toList l=some ac->
  ∀ (n:Nat) (fr:AF) (h:AH) (e:AEx) (fr':AF) (h':AH),evCode ac call n fr h=some (e,fr',h')->
  ∀ (g:Gh) (U:Nat->Option (List AV)) (w:World) (b:Frame) (K:KK) (k:List Item) (tmps:Array Value) (ds:List Deferred),Sim C g U h w->FR g b K nt fr tmps ds->
   fC C b K nt k (lone (stF b tmps ds (.code (.region id ops true)::k)) (ei K fr.cx.rc) w) g U h e fr' h'
section
variable {C:Cx}
theorem fC.stay {b:Frame}{K:KK}{nt:Nat}{k:List Item}{m:Machine}{g:Gh}{U:Nat->Option (List AV)}{h:AH}{fr:AF}{w:World}{tmps:Array Value}{ds:List Deferred}{e:AEx}(s:Sim C g U h w)
  (f:FR g b K nt fr tmps ds) (o:Out C.P b K k m g fr tmps ds w e):fC C b K nt k m g U h e fr h:=⟨g,U,w,tmps,ds,.refl g,.refl _ U,s,.refl _,f,o⟩
theorem RW (n:Nat)(st:AF->AH->RX)(fr:AF)(h:AH):Tj (n+1) st fr h=andThen (st fr h) (Tj n st):=rfl
theorem rU {call:aQ}(hcall:cK C call)(hdraw:BK C call)(n:Nat)(c:Code):∀ (ac:aF) (nt:Nat),jA c C.P C.T C.kw nt=some ac->
  ∀ {fr:AF} {h:AH} {e:AEx} {fr':AF} {h':AH} {g:Gh} {U:Nat->Option (List AV)} {w:World} {b:Frame} {K:KK} {k:List Item} {tmps:Array Value} {ds:List Deferred},
   evCode ac call n fr h=some (e,fr',h')->Sim C g U h w->FR g b K nt fr tmps ds->fC C b K nt k (lone (stF b tmps ds (.code c::k)) (ei K fr.cx.rc) w) g U h e fr' h':=by
 induction c with
 |skip=>
  intro ac nt hc fr h e fr' h' g U w b K k tmps ds q s f;cases hc;cases q;exact .stay s f (.one abB)
 |region id ops draw=>
  intro ac nt hc fr h e fr' h' g U w b K k tmps ds q s f;obtain⟨l,h1,hc⟩:=aA (show aD (hX (zm C.P C.T C.kw nt ops.toList) ops.toList) _=_ from hc);cases draw with
  |false=>cases hc;exact FI hcall h1 q s f
  |true=>exact hdraw nt id ops l ac h1 hc n fr h e fr' h' q g U w b K k tmps ds s f
 |seq x y ihx ihy=>
  intro ac nt hc fr h e fr' h' g U w b K k tmps ds q s f;obtain⟨ax,h1,hc⟩:=aA (show aD (jA x C.P C.T C.kw nt) _=_ from hc);obtain⟨ay,h2,hc⟩:=aA (show aD (jA y C.P C.T C.kw nt) _=_ from hc);cases hc;refine fC.of_steps (.one ahT) ?_;rcases andThen_some (show andThen (evCode ax call n fr h) (evCode ay call n)=_ from q) with⟨fr1,h1',q1,q2⟩|⟨q1,hn⟩
  ·exact(ihx ax nt h1 (k:=.code y::k) q1 s f).then fun g1 U1 w1 t1 d1 s1 f1=>ihy ay nt h2 q2 s1 f1
  ·exact fC.pass (x:=[.code y]) (ihx ax nt h1 (k:=.code y::k) q1 s f) (fun id=>by simp[exitTo]) hn
 |cond c x y ihx ihy=>
  intro ac nt hc fr h e fr' h' g U w b K k tmps ds q s f;obtain⟨cc,h0,hc⟩:=aA (show aD (cX c) _=_ from hc);obtain⟨ax,h1,hc⟩:=aA (show aD (jA x C.P C.T C.kw nt) _=_ from hc);obtain⟨ay,h2,hc⟩:=aA (show aD (jA y C.P C.T C.kw nt) _=_ from hc);cases hc;have hv:=bQ f.ht h0;have q:Iy (ev cc fr.tm) (evCode ax call n) (evCode ay call n) fr h=_:=q;generalize ev cc fr.tm=z at q hv;cases z<;>first|(cases q;done)|skip
  case bool t=>
   have hv:=hv.bool_inv;refine fC.of_steps (.one (abF hv)) ?_;cases t with
   |false=>exact ihy ay nt h2 q s f
   |true=>exact ihx ax nt h1 q s f
 |block id x ih=>
  intro ac nt hc fr h e fr' h' g U w b K k tmps ds q s f;obtain⟨ax,h1,hc⟩:=aA (show aD (jA x C.P C.T C.kw nt) _=_ from hc);cases hc;obtain⟨⟨e1,fr1,h1'⟩,q1,q⟩:=aA (show aD (evCode ax call n fr h) _=_ from q);refine fC.of_steps (.one Uw) ?_;have G:=ih ax nt h1 (k:=.inBlock id::k) q1 s f;cases e1 with
  |normal=>
   cases q;exact G.then fun g1 U1 w1 t1 d1 s1 f1=>.stay s1 f1 (.one FC)
  |ret=>
   cases q;obtain⟨g1,U1,w1,t1,d1,x1,u1,s1,lo1,f1,st⟩:=G;exact⟨g1,U1,w1,t1,d1,x1,u1,s1,lo1,f1,st⟩
  |panic v=>
   cases q;obtain⟨g1,U1,w1,t1,d1,x1,u1,s1,lo1,f1,st⟩:=G;exact⟨g1,U1,w1,t1,d1,x1,u1,s1,lo1,f1,st⟩
  |exit j=>
   obtain⟨g1,U1,w1,t1,d1,x1,u1,s1,lo1,f1,k1,hk1,st⟩:=G;have q:some (cond (Nat.beq j id) AEx.normal (.exit j),fr1,h1')=some (e,fr',h'):=q;cases hj:Nat.beq j id with
   |true=>
    rw[hj]at q;cases q;have hj:=beq_eq hj;subst hj;refine⟨g1,U1,w1,t1,d1,x1,u1,s1,lo1,f1,?_⟩;refine st.trans (.one (abD ?_));rw[hk1];simp[exitTo]
   |false=>
    rw[hj]at q;cases q;refine⟨g1,U1,w1,t1,d1,x1,u1,s1,lo1,f1,k1,?_,st⟩;rw[hk1];have:(id==j)=false:=by simp;intro hq;subst hq;simp at hj
    simp[exitTo,this]
 |loop x ih=>
  intro ac nt hc fr h e fr' h' g U w b K k tmps ds q s f;obtain⟨ax,h1,hc⟩:=aA (show aD (jA x C.P C.T C.kw nt) _=_ from hc);cases hc;refine fC.of_steps (.one abC) ?_;have q:Tj n (evCode ax call n) fr h=some (e,fr',h'):=q;have key:∀ (m:Nat) {fr:AF} {h:AH} {g:Gh} {U:Nat->Option (List AV)} {w:World} {tmps:Array Value} {ds:List Deferred},Tj m (evCode ax call n) fr h=some (e,fr',h')->Sim C g U h w->FR g b K nt fr tmps ds->
    fC C b K nt k (lone (stF b tmps ds (.code x :: .inLoop x::k)) (ei K fr.cx.rc) w) g U h e fr' h':=by
   intro m;induction m with
   |zero=>intro fr h g U w tmps ds q;cases q
   |succ m ihm=>
    intro fr h g U w tmps ds q s f;rcases andThen_some (show andThen (evCode ax call n fr h) (Tj m (evCode ax call n))=_ from q) with⟨fr1,h1',q1,q2⟩|⟨q1,hn⟩
    ·exact(ih ax nt h1 (k:=.inLoop x::k) q1 s f).then fun g1 U1 w1 t1 d1 s1 f1=>fC.of_steps (.one QS) (ihm q2 s1 f1)
    ·exact fC.pass (x:=[.inLoop x]) (ih ax nt h1 (k:=.inLoop x::k) q1 s f) (fun id=>by simp[exitTo]) hn
  exact key n q s f
 |rangeFunc fo ps as bd _ _=>
  intro ac nt hc fr h e fr' h' g U w b K k tmps ds q s f;obtain⟨af,h0,hc⟩:=aA (show aD (cX fo) _=_ from hc);obtain⟨aa,h1,hc⟩:=aA (show aD (jA as C.P C.T C.kw nt) _=_ from hc);obtain⟨ab,h2,hc⟩:=aA (show aD (jA bd C.P C.T C.kw nt) _=_ from hc);obtain⟨hk,hc⟩:=aN hc;cases hc;exact Ro hcall h0 rfl h1 h2 hk q s f
 |exit id=>
  intro ac nt hc fr h e fr' h' g U w b K k tmps ds q s f;cases hc;cases q;exact .stay s f ⟨k,rfl,.refl _ _⟩
 |scope x ih=>
  intro ac nt hc fr h e fr' h' g U w b K k tmps ds q s f;obtain⟨ax,h1,hc⟩:=aA (show aD (jA x C.P C.T C.kw nt) _=_ from hc);cases hc;refine fC.of_steps (.one Up) ?_;have G:=ih ax nt h1 (k:=.inScope x::k) q s f;by_cases hn:e=.normal
  ·subst hn;exact G.then fun g1 U1 w1 t1 d1 s1 f1=>.stay s1 f1 (.one FB)
  ·exact fC.pass (x:=[.inScope x]) G (fun id=>by simp[exitTo]) hn
 |label l=>
  intro ac nt hc fr h e fr' h' g U w b K k tmps ds q s f;cases hc;cases q;exact .stay s f (.one Ut)
 |goto l=>intro ac nt hc;cases hc
 |ret=>
  intro ac nt hc fr h e fr' h' g U w b K k tmps ds q s f;cases hc;cases q;exact .stay s f ⟨k,.refl _ _⟩
 |refuse why=>intro ac nt hc;cases hc
end
def stM (b:Frame)(tmps:Array Value)(ds:List Deferred)(todo:List Item)(md:FrameMode):Frame:={b with tmps:=tmps,defers:=ds,todo:=todo,mode:=md}
inductive zZ (g:Gh):Md->FrameMode->Prop
 |ret:zZ g .returning .returning
 |pan {v:AV} {pv:Value} (h:bA g v pv):zZ g (.panicking v) (.panicking [ent pv false])
theorem zZ.mono {g g':Gh}(x:Ext g g'){m:Md}{md:FrameMode}(h:zZ g m md):zZ g' m md:=by
 cases h with
 |ret=>exact .ret
 |pan h=>exact .pan (h.mono x)
section
variable {C:Cx}{b:Frame}{K:KK}{nt:Nat}{k todo:List Item}{g g1:Gh}{U U1:Nat->Option (List AV)}{h h1 h':AH}{fr fr':AF}{w w1:World}{tmps:Array Value}{ds:List Deferred}{md:FrameMode}{cs:List Frame}
theorem zw {P:Program}{bl:Nat}{as:Array Value}{calls:List Deferred}(hm:md≠.run)(hr:(Instr.takeDeferred bl).run P w=.ok calls w1):
  step P (lone (stM b tmps ({target:=.collected bl,args:=as} :: ds) todo md) cs w)=.next (lone (stM b tmps (calls++ds) todo md) cs w1):=by
 refine step_lone_go ?_;cases md with
 |run=>exact absurd rfl hm
 |returning=>simp[stepG,stM,unwind,hr]
 |panicking ch=>simp[stepG,stM,unwind,hr]
theorem BU {P:Program}{f f':FuncId}{cap as as':Array Value}(hm:md≠.run)(hr:(invoke (.fn (.func f) cap) as).run P w=.ok (.enter f' as') w):
  step P (lone (stM b tmps ({target:=.fn (.func f) cap,args:=as} :: ds) todo md) cs w)=.next (lone (Frame.enter P f' as' .deferred) (stM b tmps ds todo md::cs) w):=by
 refine step_lone_go ?_;cases md with
 |run=>exact absurd rfl hm
 |returning=>simp[stepG,stM,unwind,callDeferred,hr]
 |panicking ch=>simp[stepG,stM,unwind,callDeferred,hr]
theorem QQ {P:Program}{F:Func}{u:Value}{rc:RC}(hF:P.funcs[b.fn]?=some F)(hr:(results F tmps).run P w=.ok u w)(hk:ub g K b.kind rc)(hK:K.cs=K.c0::K.rest):
  step P (lone (stM b tmps [] todo .returning) (ei K rc) w)=.next (lone (xi K u rc) K.rest w):=by
 refine step_lone_go ?_;cases rc with
 |no=>have hk:b.kind=.normal:=hk;simp[stepG,stM,unwind,hF,hr,ei,xi,doReturn,hk,hK]
 |ret=>have hk:b.kind=.deferred:=hk;simp[stepG,stM,unwind,hF,hr,ei,xi,doReturn,hk]
 |pend v=>have hk:b.kind=.deferred:=hk.1;simp[stepG,stM,unwind,hF,hr,ei,xi,doReturn,hk,ent]
 |done=>have hk:b.kind=.deferred:=hk;simp[stepG,stM,unwind,hF,hr,ei,xi,doReturn,hk,ent]
theorem GF {P:Program}(fr:Frame)(hn:xM fr.todo):fr.catches P=false:=by
 unfold Frame.catches;split
 ·rename_i h;rw[h]at hn;exact hn.elim
 ·rfl
theorem DB {P:Program}{ch:List PanicEntry}{c:Frame}(hn:xM todo):step P (lone (stM b tmps [] todo (.panicking ch)) (c::cs) w)=.next (lone (c.raise ch) cs w):=by
 refine step_lone_go ?_;have:=GF (P:=P) (stM b tmps [] todo (.panicking ch)) hn;simp only[stM]at this;simp[stepG,stM,unwind,this]
theorem DC {P:Program}(hr:b.roundOf=none):step P (lone (stF b tmps ds []) cs w)=.next (lone (stM b tmps ds [] .returning) cs w):=
 step_lone_go (by simp[stepG,stepG.exec,stF,stM,hr])
theorem tD {P:Program}(hr:b.roundOf=none):step P (lone (stF b tmps ds (.code .ret::k)) cs w)=.next (lone (stM b tmps ds (.code .ret::k) .returning) cs w):=
 step_lone_go (by simp[stepG,stepG.exec,stF,stM,hr])
theorem UF {bl:Nat}(e:w.heap[bl]?=some (.deferred (some []))):(Instr.takeDeferred bl).run C.P w=.ok [] (setBlk w bl (.deferred none)):=by
 have e1:=ko (C:=C) e (by intros;simp);have e2:=iY (C:=C) (ob':=.deferred none) e (by intros;simp);simp[Instr.takeDeferred,e1,e2]
theorem rT {call:aQ}(hcall:cK C call):∀ (l:List DF) {m m':Md} {h h':AH} {g:Gh} {U:Nat->Option (List AV)} {w:World} {ds:List Deferred} {md:FrameMode},
  kJ l call m h=some (m',h')->Sim C g U h w->Dr g l ds->zZ g m md->
  ∃ g' U' w' md',Ext g g'/\nX h.z U U'/\Sim C g' U' h' w'/\Low h h'/\zZ g' m' md'/\Steps C.P (lone (stM b tmps ds todo md) cs w) (lone (stM b tmps [] todo md') cs w')
 |[],m,m',h,h',g,U,w,ds,md,q,s,d,hm=>by
  cases q;cases d;exact⟨g,U,w,md,.refl g,.refl _ U,s,.refl _,hm,.refl _ _⟩
 |.mark j::l,m,m',h,h',g,U,w,ds,md,q,s,d,hm=>by
  obtain⟨p,q1,q⟩:=aA (show aD (aaY (.mark j) call m h) _=_ from q);obtain⟨o,hg,q1⟩:=aA (show aD (h.get j) _=_ from q1);obtain⟨t,ht,q1⟩:=aA q1;obtain⟨htt,q1⟩:=fO q1;subst htt;cases q1;cases o<;>first|(cases ht;done)|skip
  cases ht;cases d with
  |@mark _ lc _ ds0 hρ d=>
   obtain⟨lc',h1,_,h2⟩:=s.obj j _ hg (s.born hρ);have h1:g.ρ j 0=some lc':=h1;rw[hρ]at h1;cases h1;have h2:w.heap[lc.block]?=some (.deferred (some [])):=h2;have hlt:lc.block<w.heap.size:=(Array.getElem?_eq_some_iff.1 h2).1;have s1:Sim C g U (h.set j (.dfd true)) (setBlk w lc.block (.deferred none)):=s.put hg (s.born hρ) hρ rfl (dZ hlt) (fun i v x=>by
    have:=s.frz _ _ _ x;unfold World.cell? at this;simp[h2]at this)
   have hrun:md≠.run:=by cases hm<;>simp
   obtain⟨g',U',w',md',a1,a2,a3,a4,a5,a6⟩:=rT hcall l q s1 d hm;refine⟨g',U',w',md',a1,a2,a3,(Low.set _ _ _).trans a4,a5,.head (zw hrun (UF h2)) a6⟩
 |.call f as::l,m,m',h,h',g,U,w,ds,md,q,s,d,hm=>by
  obtain⟨p,q1,qq⟩:=aA (show aD (aaY (.call f as) call m h) _=_ from q);clear q;have qq:kJ l call p.1 p.2=some (m',h'):=qq;obtain⟨⟨out,rc',h1⟩,q0,q1⟩:=aA (show aD (call f as (ahv m) h) _=_ from q1);cases d with
  |@fn fi a b' _ x y us _ ds0 ha hb hs d=>
   obtain⟨pv,hpv⟩:∃ pv,(∀ v,m=.panicking v->bA g v pv/\md=.panicking [ent pv false]):=by
    cases hm with
    |ret=>exact⟨.nilIface,fun v e=>by cases e⟩
    |pan h=>exact⟨_,fun v e=>by cases e;exact⟨h,rfl⟩⟩
   have hrc0:ub g ⟨stM b tmps ds0 todo md,cs,pv,stM b tmps ds0 todo md::cs⟩ .deferred (ahv m):=by
    cases m with
    |returning=>rfl
    |panicking v=>exact⟨rfl,(hpv v rfl).1⟩
   have hcs:ei ⟨stM b tmps ds0 todo md,cs,pv,stM b tmps ds0 todo md::cs⟩ (ahv m)=stM b tmps ds0 todo md::cs:=by
    cases m with
    |returning=>cases hm;rfl
    |panicking v=>rw[(hpv v rfl).2];rfl
   obtain⟨d',fr0,hd,hent,g',U',w',hx,hu,hs',hl,hrc,hland⟩:=
    hcall _ _ _ _ _ _ _ q0 g U w _ _ ⟨stM b tmps ds0 todo md,cs,pv,stM b tmps ds0 todo md::cs⟩ .deferred s (.fn ha hb) hs hrc0 rfl
   have hd':=hd w;rw[qj (C:=C) (.fn ha hb) rfl w]at hd';cases hd';have hrun:md≠.run:=by cases hm<;>simp
   rw[hcs]at hland;have h0:Steps C.P (lone (stM b tmps ({target:=.fn (.func fi) ⟨y⟩,args:=⟨x++us⟩} :: ds0) todo md) cs w) (lone fr0 (stM b tmps ds0 todo md::cs) w):=by
    rcases hent with⟨ff,as',h1,rfl⟩|⟨hk,_⟩
    ·exact .one (BU hrun h1)
    ·cases hk
   cases out with
   |pan v=>cases q1
   |ret v=>
    obtain⟨u,hv,hst⟩:=hland;have key:∃ md1,zZ g' p.1 md1/\p.2=h1/\xi ⟨stM b tmps ds0 todo md,cs,pv,stM b tmps ds0 todo md::cs⟩ u rc'=stM b tmps ds0 todo md1:=by
     have q1:Ze rc' m h1=some p:=q1;cases rc' with
     |no=>cases q1
     |ret=>cases m with
      |returning=>cases q1;exact⟨.returning,.ret,rfl,rfl⟩
      |panicking v=>cases q1
     |done=>cases m with
      |returning=>cases q1
      |panicking v=>cases q1;exact⟨.returning,.ret,rfl,rfl⟩
     |pend v0=>cases m with
      |returning=>cases q1
      |panicking v=>cases q1;exact⟨.panicking [ent pv false],.pan ((hpv v rfl).1.mono hx),rfl,rfl⟩
    obtain⟨md1,hm1,hp2,hbk⟩:=key;rw[hbk]at hst;rw[hp2]at qq;obtain⟨g2,U2,w2,md2,a1,a2,a3,a4,a5,a6⟩:=rT hcall l qq hs' (d.mono hx) hm1;exact⟨g2,U2,w2,md2,hx.trans a1,hu.trans a2 hl.z,a3,hl.trans a4,a5,(h0.trans hst).trans a6⟩
def rdV (tmps:Array Value):ResultVar->Sem Value
 |.tmp t=>pure (tmps.getD t undef)
 |.cell a t=>do loadVar t (<- asAddr (tmps.getD a undef))
theorem abW {tm:Tm}(s:Sim C g U h w)(ht:ep g tm tmps){r:ResultVar}{ar:bK}{v:AV}(hc:ZS C.T r=some ar)(q:Io ar tm h=some v):
  ∃ u,(rdV tmps r).run C.P w=.ok u w/\bA g v u:=by
 cases r with
 |tmp t=>cases hc;cases q;exact⟨tmps.getD t undef,by simp[rdV],ht t⟩
 |cell a t=>
  obtain⟨n,h1,hc⟩:=aA (show aD (szT C.T t) _=_ from hc);obtain⟨_,hc⟩:=aN hc;cases hc;obtain⟨ad,y,e1,e2,e3⟩:=EH s h1 (ht a) q;exact⟨y,by show((do loadVar t (<- asAddr (tmps.getD a undef)):Sem Value)).run C.P w=_;rw[e1];simp[asAddr,e2],e3⟩
end
