/- AbsGo: the walk of the machine: frames, ways out, the first steps (definitions and laws; no condition). -/
import Derived.Test.YtnacljdablhbgaaGreatAe
namespace Go.AG
def stF (b:Frame)(tmps:Array Value)(ds:List Deferred)(todo:List Item):Frame:={b with tmps:=tmps,defers:=ds,todo:=todo,mode:=.run}
structure KK where
 c0:Frame
 rest:List Frame
 pv:Value
 cs:List Frame
def ent (v:Value)(r:Bool):PanicEntry:={v:=v,recovered:=r,goexit:=false}
def eX (K:KK):RC->List Frame
 |.no=>K.cs
 |.ret=>{K.c0 with mode:=.returning} :: K.rest
 |.pend _=>{K.c0 with mode:=.panicking [ent K.pv false]} :: K.rest
 |.done=>{K.c0 with mode:=.panicking [ent K.pv true]} :: K.rest
def wa (K:KK)(u:Value):RC->Frame
 |.no=>K.c0.finish u
 |.ret=>{K.c0 with mode:=.returning}
 |.pend _=>{K.c0 with mode:=.panicking [ent K.pv false]}
 |.done=>{K.c0 with mode:=.returning}
def tR (g:Gh)(K:KK)(kind:CallKind):RC->Prop
 |.no=>kind=.normal
 |.ret=>kind=.deferred
 |.pend v=>kind=.deferred/\bu g v K.pv
 |.done=>kind=.deferred
inductive BV (g:Gh):List DF->List Deferred->Prop
 |nil:BV g [] []
 |fn {f:FuncId} {a b as:List AV} {x y us:List Value} {l:List DF} {ds:List Deferred} (ha:aR g a x) (hb:aR g b y) (hs:aR g as us) (t:BV g l ds) :
   BV g (.call (.fn f a b) as::l) ({target:=.fn (.func f) ⟨y⟩,args:=⟨x++us⟩} :: ds)
 |mark {k:Nat} {lc:Loc} {l:List DF} {ds:List Deferred} (h:g.ρ k 0=some lc) (t:BV g l ds):BV g (.mark k::l) ({target:=.collected lc.block,args:=#[]} :: ds)
inductive yC (g:Gh):Option Nat->Option Nat->Prop
 |none:yC g none none
 |some {k:Nat} {l:Loc} (h:g.ρ k 0=some l):yC g (some k) (some l.block)
theorem BV.mono {g g':Gh}(x:Ext g g'){l:List DF}{ds:List Deferred}(h:BV g l ds):BV g' l ds:=by
 induction h with
 |nil=>exact .nil
 |fn ha hb hs _ ih=>exact .fn (ha.mono x) (hb.mono x) (hs.mono x) ih
 |mark h _ ih=>exact .mark (x.ρ _ _ _ h) ih
theorem yC.mono {g g':Gh}(x:Ext g g'){a b:Option Nat}(h:yC g a b):yC g' a b:=by
 cases h with
 |none=>exact .none
 |some h=>exact .some (x.ρ _ _ _ h)
theorem tR.mono {g g':Gh}(x:Ext g g'){K:KK}{kd:CallKind}{r:RC}(h:tR g K kd r):tR g' K kd r:=by
 cases r with
 |pend v=>exact⟨h.1,h.2.mono x⟩
 |_=>exact h
structure FR (g:Gh)(b:Frame)(K:KK)(nt:Nat)(fr:AF)(tmps:Array Value)(ds:List Deferred):Prop where
 ht:eQ g fr.tm tmps
 hd:BV g fr.cx.dfs ds
 hr:tR g K b.kind fr.cx.rc
 hn:nt<=tmps.size
 hf:fr.cx.fid=b.fn
 ho:yC g fr.cx.rnd b.roundOf
theorem FR.mono {g g':Gh}(x:Ext g g'){b:Frame}{K:KK}{nt:Nat}{fr:AF}{tmps:Array Value}{ds:List Deferred}(f:FR g b K nt fr tmps ds):FR g' b K nt fr tmps ds:=
 ⟨f.ht.mono x,f.hd.mono x,f.hr.mono x,f.hn,f.hf,f.ho.mono x⟩
def wI:List Item->Prop
 |.call _ _ _ _::_=>False
 |_=>True
def Out (P:Program)(b:Frame)(K:KK)(k:List Item)(m:Machine)(g:Gh)(fr:AF)(tmps:Array Value)(ds:List Deferred)(w:World):AEx->Prop
 |.normal=>Steps P m (lone (stF b tmps ds k) (eX K fr.cx.rc) w)
 |.exit id=>∃k1,exitTo id k1=exitTo id k/\Steps P m (lone (stF b tmps ds (.code (.exit id)::k1)) (eX K fr.cx.rc) w)
 |.ret=>∃k1,Steps P m (lone (stF b tmps ds (.code .ret::k1)) (eX K fr.cx.rc) w)
 |.panic v=>∃k1 pv,wI k1/\bu g v pv/\Steps P m (lone {stF b tmps ds k1 with mode:=.panicking [ent pv false]} (eX K fr.cx.rc) w)
def gE (C:Cx)(b:Frame)(K:KK)(nt:Nat)(k:List Item)(m:Machine)(g:Gh)(U:Nat->Option (List AV))(h:AH)(e:AEx)(fr:AF)(h':AH):Prop:=
 ∃g' U' w' tmps ds,Ext g g'/\nO h.z U U'/\Sim C g' U' h' w'/\Low h h'/\FR g' b K nt fr tmps ds/\Out C.P b K k m g' fr tmps ds w' e
section
variable {C:Cx}{b:Frame}{K:KK}{nt:Nat}{k:List Item}{m m1:Machine}{g g1:Gh}{U U1:Nat->Option (List AV)}{h h1 h':AH}{e:AEx}{fr fr':AF}
theorem Out.of_steps {P:Program}{tmps:Array Value}{ds:List Deferred}{w:World}(s:Steps P m m1)(o:Out P b K k m1 g fr tmps ds w e):Out P b K k m g fr tmps ds w e:=by
 cases e with
 |normal=>exact s.trans o
 |exit id=>obtain⟨k1,x,y⟩:=o;exact⟨k1,x,s.trans y⟩
 |ret=>obtain⟨k1,y⟩:=o;exact⟨k1,s.trans y⟩
 |panic v=>obtain⟨k1,pv,x,y,z⟩:=o;exact⟨k1,pv,x,y,s.trans z⟩
theorem gE.of_steps (s:Steps C.P m m1)(o:gE C b K nt k m1 g U h e fr h'):gE C b K nt k m g U h e fr h':=by
 obtain⟨g',U',w',tmps,ds,a1,a2,a3,a4,a5,a6⟩:=o;exact⟨g',U',w',tmps,ds,a1,a2,a3,a4,a5,a6.of_steps s⟩
theorem gE.after (x:Ext g g1)(u:nO h.z U U1)(l:Low h h1)(o:gE C b K nt k m g1 U1 h1 e fr h'):gE C b K nt k m g U h e fr h':=by
 obtain⟨g',U',w',tmps,ds,a1,a2,a3,a4,a5,a6⟩:=o;exact⟨g',U',w',tmps,ds,x.trans a1,u.trans a2 l.z,a3,l.trans a4,a5,a6⟩
theorem gE.then (o:gE C b K nt k m g U h .normal fr h1){k':List Item}{e':AEx}
  (n:∀g1 U1 w1 tmps ds,Sim C g1 U1 h1 w1->FR g1 b K nt fr tmps ds->gE C b K nt k' (lone (stF b tmps ds k) (eX K fr.cx.rc) w1) g1 U1 h1 e' fr' h'):gE C b K nt k' m g U h e' fr' h':=by
 obtain⟨g1,U1,w1,tmps,ds,a1,a2,a3,a4,a5,a6⟩:=o;exact gE.after a1 a2 a4 (gE.of_steps a6 (n g1 U1 w1 tmps ds a3 a5))
theorem gE.pass {x:List Item}(o:gE C b K nt (x++k) m g U h e fr h')(hx:∀id,exitTo id (x++k)=exitTo id k)(hn:∀(_:e=.normal),False):gE C b K nt k m g U h e fr h':=by
 obtain⟨g1,U1,w1,tmps,ds,a1,a2,a3,a4,a5,a6⟩:=o;refine⟨g1,U1,w1,tmps,ds,a1,a2,a3,a4,a5,?_⟩;cases e with
 |normal=>exact(hn rfl).elim
 |exit id=>obtain⟨k1,p,q⟩:=a6;exact⟨k1,p.trans (hx id),q⟩
 |ret=>exact a6
 |panic v=>exact a6
theorem exBy_some {fr1:AF}{h1:AH}{e1 e':AEx}{kk:AF->AH->RX}(q:exBy e1 fr1 h1 kk=some (e',fr',h')):
  (e1=.normal/\kk fr1 h1=some (e',fr',h'))∨(e1≠.normal/\e'=e1/\fr'=fr1/\h'=h1):=by
 cases e1 with
 |normal=>exact .inl ⟨rfl,by cases fr1;cases h1;exact q⟩
 |_=>cases q;exact .inr ⟨by simp,rfl,rfl,rfl⟩
theorem andThen_some {r:RX}{kk:AF->AH->RX}{e':AEx}(q:jH r kk=some (e',fr',h')):
  (∃fr1 h1,r=some (.normal,fr1,h1)/\kk fr1 h1=some (e',fr',h'))∨(r=some (e',fr',h')/\e'≠.normal):=by
 obtain⟨⟨e1,fr1,h1⟩,hr,q⟩:=ah (show aq r _=_ from q);rcases exBy_some q with⟨rfl,q⟩|⟨hn,rfl,rfl,rfl⟩
 ·exact .inl ⟨fr1,h1,hr,q⟩
 ·exact .inr ⟨hr,hn⟩
end
section steps
variable {P:Program}{b:Frame}{tmps:Array Value}{ds:List Deferred}{k:List Item}{cs:List Frame}{w:World}
theorem vf (b:Frame)(tmps:Array Value)(ds:List Deferred)(k:List Item):(stF b tmps ds k).eval=gt tmps:=Bu _
theorem Wj:step P (lone (stF b tmps ds (.code .skip::k)) cs w)=.next (lone (stF b tmps ds k) cs w):=step_lone_go (by simp[stepG,stepG.exec,stF])
theorem Nb {l:Nat}: step P (lone (stF b tmps ds (.code (.label l)::k)) cs w)=.next (lone (stF b tmps ds k) cs w):=step_lone_go (by simp[stepG,stepG.exec,stF])
theorem Dv {id:Nat}: step P (lone (stF b tmps ds (.inBlock id::k)) cs w)=.next (lone (stF b tmps ds k) cs w):=step_lone_go (by simp[stepG,stepG.exec,stF])
theorem Du {c:Code}: step P (lone (stF b tmps ds (.inScope c::k)) cs w)=.next (lone (stF b tmps ds k) cs w):=step_lone_go (by simp[stepG,stepG.exec,stF])
theorem acU {x y:Code}: step P (lone (stF b tmps ds (.code (.seq x y)::k)) cs w)=.next (lone (stF b tmps ds (.code x :: .code y::k)) cs w):=step_lone_go (by simp[stepG,stepG.exec,stF])
theorem Wn {c:Operand}{x y:Code}{t:Bool}(h:gt tmps c=.bool t):
  step P (lone (stF b tmps ds (.code (.cond c x y)::k)) cs w)=.next (lone (stF b tmps ds (.code (if t then x else y)::k)) cs w):=
 step_lone_go (by
  have:=congrFun (vf b tmps ds (.code (.cond c x y)::k)) c;simp only[stF]at this;simp[stepG,stepG.exec,stF,this,h])
theorem Nf {id:Nat}{c:Code}: step P (lone (stF b tmps ds (.code (.block id c)::k)) cs w)=.next (lone (stF b tmps ds (.code c :: .inBlock id::k)) cs w):=step_lone_go (by simp[stepG,stepG.exec,stF])
theorem Wk {c:Code}: step P (lone (stF b tmps ds (.code (.loop c)::k)) cs w)=.next (lone (stF b tmps ds (.code c :: .inLoop c::k)) cs w):=step_lone_go (by simp[stepG,stepG.exec,stF])
theorem JL {c:Code}: step P (lone (stF b tmps ds (.inLoop c::k)) cs w)=.next (lone (stF b tmps ds (.code c :: .inLoop c::k)) cs w):=step_lone_go (by simp[stepG,stepG.exec,stF])
theorem MX {c:Code}: step P (lone (stF b tmps ds (.code (.scope c)::k)) cs w)=.next (lone (stF b tmps ds (.code c :: .inScope c::k)) cs w):=step_lone_go (by simp[stepG,stepG.exec,stF])
theorem Wl {id:Nat}{k':List Item}(h:exitTo id k=some k'):step P (lone (stF b tmps ds (.code (.exit id)::k)) cs w)=.next (lone (stF b tmps ds k') cs w):=
 step_lone_go (by simp[stepG,stepG.exec,stF,h])
theorem JK {id:Nat}{ops:Array Oper}: step P (lone (stF b tmps ds (.code (.region id ops false)::k)) cs w)=.next (lone (stF b tmps ds (.inRegion ops (List.range ops.size)::k)) cs w):=
 step_lone_go (by simp[stepG,stepG.exec,stF])
theorem pZ {ops:Array Oper}: step P (lone (stF b tmps ds (.inRegion ops []::k)) cs w)=.next (lone (stF b tmps ds k) cs w):=
 step_lone_go (by simp[stepG,stepG.exec,stF])
def qy (d:Option Tmp)(tmps:Array Value)(v:Value):Array Value:=match d with
 |some d=>tmps.setIfInBounds d v
 |none=>tmps
theorem lR {ops:Array Oper}{i:Nat}{is:List Nat}{o:Oper}(ho:ops[i]?=some o)(v:Value):
  (stF b tmps ds (.inRegion ops (i::is)::k)).finish v=stF b (qy o.dst tmps v) ds (.inRegion ops is::k):=by
 simp only[Frame.finish,stF,ho,Option.bind_some,qy];cases o.dst<;>rfl
theorem AP {ops:Array Oper}{i:Nat}{is:List Nat}{o:Oper}(ho:ops[i]?=some o)(hw:Region.wanted o (yielded ops tmps)=false):
  step P (lone (stF b tmps ds (.inRegion ops (i::is)::k)) cs w)=.next (lone (stF b (qy o.dst tmps undef) ds (.inRegion ops is::k)) cs w):=by
 refine step_lone_go ?_;have:=lR (b:=b) (tmps:=tmps) (ds:=ds) (k:=k) (is:=is) ho undef;rw[<-this];simp[stepG,stepG.exec,stF,ho,hw]
section wanted
variable {ops:Array Oper}{i:Nat}{is:List Nat}{o:Oper}
theorem oL (ho:ops[i]?=some o)(hw:Region.wanted o (yielded ops tmps)=true)(hd:(∀c,o.op≠.defer c)∨b.roundOf=none):
  stepG P true {frame:=stF b tmps ds (.inRegion ops (i::is)::k),callers:=cs,status:=.running,dying:=none} w =
   stepG.apply P true (stF b tmps ds (.inRegion ops (i::is)::k)) cs none (execOp (gt tmps) o) w:=by
 have e:=vf b tmps ds (.inRegion ops (i::is)::k);simp only[stF]at e;simp only[stepG,stepG.exec,stF,ho,Option.map_some,Option.getD_some,hw,if_true,stepG.oper,Frame.oper?];split
 ·rename_i l c h1 h2;rcases hd with hd|hd
  ·exact absurd h2 (hd c)
  ·rw[hd]at h1;cases h1
 ·rw[e]
theorem BY (ho:ops[i]?=some o)(hw:Region.wanted o (yielded ops tmps)=true)(hd:(∀c,o.op≠.defer c)∨b.roundOf=none){u:Value}{w':World}
  (hr:(execOp (gt tmps) o).run P w=.ok (.value u) w'∨((execOp (gt tmps) o).run P w=.ok .skip w'/\u=undef)) :
  step P (lone (stF b tmps ds (.inRegion ops (i::is)::k)) cs w)=.next (lone (stF b (qy o.dst tmps u) ds (.inRegion ops is::k)) cs w'):=by
 refine step_lone_go ?_;rw[oL ho hw hd,<-lR ho u];rcases hr with hr|⟨hr,rfl⟩<;>simp[stepG.apply,hr]
theorem Na (ho:ops[i]?=some o)(hw:Region.wanted o (yielded ops tmps)=true)(hd:(∀c,o.op≠.defer c)∨b.roundOf=none){u:Value}{w':World}
  (hr:(execOp (gt tmps) o).run P w=.halt (.panic u) w') :
  step P (lone (stF b tmps ds (.inRegion ops (i::is)::k)) cs w)=.next (lone {stF b tmps ds (.inRegion ops (i::is)::k) with mode:=.panicking [ent u false]} cs w'):=by
 refine step_lone_go ?_;rw[oL ho hw hd];simp[stepG.apply,hr,Frame.raise,stF,ent]
theorem Nc (ho:ops[i]?=some o)(hw:Region.wanted o (yielded ops tmps)=true)(hd:(∀c,o.op≠.defer c)∨b.roundOf=none){f:FuncId}{args:Array Value}{w':World}
  (hr:(execOp (gt tmps) o).run P w=.ok (.enter f args) w') :
  step P (lone (stF b tmps ds (.inRegion ops (i::is)::k)) cs w)=.next (lone (Frame.enter P f args .normal) (stF b tmps ds (.inRegion ops (i::is)::k)::cs) w'):=by
 refine step_lone_go ?_;rw[oL ho hw hd];simp[stepG.apply,hr,stF]
theorem MY (ho:ops[i]?=some o)(hw:Region.wanted o (yielded ops tmps)=true)(hd:(∀c,o.op≠.defer c)∨b.roundOf=none){l:Nat}{f:FuncId}{ts:Array Value}{x y:Code}{w':World}
  (hr:(execOp (gt tmps) o).run P w=.ok (.round l f ts x y) w') :
  step P (lone (stF b tmps ds (.inRegion ops (i::is)::k)) cs w)=.next (lone (Frame.round l f ts x y .normal) (stF b tmps ds (.inRegion ops (i::is)::k)::cs) w'):=by
 refine step_lone_go ?_;rw[oL ho hw hd];simp[stepG.apply,hr]
theorem Nd (ho:ops[i]?=some o)(hw:Region.wanted o (yielded ops tmps)=true)(hd:b.roundOf=none){d:Deferred}{w':World}
  (hr:(execOp (gt tmps) o).run P w=.ok (.defer d) w') :
  step P (lone (stF b tmps ds (.inRegion ops (i::is)::k)) cs w)=.next (lone (stF b (qy o.dst tmps undef) (d::ds) (.inRegion ops is::k)) cs w'):=by
 refine step_lone_go ?_;rw[oL ho hw (.inr hd),<-lR ho undef];simp[stepG.apply,hr,stF]
theorem oZ (ho:ops[i]?=some o)(hw:Region.wanted o (yielded ops tmps)=true)(hd:b.roundOf=none){w':World}{u:Value}{cs':List Frame}
  (hr:(execOp (gt tmps) o).run P w=.ok .recover w') (ht:(tryRecover (stF b tmps ds (.inRegion ops (i::is)::k)) cs=some (u,cs'))∨(tryRecover (stF b tmps ds (.inRegion ops (i::is)::k)) cs=none/\u=.nilIface/\cs'=cs)) :
  step P (lone (stF b tmps ds (.inRegion ops (i::is)::k)) cs w)=.next (lone (stF b (qy o.dst tmps u) ds (.inRegion ops is::k)) cs' w'):=by
 refine step_lone_go ?_;rw[oL ho hw (.inr hd),<-lR ho u];have hro:(stF b tmps ds (.inRegion ops (i::is)::k)).roundOf=none:=hd;rcases ht with ht|⟨ht,rfl,rfl⟩<;>simp[stepG.apply,hr,hro,ht]
end wanted
end steps
def qA:OpR->Bool
 |.val _ _=>true
 |.bad=>true
 |_=>false
theorem gJ (r:Option AV)(h:AH):qA (okV r h)=true:=by cases r<;>rfl
theorem GQ (r:Option AH):qA (okH r)=true:=by cases r<;>rfl
theorem uN (r:Option (AV×AH)):qA (pJ r)=true:=by cases r<;>rfl
theorem zm {l:List AV}{k:AV->OpR}(h:∀x,qA (k x)=true):qA (Fw l OpR.bad k)=true:=by
 cases l with
 |nil=>rfl
 |cons x l=>cases l with
  |nil=>exact h x
  |cons y l=>rfl
theorem Iv {l:List AV}{k:AV->AV->OpR}(h:∀x y,qA (k x y)=true):qA (Uu l OpR.bad k)=true:=by
 cases l with
 |nil=>rfl
 |cons x l=>exact zm (h x)
def AOp.odd:AOp->Bool
 |.call _ _|.defer _ _|.panic _|.builtin .recover _=>true
 |_=>false
theorem rR {aop:AOp}(tm:Tm)(h:AH)(ho:aop.odd=false):qA (evOp aop tm h)=true:=by
 cases aop with
 |mv x=>rfl
 |pick c a b=>show qA (nv (ev c tm) h (ev a tm) (ev b tm))=true;cases ev c tm<;>rfl
 |new z=>rfl
 |box n x=>show qA (gU h n (ev x tm))=true;unfold gU;cases and _ _<;>rfl
 |build z ps=>show qA (cP h z _)=true;unfold cP;cases fillA _ _<;>rfl
 |lit f a s z n ps=>
  show qA (iS f a s z n _ h)=true;unfold iS;cases fillA _ _ with
  |none=>rfl
  |some cs=>cases f with
   |false=>rfl
   |true=>show qA (Option.casesOn (chunk a s n cs) _ _)=true;cases chunk a s n cs<;>rfl
 |load a s x=>exact gJ _ _
 |store s a x=>exact GQ _
 |nilChk x=>show qA (iN (ev x tm) h)=true;cases ev x tm<;>rfl
 |bin op e x y=>exact gJ _ _
 |un op x=>exact gJ _ _
 |convInt k x=>exact gJ _ _
 |convId x=>exact gJ _ _
 |mkIface t x=>rfl
 |mkFn f a b=>rfl
 |mkMap=>rfl
 |mkSlice a s b z l c=>exact uN _
 |slice str s x lo hi mx=>show qA (cond str _ _)=true;cases str;exact uN _;exact gJ _ _
 |faddr o s a x=>show qA (eM (ev x tm) h o s a)=true;cases ev x tm<;>first|rfl|exact gJ _ _
 |field o s a x=>exact gJ _ _
 |iaddr s x i=>show qA (cz (ev x tm) h s (ev i tm))=true;cases ev x tm<;>first|rfl|exact gJ _ _
 |iaddrA n s a x i=>
  show qA (Option.casesOn (asIdx (ev i tm) n) .bad fun n=>gi (ev x tm) h n s a)=true;cases asIdx (ev i tm) n with
  |none=>rfl
  |some n=>show qA (gi (ev x tm) h n s a)=true;cases ev x tm<;>first|rfl|exact gJ _ _
 |strIdx x i=>exact gJ _ _
 |arrIdx n s a x i=>exact gJ _ _
 |lookup t z x i ok=>exact gJ _ _
 |mapUp t m k v=>exact GQ _
 |assert t z x ok=>exact gJ _ _
 |extract x i=>exact gJ _ _
 |builtin b args=>
  cases b with
  |len k=>exact zm fun _=>gJ _ _
  |append a b c d=>exact Iv fun _ _=>uN _
  |copy a b=>exact Iv fun _ _=>uN _
  |clear a b=>exact zm fun _=>GQ _
  |max=>exact gJ _ _
  |min=>exact gJ _ _
  |recover=>cases ho
 |call f l=>cases ho
 |defer f l=>cases ho
 |panic x=>cases ho
theorem Lf {aop:AOp}{tm:Tm}{h:AH}{f:AV}{as:List AV}(e:evOp aop tm h=.call f as):∃x xs,aop=.call x xs/\f=ev x tm/\as=evs xs tm:=by
 cases ho:aop.odd with
 |false=>have:=rR tm h ho;rw[e]at this;cases this
 |true=>
  cases aop<;>first|(cases ho;done)|skip
  case call x xs=>cases e;exact⟨_,_,rfl,rfl,rfl⟩
  case defer x xs=>cases e
  case panic x=>have e:jC (ev x tm)=_:=e;cases hx:ev x tm<;>rw[hx]at e<;>cases e
  case builtin b xs=>cases b<;>first|(cases ho;done)|cases e
theorem OD {aop:AOp}{tm:Tm}{h:AH}{f:AV}{as:List AV}(e:evOp aop tm h=.dfr f as):∃x xs,aop=.defer x xs/\f=ev x tm/\as=evs xs tm:=by
 cases ho:aop.odd with
 |false=>have:=rR tm h ho;rw[e]at this;cases this
 |true=>
  cases aop<;>first|(cases ho;done)|skip
  case call x xs=>cases e
  case defer x xs=>cases e;exact⟨_,_,rfl,rfl,rfl⟩
  case panic x=>have e:jC (ev x tm)=_:=e;cases hx:ev x tm<;>rw[hx]at e<;>cases e
  case builtin b xs=>cases b<;>first|(cases ho;done)|cases e
theorem OB {aop:AOp}{tm:Tm}{h:AH}(e:evOp aop tm h=.rcv):∃xs,aop=.builtin .recover xs:=by
 cases ho:aop.odd with
 |false=>have:=rR tm h ho;rw[e]at this;cases this
 |true=>
  cases aop<;>first|(cases ho;done)|skip
  case call x xs=>cases e
  case defer x xs=>cases e
  case panic x=>have e:jC (ev x tm)=_:=e;cases hx:ev x tm<;>rw[hx]at e<;>cases e
  case builtin b xs=>cases b<;>first|(cases ho;done)|exact⟨_,rfl⟩
theorem OC {aop:AOp}{tm:Tm}{h:AH}{v:AV}(e:evOp aop tm h=.pan v):∃x t y,aop=.panic x/\ev x tm=.ifc t y/\v=.ifc t y:=by
 cases ho:aop.odd with
 |false=>have:=rR tm h ho;rw[e]at this;cases this
 |true=>
  cases aop<;>first|(cases ho;done)|skip
  case call x xs=>cases e
  case defer x xs=>cases e
  case panic x=>
   have e:jC (ev x tm)=_:=e;cases hx:ev x tm<;>rw[hx]at e<;>first|(cases e;done)|skip
   cases e;exact⟨x,_,_,rfl,hx,rfl⟩
  case builtin b xs=>cases b<;>first|(cases ho;done)|cases e
def Okd {α:Type}(p:α->Prop)(o:Option α):Prop:=∀a,o=some a->p a
theorem Okd.bind {α β:Type}{p:β->Prop}{o:Option α}{k:α->Option β}(h:∀a,Okd p (k a)):Okd p (aq o k):=fun b e=>by
 obtain⟨a,_,e⟩:=ah e;exact h a b e
theorem Okd.cond {α:Type}{p:α->Prop}{c:Bool}{x:Option α}(h:Okd p x):Okd p (bif c then x else none):=fun b e=>h b (aH e).2
theorem Okd.cond' {α:Type}{p:α->Prop}{c:Bool}{x:Option α}(h:Okd p x):Okd p (bif c then none else x):=fun b e=>h b (fZ e).2
theorem Okd.some {α:Type}{p:α->Prop}{a:α}(h:p a):Okd p (some a):=fun b e=>by cases e;exact h
theorem Okd.none {α:Type}{p:α->Prop}: Okd p (none:Option α):=fun b e=>by cases e
def AOp.kd:AOp->Nat
 |.call _ _=>1
 |.defer _ _=>2
 |.panic _=>3
 |.builtin .recover _=>4
 |_=>0
def _root_.Go.Op.kd:Op->Nat
 |.call c=>match c.callee with
  |.value _=>1
  |.builtin .recover=>4
  |_=>0
 |.defer _=>2
 |.panic _=>3
 |_=>0
theorem tl (b:Builtin)(T:Tr TypeInfo)(tys:Array TypeId)(l:List AX):Okd (fun a=>a.kd=match b with|.recover=>4|_=>0) (ru b T tys l):=by
 cases b<;>first
  |exact .none
  |exact .some rfl
  |(refine Okd.bind fun _=>?_;refine Okd.bind fun _=>?_;refine Okd.bind fun _=>?_;exact .some rfl)
  |(refine Okd.bind fun _=>?_;refine Okd.bind fun _=>?_;refine Okd.bind fun _=>?_;refine Okd.bind fun _=>?_;refine Okd.bind fun _=>?_;refine Okd.cond ?_;exact .some rfl)
  |(refine Okd.bind fun _=>?_;refine Okd.bind fun _=>?_;refine Okd.bind fun _=>?_;refine Okd.cond ?_;exact .some rfl)
theorem wR (op:Op)(P:Program)(T:Tr TypeInfo)(keep:TypeId->Bool):Okd (fun a=>a.kd=op.kd) (cOp op P T keep):=by
 cases op with
 |move x=>exact Okd.bind fun _=>.some rfl
 |assign x=>exact Okd.bind fun _=>.some rfl
 |pick a b c=>exact Okd.bind fun _=>.bind fun _=>.bind fun _=>.some rfl
 |alloc t=>exact Okd.bind fun _=>.some rfl
 |box t x=>exact Okd.bind fun _=>.bind fun _=>.some rfl
 |build t ps=>
  refine Okd.bind fun _=>.bind fun d=>?_
  cases d<;>first|exact .none|exact Okd.bind fun _=>.bind fun _=>.some rfl
 |buildSlice t n ps=>exact Okd.bind fun _=>.bind fun _=>.bind fun _=>.bind fun _=>.cond (.some rfl)
 |load t x=>exact Okd.bind fun _=>.bind fun _=>.cond (.some rfl)
 |store t a x=>exact Okd.bind fun _=>.bind fun _=>.bind fun _=>.some rfl
 |nilCheck x=>exact Okd.bind fun _=>.some rfl
 |binOp op t x y t'=>exact Okd.bind fun _=>.bind fun _=>.bind fun _=>.some rfl
 |unOp op t x=>exact Okd.bind fun _=>.some rfl
 |convert t t' x=>
  refine Okd.bind fun d=>.bind fun d'=>.bind fun _=>?_
  cases d with
  |int k=>exact Okd.bind fun _=>.some rfl
  |string=>cases d'<;>first|exact .none|exact .some rfl
  |_=>exact .none
 |makeInterface t x=>exact Okd.bind fun _=>.cond' (.bind fun _=>.some rfl)
 |makeFunc f a b=>cases f<;>first|exact .none|exact Okd.bind fun _=>.bind fun _=>.some rfl
 |makeMap t r=>cases r with
  |none=>exact .some rfl
  |some r=>exact .none
 |makeSlice t l c=>exact Okd.bind fun _=>.bind fun _=>.bind fun _=>.bind fun _=>.bind fun _=>.bind fun _=>.cond (.some rfl)
 |slice t x lo hi mx=>
  refine Okd.bind fun _=>.bind fun _=>.bind fun _=>.bind fun mx=>.bind fun d=>?_
  cases d with
  |slice e=>exact Okd.bind fun _=>.cond (.some rfl)
  |string=>cases mx with
   |none=>exact .some rfl
   |some m=>exact .none
  |_=>exact .none
 |fieldAddr t x f=>exact Okd.bind fun _=>.bind fun _=>.some rfl
 |field t x f=>exact Okd.bind fun _=>.bind fun _=>.some rfl
 |indexAddr t x i=>
  refine Okd.bind fun _=>.bind fun _=>.bind fun d=>?_
  cases d<;>first|exact .none|exact Okd.bind fun _=>.some rfl
 |index t x i=>
  refine Okd.bind fun _=>.bind fun _=>.bind fun d=>?_
  cases d<;>first|exact .none|exact .some rfl|exact Okd.bind fun _=>.some rfl
 |lookup t x i ok=>exact Okd.bind fun _=>.bind fun _=>.bind fun _=>.bind fun _=>.some rfl
 |mapUpdate t m k v=>exact Okd.bind fun _=>.bind fun _=>.bind fun _=>.bind fun _=>.some rfl
 |typeAssert x t t' ok=>exact Okd.bind fun _=>.cond' (.bind fun _=>.bind fun _=>.some rfl)
 |extract x i=>exact Okd.bind fun _=>.some rfl
 |call c=>
  refine Okd.bind fun l=>?_
  obtain⟨cc,args,tys⟩:=c;cases cc with
  |value f=>exact Okd.bind fun _=>.some rfl
  |invoke a b=>exact .none
  |builtin b=>
   intro a e;have:=tl b T tys l a e;rw[this];cases b<;>rfl
 |defer c=>
  refine Okd.bind fun l=>?_
  obtain⟨cc,args,tys⟩:=c;cases cc with
  |value f=>exact Okd.bind fun _=>.some rfl
  |_=>exact .none
 |panic x=>exact Okd.bind fun _=>.some rfl
 |_=>exact .none
section
variable {op:Op}{P:Program}{T:Tr TypeInfo}{keep:TypeId->Bool}{x:AX}{xs:List AX}
theorem OU (hc:cOp op P T keep=some (.call x xs)):∃c f,op=.call c/\c.callee=.value f/\cX f=some x/\cXs c.args=some xs:=by
 have hk:1=op.kd:=wR op P T keep _ hc;cases op with
 |call c=>
  obtain⟨args,h1,hc⟩:=ah (show aq (cXs c.args) _=_ from hc);cases hcc:c.callee with
  |value f=>
   rw[hcc]at hc;obtain⟨af,h2,hc⟩:=ah (show aq (cX f) _=_ from hc);cases hc;exact⟨c,f,rfl,hcc,h2,h1⟩
  |invoke a b=>rw[hcc]at hc;cases hc
  |builtin b=>
   rw[hcc]at hc;have:=tl b T c.argTypes args _ hc;cases b<;>cases this
 |_=>cases hk
theorem LA (hc:cOp op P T keep=some (.defer x xs)):∃c f,op=.defer c/\c.callee=.value f/\cX f=some x/\cXs c.args=some xs:=by
 have hk:2=op.kd:=wR op P T keep _ hc;cases op with
 |call c=>exfalso;revert hk;simp only[Op.kd];split<;>simp
 |defer c=>
  obtain⟨args,h1,hc⟩:=ah (show aq (cXs c.args) _=_ from hc);cases hcc:c.callee with
  |value f=>
   rw[hcc]at hc;obtain⟨af,h2,hc⟩:=ah (show aq (cX f) _=_ from hc);cases hc;exact⟨c,f,rfl,hcc,h2,h1⟩
  |invoke a b=>rw[hcc]at hc;cases hc
  |builtin b=>rw[hcc]at hc;cases hc
 |_=>cases hk
theorem Lz (hc:cOp op P T keep=some (.panic x)):∃y,op=.panic y/\cX y=some x:=by
 have hk:3=op.kd:=wR op P T keep _ hc;cases op with
 |call c=>exfalso;revert hk;simp only[Op.kd];split<;>simp
 |panic y=>
  obtain⟨ax,h1,hc⟩:=ah (show aq (cX y) _=_ from hc);cases hc;exact⟨y,rfl,h1⟩
 |_=>cases hk
theorem BD (hc:cOp op P T keep=some (.builtin .recover xs)):∃c,op=.call c/\c.callee=.builtin .recover:=by
 have hk:4=op.kd:=wR op P T keep _ hc;cases op with
 |call c=>
  refine⟨c,rfl,?_⟩;revert hk;simp only[Op.kd];split
  ·simp
  ·intro _;assumption
  ·simp
 |_=>cases hk
theorem Ou {aop:AOp}(hc:cOp op P T keep=some aop)(h:aop.kd≠2)(c:Call):op≠.defer c:=by
 rintro rfl;exact h (wR _ P T keep _ hc)
end
def Ur (P:Program)(d:Deferred)(kind:CallKind)(w:World)(fr:Frame):Prop:=
 (∃f as,(invoke d.target d.args).run P w=.ok (.enter f as) w/\fr=Frame.enter P f as kind)∨
 (kind=.normal/\∃l f ts x y,(invoke d.target d.args).run P w=.ok (.round l f ts x y) w/\fr=Frame.round l f ts x y kind)
def yE (P:Program)(K:KK)(kind:CallKind)(rc:RC)(m:Machine)(g:Gh)(w:World):bI->Prop
 |.ret v=>∃u,bu g v u/\Steps P m (lone (wa K u rc) K.rest w)
 |.pan v=>∃pv,bu g v pv/\(kind=.normal->Steps P m (lone (K.c0.raise [ent pv false]) K.rest w))
def bM (C:Cx)(call:aG):Prop:=
 ∀f args rc h out rc' h',call f args rc h=some (out,rc',h')->∀g U w fv us K kind,Sim C g U h w->bu g f fv->aR g args us->tR g K kind rc->K.cs=K.c0::K.rest->
  ∃d fr0,(∀w,(Deferred.ofValue fv ⟨us⟩).run C.P w=.ok d w)/\Ur C.P d kind w fr0/\∃g' U' w',Ext g g'/\nO h.z U U'/\Sim C g' U' h' w'/\Low h h'/\tR g' K kind rc'/\
   yE C.P K kind rc' (lone fr0 (eX K rc) w) g' w' out
section
variable {C:Cx}{b:Frame}{K:KK}{nt:Nat}{k:List Item}{m m1:Machine}{g g1:Gh}{U U1:Nat->Option (List AV)}{h h1 h':AH}{e:AEx}{fr fr':AF}{w:World}{tmps:Array Value}{ds:List Deferred}
theorem uP (tm:Tm)(d:Nat)(v:AV)(i:Nat):nth (tm.put d v) i=if i=d then v else nth tm i:=by
 unfold nth;rw[Tr.get_put];split<;>rfl
theorem eQ.put {tm:Tm}{d:Option Nat}{v:AV}{u:Value}(ht:eQ g tm tmps)(hd:Mx d nt=true)(hn:nt<=tmps.size)(hv:bu g v u):eQ g (fC d tm v) (qy d tmps u):=by
 cases d with
 |none=>exact ht
 |some d=>
  have hd:d<tmps.size:=Nat.lt_of_lt_of_le (jL hd) hn;intro i;show bu g (nth (tm.put d v) i) ((tmps.setIfInBounds d u).getD i undef);rw[uP];by_cases hi:i=d
  ·subst hi;simp[hd,hv]
  ·have hi':¬d=i:=fun q=>hi q.symm
   have e:(tmps.setIfInBounds d u).getD i undef=tmps.getD i undef:=by simp[Array.getD_eq_getD_getElem?,hi']
   rw[e];simp only[hi,if_false];exact ht i
theorem sm (d:Option Tmp)(tmps:Array Value)(u:Value):(qy d tmps u).size=tmps.size:=by
 cases d<;>simp[qy]
theorem kE (fr:AF)(d:Option Nat)(v:AV):(fr.put d v).cx=fr.cx:=by cases fr;rfl
theorem wF (fr:AF)(d:Option Nat)(v:AV):(fr.put d v).tm=fC d fr.tm v:=by cases fr;rfl
theorem FR.put {d:Option Nat}{v:AV}{u:Value}(f:FR g b K nt fr tmps ds)(hd:Mx d nt=true)(hv:bu g v u):FR g b K nt (fr.put d v) (qy d tmps u) ds:=by
 refine⟨?_,?_,?_,?_,?_,?_⟩
 ·rw[wF];exact f.ht.put hd f.hn hv
 ·rw[kE];exact f.hd
 ·rw[kE];exact f.hr
 ·rw[sm];exact f.hn
 ·rw[kE];exact f.hf
 ·rw[kE];exact f.ho
structure Fu (C:Cx)(nt:Nat)(ops:List Oper)(o:Oper)(ao:aX):Prop where
 hop:cOp o.op C.P C.T C.kw=some ao.op
 hdst:ao.dst=o.dst
 hok:Mx o.dst nt=true
 hg:(o.guard=none/\ao.guard=none)∨∃j w oj t,o.guard=some (j,w)/\ops[j]?=some oj/\oj.dst=some t/\ao.guard=some (t,w)
theorem yg {ops:List Oper}{o:Oper}{ao:aX}(hc:BC C.P C.T C.kw nt ops o=some ao):Fu C nt ops o ao:=by
 obtain⟨op,h1,hc⟩:=ah (show aq (cOp o.op C.P C.T C.kw) _=_ from hc);obtain⟨h2,hc⟩:=aH hc;cases hg:o.guard with
 |none=>rw[hg]at hc;cases hc;exact⟨h1,rfl,h2,.inl ⟨hg,rfl⟩⟩
 |some p=>
  obtain⟨j,w⟩:=p;rw[hg]at hc;obtain⟨oj,h3,hc⟩:=ah (show aq ops[j]? _=_ from hc);obtain⟨t,h4,hc⟩:=ah hc;cases hc;exact⟨h1,rfl,h2,.inr ⟨j,w,oj,t,hg,h3,h4,rfl⟩⟩
theorem MQ {ops:Array Oper}{o:Oper}{ao:aX}{x:Bool}(c:Fu C nt ops.toList o ao){tm:Tm}(ht:eQ g tm tmps)(e:wants ao.guard tm=some x):Region.wanted o (yielded ops tmps)=x:=by
 rcases c.hg with⟨h1,h2⟩|⟨j,w,oj,t,h1,h2,h3,h4⟩
 ·rw[h2]at e;cases e;simp[Region.wanted,h1]
 ·rw[h4]at e;have e:wantV (nth tm t) w=some x:=e;have h2:ops[j]?=some oj:=by simpa using h2
  simp only[Region.wanted,h1,yielded,h2,Option.bind_some,h3];have hv:=ht t;cases hn:nth tm t<;>rw[hn]at e hv<;>first|(cases e;done)|skip
  case bool c=>
   cases e;have hv:=hv.bool_inv;have ht:tmps[t]?=some (.bool c):=by
    rw[Array.getD_eq_getD_getElem?]at hv;cases hq:tmps[t]? with
    |none=>rw[hq]at hv;cases hv
    |some y=>rw[hq]at hv;simp at hv;rw[hv]
   rw[ht,xt];rfl
  case tup l=>
   obtain⟨hl,e⟩:=aH (show cond (Zn l) (some false) none=some x from e);cases e;cases l with
   |cons a l=>cases hl
   |nil=>
    obtain⟨us,hu,hv⟩:=hv.tup_inv;cases hu;rw[Array.getD_eq_getD_getElem?]at hv;cases hq:tmps[t]? with
    |none=>rfl
    |some y=>rw[hq]at hv;simp at hv;rw[hv];rfl
theorem Np {o:Oper}{c:Call}{f:Operand}{d:Deferred}(ho:o.op=.call c)(hc:c.callee=.value f)(hd:(Deferred.ofValue (gt tmps f) (c.args.map (gt tmps))).run C.P w=.ok d w):
  (execOp (gt tmps) o).run C.P w=(invoke d.target d.args).run C.P w:=by
 simp[execOp,ho,resolve,hc,hd]
theorem JX {o:Oper}{c:Call}{f:Operand}{d:Deferred}(ho:o.op=.defer c)(hc:c.callee=.value f)(hd:(Deferred.ofValue (gt tmps f) (c.args.map (gt tmps))).run C.P w=.ok d w):
  (execOp (gt tmps) o).run C.P w=.ok (.defer d) w:=by
 simp[execOp,ho,resolve,hc,hd]
theorem Bd {o:Oper}{c:Call}(ho:o.op=.call c)(hc:c.callee=.builtin .recover):(execOp (gt tmps) o).run C.P w=.ok .recover w:=by
 simp[execOp,ho,resolve,hc,invoke,builtin]
theorem JW {o:Oper}{x:Operand}{t:TypeId}{u:Value}(ho:o.op=.panic x)(hx:gt tmps x=.iface t u):(execOp (gt tmps) o).run C.P w=.halt (.panic (.iface t u)) w:=by
 simp[execOp,ho,Instr.panic,hx]
theorem Ef {ops:Array Oper}{i:Nat}{is:List Nat}{o:Oper}(ho:ops[i]?=some o)(u:Value)(rest cs:List Frame)(pv:Value):
  wa ⟨stF b tmps ds (.inRegion ops (i::is)::k),rest,pv,cs⟩ u .no=stF b (qy o.dst tmps u) ds (.inRegion ops is::k):=lR ho u
theorem lM {g:Gh}{K:KK}{rc:RC}(h:tR g K .normal rc):rc=.no:=by
 cases rc with
 |no=>rfl
 |ret=>cases h
 |pend v=>cases h.1
 |done=>cases h
theorem mw {f:AV}{fv:Value}{us:List Value}(hv:bu g f fv){x y:List Value}{n:FuncId}(h:fv=.func (.func n) ⟨x⟩ ⟨y⟩)(w:World):
  (Deferred.ofValue fv ⟨us⟩).run C.P w=.ok {target:=.fn (.func n) ⟨y⟩,args:=⟨x++us⟩} w:=by
 subst h;simp[Deferred.ofValue]
theorem qO {call:aG}(hcall:bM C call){ops:Array Oper}{i:Nat}{is:List Nat}{o:Oper}{ao:aX}(ho:ops[i]?=some o)(c:Fu C nt ops.toList o ao)
  {e':AEx} (e:fA ao call fr h=some (e',fr',h')) (s:Sim C g U h w) (f:FR g b K nt fr tmps ds) :
  gE C b K nt (.inRegion ops is::k) (lone (stF b tmps ds (.inRegion ops (i::is)::k)) (eX K fr.cx.rc) w) g U h e' fr' h'/\(e'=.normal∨∃v,e'=.panic v):=by
 obtain⟨x,hw,e⟩:=ah (show aq (wants ao.guard fr.tm) _=_ from e);have hwant:=MQ c f.ht hw;cases x with
 |false=>
  cases e;refine⟨⟨g,U,w,qy o.dst tmps undef,ds,.refl g,.refl _ U,s,.refl _,?_,?_⟩,.inl rfl⟩
  ·rw[c.hdst];exact f.put c.hok (.tup .nil)
  ·rw[c.hdst];show Steps _ _ _;rw[kE];exact .one (AP ho hwant)
 |true=>
  have e:kF (evOp ao.op fr.tm h) call ao.dst fr h=some (e',fr',h'):=e;cases hr:evOp ao.op fr.tm h with
  |bad=>rw[hr]at e;cases e
  |val v h1=>
   rw[hr]at e;cases e;obtain⟨g',w',u,hrun,hx,hs,hv,hl⟩:=adr s f.ht c.hop hr;have hnd:∀cc,o.op≠.defer cc:=fun cc=>Ou c.hop (fun q=>by
    cases hq:ao.op<;>rw[hq]at q hr<;>first|(cases q;done)|(cases hr;done)|skip
    next bb _=>cases bb<;>cases q) cc
   refine⟨⟨g',U,w',qy o.dst tmps u,ds,hx,.refl _ U,hs,hl,?_,?_⟩,.inl rfl⟩
   ·rw[c.hdst];exact(f.mono hx).put c.hok hv
   ·show Steps _ _ _;rw[kE];exact .one (BY ho hwant (.inl hnd) hrun)
  |call fv args=>
   rw[hr]at e;obtain⟨ax,axs,hop,rfl,rfl⟩:=Lf hr;have hcop:=c.hop;rw[hop]at hcop;obtain⟨cc,fo,ho2,hcal,hf,ha⟩:=OU hcop;obtain⟨⟨out,rc',h1⟩,hq,e⟩:=ah (show aq (call _ _ .no h) _=_ from e);have hvf:=bN f.ht hf;have hva:=mV f.ht ha;obtain⟨d,fr0,hd,hent,g',U',w',hx,hu,hs,hl,hrc,hland⟩:=
    hcall _ _ _ _ _ _ _ hq g U w _ _ ⟨stF b tmps ds (.inRegion ops (i::is)::k),eX K fr.cx.rc,.nilIface,stF b tmps ds (.inRegion ops (i::is)::k)::eX K fr.cx.rc⟩ .normal s hvf hva rfl rfl
   have hrc':=lM hrc;subst hrc';have hargs:cc.args.map (gt tmps)=⟨cc.args.toList.map (gt tmps)⟩:=by
    apply Array.ext';simp
   have hnd:∀c2,o.op≠.defer c2:=fun c2 q=>by rw[ho2]at q;cases q
   have hrun:(execOp (gt tmps) o).run C.P w=(invoke d.target d.args).run C.P w:=Np ho2 hcal (by rw[hargs];exact hd w);have h0:Steps C.P (lone (stF b tmps ds (.inRegion ops (i::is)::k)) (eX K fr.cx.rc) w) (lone fr0 (stF b tmps ds (.inRegion ops (i::is)::k)::eX K fr.cx.rc) w):=by
    rcases hent with⟨ff,as,h1,rfl⟩|⟨_,l,ff,ts,xx,yy,h1,rfl⟩
    ·exact .one (Nc ho hwant (.inl hnd) (hrun.trans h1))
    ·exact .one (MY ho hwant (.inl hnd) (hrun.trans h1))
   cases out with
   |ret v=>
    cases e;obtain⟨u,hv,hst⟩:=hland;refine⟨⟨g',U',w',qy o.dst tmps u,ds,hx,hu,hs,hl,?_,?_⟩,.inl rfl⟩
    ·rw[c.hdst];exact(f.mono hx).put c.hok hv
    ·show Steps _ _ _;rw[kE];rw[Ef ho]at hst;exact h0.trans hst
   |pan v=>
    cases e;obtain⟨pv,hv,hst⟩:=hland;refine⟨⟨g',U',w',tmps,ds,hx,hu,hs,hl,f.mono hx,?_⟩,.inr ⟨_,rfl⟩⟩;exact⟨.inRegion ops (i::is)::k,pv,trivial,hv,h0.trans (hst rfl)⟩
  |rcv=>
   rw[hr]at e;obtain⟨axs,hop⟩:=OB hr;have hcop:=c.hop;rw[hop]at hcop;obtain⟨cc,ho2,hcal⟩:=BD hcop;have hrun:(execOp (gt tmps) o).run C.P w=.ok .recover w:=Bd ho2 hcal;have e:Option.casesOn fr.cx.rnd (VC fr.cx.rc ao.dst fr h) (fun _=>none)=some (e',fr',h'):=e;have hro:=f.ho;cases hrn:fr.cx.rnd with
   |some l=>rw[hrn]at e;cases e
   |none=>
    rw[hrn]at e hro;have hbn:b.roundOf=none:=by cases hbr:b.roundOf with
     |none=>rfl
     |some y=>rw[hbr]at hro;cases hro
    have e:VC fr.cx.rc ao.dst fr h=some (e',fr',h'):=e;have hrc:=f.hr;cases hr2:fr.cx.rc with
    |no=>rw[hr2]at e;cases e
    |ret=>
     rw[hr2]at e hrc;cases e;refine⟨⟨g,U,w,qy o.dst tmps .nilIface,ds,.refl g,.refl _ U,s,.refl _,?_,?_⟩,.inl rfl⟩
     ·rw[c.hdst];exact f.put c.hok .nili
     ·show Steps _ _ _;rw[kE,hr2];have hkd:b.kind=.deferred:=hrc;refine .one (oZ ho hwant hbn hrun (.inr ⟨?_,rfl,rfl⟩));simp[tryRecover,stF,hkd,eX]
    |done=>
     rw[hr2]at e hrc;cases e;refine⟨⟨g,U,w,qy o.dst tmps .nilIface,ds,.refl g,.refl _ U,s,.refl _,?_,?_⟩,.inl rfl⟩
     ·rw[c.hdst];exact f.put c.hok .nili
     ·show Steps _ _ _;rw[kE,hr2];have hkd:b.kind=.deferred:=hrc;refine .one (oZ ho hwant hbn hrun (.inr ⟨?_,rfl,rfl⟩));simp[tryRecover,stF,hkd,eX,ent]
    |pend v=>
     rw[hr2]at e hrc;cases e;obtain⟨hkd,hpv⟩:=hrc;refine⟨⟨g,U,w,qy o.dst tmps K.pv,ds,.refl g,.refl _ U,s,.refl _,?_,?_⟩,.inl rfl⟩
     ·refine⟨?_,f.hd,hkd,?_,f.hf,f.ho⟩
      ·rw[c.hdst];exact f.ht.put c.hok f.hn hpv
      ·rw[sm];exact f.hn
     ·show Steps _ _ _;refine .one (oZ ho hwant hbn hrun (.inl ?_));simp[tryRecover,stF,hkd,eX,ent]
  |dfr fv args=>
   rw[hr]at e;obtain⟨ax,axs,hop,rfl,rfl⟩:=OD hr;have hcop:=c.hop;rw[hop]at hcop;obtain⟨cc,fo,ho2,hcal,hf,ha⟩:=LA hcop;have hvf:=bN f.ht hf;have hva:=mV f.ht ha;have e:Option.casesOn fr.cx.rnd (cond (acy (ev ax fr.tm)) (some (AEx.normal,(⟨fC ao.dst fr.tm (.tup []),⟨.call (ev ax fr.tm) (evs axs fr.tm)::fr.cx.dfs,fr.cx.rc,fr.cx.rnd,fr.cx.fid⟩⟩:AF),h)) none) (fun _=>none)=some (e',fr',h'):=e;have hro:=f.ho;cases hrn:fr.cx.rnd with
   |some l=>rw[hrn]at e;cases e
   |none=>
    rw[hrn]at e hro;have hbn:b.roundOf=none:=by cases hbr:b.roundOf with
     |none=>rfl
     |some y=>rw[hbr]at hro;cases hro
    obtain⟨hfn,e⟩:=aH e;cases e;have hargs:cc.args.map (gt tmps)=⟨cc.args.toList.map (gt tmps)⟩:=by
     apply Array.ext';simp
    have key:∃d,(∀w,(Deferred.ofValue (gt tmps fo) ⟨cc.args.toList.map (gt tmps)⟩).run C.P w=.ok d w)/\BV g (.call (ev ax fr.tm) (evs axs fr.tm)::fr.cx.dfs) (d::ds):=by
     generalize ev ax fr.tm=y at hfn hvf;cases y<;>first|(cases hfn;done)|skip
     obtain⟨x,y,hx,hy,hfe⟩:=hvf.fn_inv;exact⟨_,fun w=>mw hvf hfe w,.fn hx hy hva f.hd⟩
    obtain⟨d,hd,hD⟩:=key;have hrun:(execOp (gt tmps) o).run C.P w=.ok (.defer d) w:=JX ho2 hcal (by rw[hargs];exact hd w);refine⟨⟨g,U,w,qy o.dst tmps undef,d::ds,.refl g,.refl _ U,s,.refl _,?_,.one (Nd ho hwant hbn hrun)⟩,.inl rfl⟩;refine⟨?_,hD,f.hr,?_,f.hf,?_⟩
    ·rw[c.hdst];exact f.ht.put c.hok f.hn (.tup .nil)
    ·rw[sm];exact f.hn
    ·show yC g none b.roundOf;rw[hbn];exact .none
  |pan v=>
   rw[hr]at e;obtain⟨ax,t,y,hop,hax,rfl⟩:=OC hr;have hcop:=c.hop;rw[hop]at hcop;obtain⟨xo,ho2,hx⟩:=Lz hcop;have hvx:=bN f.ht hx;rw[hax]at hvx;obtain⟨u,hu,hxe⟩:=hvx.ifc_inv;cases e;have hnd:∀c2,o.op≠.defer c2:=fun c2 q=>by rw[ho2]at q;cases q
   refine⟨⟨g,U,w,tmps,ds,.refl g,.refl _ U,s,.refl _,f,?_⟩,.inr ⟨_,rfl⟩⟩;exact⟨.inRegion ops (i::is)::k,.iface t u,trivial,.ifc hu,.one (Na ho hwant (.inl hnd) (JW ho2 hxe))⟩
end
section
variable {C:Cx}{b:Frame}{K:KK}{nt:Nat}{k:List Item}{g g1:Gh}{U U1:Nat->Option (List AV)}{h h1 h':AH}{e:AEx}{fr fr':AF}{w w1:World}{tmps:Array Value}{ds:List Deferred}
theorem Sim.born (s:Sim C g U h w){j n:Nat}{l:Loc}(e:g.ρ j n=some l):U j=none:=by
 cases q:U j with
 |none=>rfl
 |some z=>rw[(s.unb j z q).2 n]at e;cases e
theorem Ej (o:aX)(l:List aX)(call:aG)(fr:AF)(h:AH):rY (o::l) call fr h=jH (fA o call fr h) (rY l call):=rfl
theorem Iu {call:aG}(hcall:bM C call){ops:Array Oper}: ∀(l:List aX) (i:Nat) {g:Gh} {U:Nat->Option (List AV)} {h:AH} {w:World} {tmps:Array Value} {ds:List Deferred} {fr fr':AF} {e:AEx} {h':AH},
  (∀j ao,l[j]?=some ao->∃o,ops[i+j]?=some o/\Fu C nt ops.toList o ao)->rY l call fr h=some (e,fr',h')->Sim C g U h w->FR g b K nt fr tmps ds->
  gE C b K nt k (lone (stF b tmps ds (.inRegion ops (List.range' i l.length)::k)) (eX K fr.cx.rc) w) g U h e fr' h'
 |[],i,g,U,h,w,tmps,ds,fr,fr',e,h',_,q,s,f=>by
  cases q;exact⟨g,U,w,tmps,ds,.refl g,.refl _ U,s,.refl _,f,.one pZ⟩
 |ao::l,i,g,U,h,w,tmps,ds,fr,fr',e,h',hl,q,s,f=>by
  rw[Ej]at q;obtain⟨o,ho,hc⟩:=hl 0 ao rfl;have ho:ops[i]?=some o:=ho;rw[List.length_cons,List.range'_succ];rcases andThen_some q with⟨fr1,h1,q1,q2⟩|⟨q1,hn⟩
  ·obtain⟨G,_⟩:=qO (k:=k) (is:=List.range' (i+1) l.length) hcall ho hc q1 s f;refine G.then fun g1 U1 w1 tmps1 ds1 s1 f1=>Iu hcall l (i+1) (fun j ao hj=>?_) q2 s1 f1
   obtain⟨o,ho,hc⟩:=hl (j+1) ao (by simpa using hj);exact⟨o,by rw[show i+1+j=i+(j+1) by omega];exact ho,hc⟩
  ·obtain⟨G,_⟩:=qO (k:=k) (is:=List.range' (i+1) l.length) hcall ho hc q1 s f;exact gE.pass (x:=[.inRegion ops (List.range' (i+1) l.length)]) G (fun id=>by simp[exitTo]) (fun q=>hn q)
theorem sD {α β:Type}{f:α->Option β}: ∀{l:List α} {r:List β} {i:Nat} {b:β},jx f l=some r->r[i]?=some b->∃a,l[i]?=some a/\f a=some b
 |[],r,i,b,e,q=>by cases e;simp at q
 |a::l,r,i,b,e,q=>by
  obtain⟨b',r',h1,h2,rfl⟩:=bT e;cases i with
  |zero=>simp at q;subst q;exact⟨a,rfl,h1⟩
  |succ i=>
   obtain⟨a',h3,h4⟩:=sD (i:=i) h2 (by simpa using q);exact⟨a',by simpa using h3,h4⟩
theorem DA {call:aG}(hcall:bM C call){id:Nat}{ops:Array Oper}{l:List aX}(hc:jx (BC C.P C.T C.kw nt ops.toList) ops.toList=some l)(q:rY l call fr h=some (e,fr',h'))
  (s:Sim C g U h w) (f:FR g b K nt fr tmps ds):gE C b K nt k (lone (stF b tmps ds (.code (.region id ops false)::k)) (eX K fr.cx.rc) w) g U h e fr' h':=by
 refine gE.of_steps (.one JK) ?_;have hlen:l.length=ops.size:=by rw[tf hc];simp
 rw[List.range_eq_range',<-hlen];refine Iu hcall l 0 (fun j ao hj=>?_) q s f;obtain⟨o,h1,h2⟩:=sD hc hj;exact⟨o,by rw[wac];simpa using h1,yg h2⟩
theorem MZ {P:Program}{f:Operand}{ps:Array Tmp}{as bd:Code}{l:Nat}{mark:List Deferred}{d:Deferred}{fr0:Frame}{cs:List Frame}
  (hE:(Instr.enterLoop b.fn tmps ps as bd b.roundOf).run P w=.ok (l,mark) w1) (hd:(Deferred.ofValue (gt tmps f) #[.func (.yield l) #[] #[]]).run P w1=.ok d w1) (hent:Ur P d .normal w1 fr0) :
  step P (lone (stF b tmps ds (.code (.rangeFunc f ps as bd)::k)) cs w)=.next (lone fr0 (stF b tmps (mark++ds) (.inRangeFunc l::k)::cs) w1):=by
 refine step_lone_go ?_;have e:=vf b tmps (mark++ds) (.inRangeFunc l::k);simp only[stF]at e;have hev:gt tmps (.const (.func (.yield l) #[] #[]))=.func (.yield l) #[] #[]:=rfl;rcases hent with⟨ff,as',h1,rfl⟩|⟨_,l',ff,ts,xx,yy,h1,rfl⟩
 ·simp[stepG,stepG.exec,stF,hE,stepG.apply,resolve,e,hev,hd,h1]
 ·simp[stepG,stepG.exec,stF,hE,stepG.apply,resolve,e,hev,hd,h1]
theorem sY {P:Program}{l:Nat}{jump:Option Code}{cs:List Frame}(hE:(Instr.endLoop l).run P w=.ok jump w1):
  step P (lone (stF b tmps ds (.endRangeFunc l::k)) cs w)=.next (lone (stF b tmps ds ((jump.map Item.code).toList++k)) cs w1):=by
 refine step_lone_go ?_;simp[stepG,stepG.exec,stF,hE]
theorem jr {l:Nat}{L:Loop}(e:w.heap[l]?=some (.loop L)):(Instr.getLoop l).run C.P w=.ok L w:=by
 have:=ku (C:=C) e (by intros;simp);simp[Instr.getLoop,this]
theorem Lh {ps:List Nat}{params:Array Tmp}{asC bC:Code}{as bd:aw}{p:Nat×List DF×AH}(hp:params.toList=ps)(ha:jJ asC C.P C.T C.kw nt=some as)(hb:jJ bC C.P C.T C.kw nt=some bd)
  (hk:ml nt ps=true) (q:wQ fr ps as bd h=some p) (s:Sim C g U h w) (f:FR g b K nt fr tmps ds) :
  ∃g1 w1 l mark,Ext g g1/\Sim C g1 U p.2.2 w1/\Low h p.2.2/\g1.ρ p.1 0=some l/\(Instr.enterLoop b.fn tmps params asC bC b.roundOf).run C.P w=.ok (l.block,mark) w1/\
   FR g1 b K nt (AK p.2.1 fr) tmps (mark++ds):=by
 have hro:=f.ho;cases hrn:fr.cx.rnd with
 |none=>
  have q:Option.casesOn fr.cx.rnd (some (Nat.succ h.z,[DF.mark h.z],(h.new (.dfd false)).new (.loop .ready none fr.tm ps as bd fr.cx.fid)))
   (fun l=>aq (h.get l) fun o=>hY o none fun _ _ _ _ _ _ _=>some (h.z,[],h.new (.loop .ready none fr.tm ps as bd fr.cx.fid)))=some p:=q
  rw[hrn]at q hro;cases q;have hbn:b.roundOf=none:=by cases hbr:b.roundOf with
   |none=>rfl
   |some y=>rw[hbr]at hro;cases hro
  obtain⟨x1,s1⟩:=s.alloc (.dfd false) (.deferred (some [])) ⟨w.heap.size,0,0,0⟩ rfl rfl (heap_alloc_new _ _);obtain⟨L,hL⟩:∃L:Loop,L={state:=.ready,pending:=none,fn:=b.fn,tmps:=tmps,params:=params,assign:=asC,body:=bC,defers:=w.heap.size}:=⟨_,rfl⟩
  have hnx:(h.new (.dfd false)).z=h.z+1:=AH.ci _ _;obtain⟨x2,s2⟩:=s1.alloc (.loop .ready none fr.tm ps as bd fr.cx.fid) (.loop L) ⟨w.heap.size+1,0,0,0⟩ (by rw[World.size_alloc]) rfl (by
   refine⟨L,?_,?_⟩
   ·show((w.alloc _).alloc _).heap[w.heap.size+1]?=_;rw[<-World.size_alloc w (.deferred (some []))];exact heap_alloc_new _ _
   ·subst hL;exact⟨rfl,.none,(f.ht.mono x1).mono ((g.at h.z 0 ⟨w.heap.size,0,0,0⟩).at_ext _ (s1.rfresh 0)),hp,f.hf.symm,⟨nt,f.hn,ha,hb,hk⟩⟩)
  rw[hnx]at x2 s2;refine⟨_,_,⟨w.heap.size+1,0,0,0⟩,[{target:=.collected w.heap.size,args:=#[]}],x1.trans x2,s2,(Low.new _ _).trans (Low.new _ _),Gh.at_same _ _ _ _,?_,?_⟩
  ·rw[hbn,hL];simp[Instr.enterLoop]
  ·have f2:=f.mono (x1.trans x2);exact⟨f2.ht,.mark (lc:=⟨w.heap.size,0,0,0⟩) (x2.ρ _ _ _ (Gh.at_same _ _ _ _)) f2.hd,f2.hr,f2.hn,f2.hf,f2.ho⟩
 |some rl=>
  have q:Option.casesOn fr.cx.rnd (some (Nat.succ h.z,[DF.mark h.z],(h.new (.dfd false)).new (.loop .ready none fr.tm ps as bd fr.cx.fid)))
   (fun l=>aq (h.get l) fun o=>hY o none fun _ _ _ _ _ _ _=>some (h.z,[],h.new (.loop .ready none fr.tm ps as bd fr.cx.fid)))=some p:=q
  rw[hrn]at q hro;obtain⟨o,hg,q⟩:=ah (show aq (h.get rl) _=_ from q);cases o with
  |loop st pend tm0 ps0 as0 b0 f0=>
   cases q;cases hbr:b.roundOf with
   |none=>rw[hbr]at hro;cases hro
   |some lb=>
    rw[hbr]at hro;obtain⟨lc,hlc,hlb⟩:∃lc,g.ρ rl 0=some lc/\lb=lc.block:=by cases hro with|some h=>exact⟨_,h,rfl⟩
    obtain⟨lc',h1,_,L0,h2,_⟩:=s.obj rl _ hg (s.born hlc);have h1:g.ρ rl 0=some lc':=h1;rw[hlc]at h1;cases h1;obtain⟨L,hL⟩:∃L:Loop,L={state:=.ready,pending:=none,fn:=b.fn,tmps:=tmps,params:=params,assign:=asC,body:=bC,defers:=L0.defers}:=⟨_,rfl⟩
    obtain⟨x2,s2⟩:=s.alloc (.loop .ready none fr.tm ps as bd fr.cx.fid) (.loop L) ⟨w.heap.size,0,0,0⟩ rfl rfl (by
     refine⟨L,heap_alloc_new _ _,?_⟩;subst hL;exact⟨rfl,.none,f.ht.mono (g.at_ext _ (s.rfresh 0)),hp,f.hf.symm,⟨nt,f.hn,ha,hb,hk⟩⟩)
    refine⟨_,_,⟨w.heap.size,0,0,0⟩,[],x2,s2,Low.new _ _,Gh.at_same _ _ _ _,?_,f.mono x2⟩;subst hlb;have:=jr (C:=C) h2;rw[hL];simp[Instr.enterLoop,this]
  |_=>cases q
theorem Bn {l:Nat}{lc:Loc}(q:uT fr l h=some (e,fr',h'))(s:Sim C g U h w)(hl:g.ρ l 0=some lc)(f:FR g b K nt fr tmps ds):
  gE C b K nt k (lone (stF b tmps ds (.endRangeFunc lc.block::k)) (eX K fr.cx.rc) w) g U h e fr' h':=by
 obtain⟨o,hg,q⟩:=ah (show aq (h.get l) _=_ from q);cases o with
 |loop st pend tm0 ps0 as0 b0 f0=>
  obtain⟨lc',h1,_,L0,h2,hL⟩:=s.obj l _ hg (s.born hl);have h1:g.ρ l 0=some lc':=h1;rw[hl]at h1;cases h1;have q:cond (wM st) none (Option.casesOn pend (some (AEx.normal,fr,h.set l (.loop .exhausted none tm0 ps0 as0 b0 f0))) fun e=>some (e,fr,h.set l (.loop .exhausted (some e) tm0 ps0 as0 b0 f0)))=some (e,fr',h'):=q;obtain⟨hb,q⟩:=fZ q;have hst:L0.state≠.busy:=by rw[hL.hst];intro hq;rw[hq]at hb;cases hb
  have hrun:(Instr.endLoop lc.block).run C.P w=.ok L0.pending (setBlk w lc.block (.loop {L0 with state:=.exhausted})):=by
   have e1:=jr (C:=C) h2;have e2:=iV (C:=C) (ob':=.loop {L0 with state:=.exhausted}) h2 (by intros;simp);simp[Instr.endLoop,e1,e2,hst]
  have hlt:lc.block<w.heap.size:=(Array.getElem?_eq_some_iff.1 h2).1;have hput:∀pend',MN pend' L0.pending->Sim C g U (h.set l (.loop .exhausted pend' tm0 ps0 as0 b0 f0)) (setBlk w lc.block (.loop {L0 with state:=.exhausted})):=by
   intro pend' hp;refine s.put hg (s.born hl) hl rfl ⟨_,eK hlt,?_⟩ (fun i v x=>?_)
   ·exact⟨rfl,hp,hL.htm,hL.hps,hL.hfn,hL.hcode⟩
   ·have:=s.frz _ _ _ x;unfold World.cell? at this;simp[h2]at this
  have hp:=hL.hpend;generalize setBlk w lc.block (.loop {L0 with state:=.exhausted})=W at hrun hput;cases pend with
  |none=>
   cases q;have hpn:L0.pending=none:=by cases hp2:L0.pending with
    |none=>rfl
    |some y=>rw[hp2]at hp;cases hp
   refine⟨g,U,_,tmps,ds,.refl g,.refl _ U,hput none hp,Low.set _ _ _,f,?_⟩;have:=sY (P:=C.P) (b:=b) (tmps:=tmps) (ds:=ds) (k:=k) (cs:=eX K fr.cx.rc) hrun;rw[hpn]at this;exact .one this
  |some e0=>
   cases q;refine⟨g,U,_,tmps,ds,.refl g,.refl _ U,hput (some e) hp,Low.set _ _ _,f,?_⟩;have:=sY (P:=C.P) (b:=b) (tmps:=tmps) (ds:=ds) (k:=k) (cs:=eX K fr.cx.rc) hrun;generalize L0.pending=pd at hp this;cases hp with
   |ret=>exact⟨k,.one this⟩
   |exit id=>exact⟨k,rfl,.one this⟩
 |_=>cases q
theorem Kb {call:aG}(hcall:bM C call){fo:Operand}{f:AX}{ps:List Nat}{params:Array Tmp}{asC bC:Code}{as bd:aw}(hf:cX fo=some f)(hp:params.toList=ps)
  (ha:jJ asC C.P C.T C.kw nt=some as) (hb:jJ bC C.P C.T C.kw nt=some bd) (hk:ml nt ps=true) (q:IG call f ps as bd fr h=some (e,fr',h')) (s:Sim C g U h w) (F:FR g b K nt fr tmps ds) :
  gE C b K nt k (lone (stF b tmps ds (.code (.rangeFunc fo params asC bC)::k)) (eX K fr.cx.rc) w) g U h e fr' h':=by
 obtain⟨p,q1,q⟩:=ah (show aq (wQ fr ps as bd h) _=_ from q);obtain⟨⟨out,rc',h2⟩,q2,q⟩:=ah q;obtain⟨g1,w1,l,mark,x1,s1,lo1,hl,hE,F1⟩:=Lh hp ha hb hk q1 s F;have hvf:=(bN F.ht hf).mono x1;have hva:aR g1 [.yld p.1] [.func (.yield l.block) #[] #[]]:=.cons (.yld hl) .nil;obtain⟨d,fr0,hd,hent,g',U',w',hx,hu,hs,hlow,hrc,hland⟩:=
  hcall _ _ _ _ _ _ _ q2 g1 U w1 _ _ ⟨stF b tmps (mark++ds) (.inRangeFunc l.block::k),eX K fr.cx.rc,.nilIface,stF b tmps (mark++ds) (.inRangeFunc l.block::k)::eX K fr.cx.rc⟩ .normal s1 hvf hva rfl rfl
 have hrc':=lM hrc;subst hrc';have h0:=MZ (P:=C.P) (b:=b) (tmps:=tmps) (ds:=ds) (k:=k) (cs:=eX K fr.cx.rc) hE (hd w1) hent;refine gE.of_steps (.one h0) (gE.after x1 (.refl _ U) lo1 ?_);cases out with
 |ret v=>
  obtain⟨u,hv,hst⟩:=hland;refine gE.of_steps hst (gE.after hx hu hlow ?_);exact Bn (fr:=AK p.2.1 fr) q hs (hx.ρ _ _ _ hl) (F1.mono hx)
 |pan v=>
  obtain⟨pv,hv,hst⟩:=hland;cases q;exact⟨g',U',w',tmps,mark++ds,hx,hu,hs,hlow,F1.mono hx,.inRangeFunc l.block::k,pv,trivial,hv,hst rfl⟩
end
def wV (C:Cx)(call:aG):Prop:=
 ∀(nt id:Nat) (ops:Array Oper) (l:List aX) (ac:aw),jx (BC C.P C.T C.kw nt ops.toList) ops.toList=some l->abJ ops.toList l=some ac->
  ∀(n:Nat) (fr:AF) (h:AH) (e:AEx) (fr':AF) (h':AH),evCode ac call n fr h=some (e,fr',h')->
  ∀(g:Gh) (U:Nat->Option (List AV)) (w:World) (b:Frame) (K:KK) (k:List Item) (tmps:Array Value) (ds:List Deferred),Sim C g U h w->FR g b K nt fr tmps ds->
   gE C b K nt k (lone (stF b tmps ds (.code (.region id ops true)::k)) (eX K fr.cx.rc) w) g U h e fr' h'
section
variable {C:Cx}
theorem gE.stay {b:Frame}{K:KK}{nt:Nat}{k:List Item}{m:Machine}{g:Gh}{U:Nat->Option (List AV)}{h:AH}{fr:AF}{w:World}{tmps:Array Value}{ds:List Deferred}{e:AEx}(s:Sim C g U h w)
  (f:FR g b K nt fr tmps ds) (o:Out C.P b K k m g fr tmps ds w e):gE C b K nt k m g U h e fr h:=⟨g,U,w,tmps,ds,.refl g,.refl _ U,s,.refl _,f,o⟩
theorem KX (n:Nat)(st:AF->AH->RX)(fr:AF)(h:AH):LY (n+1) st fr h=jH (st fr h) (LY n st):=rfl
theorem rp {call:aG}(hcall:bM C call)(hdraw:wV C call)(n:Nat)(c:Code):∀(ac:aw) (nt:Nat),jJ c C.P C.T C.kw nt=some ac->
  ∀{fr:AF} {h:AH} {e:AEx} {fr':AF} {h':AH} {g:Gh} {U:Nat->Option (List AV)} {w:World} {b:Frame} {K:KK} {k:List Item} {tmps:Array Value} {ds:List Deferred},
   evCode ac call n fr h=some (e,fr',h')->Sim C g U h w->FR g b K nt fr tmps ds->gE C b K nt k (lone (stF b tmps ds (.code c::k)) (eX K fr.cx.rc) w) g U h e fr' h':=by
 induction c with
 |skip=>
  intro ac nt hc fr h e fr' h' g U w b K k tmps ds q s f;cases hc;cases q;exact .stay s f (.one Wj)
 |region id ops draw=>
  intro ac nt hc fr h e fr' h' g U w b K k tmps ds q s f;obtain⟨l,h1,hc⟩:=ah (show aq (jx (BC C.P C.T C.kw nt ops.toList) ops.toList) _=_ from hc);cases draw with
  |false=>cases hc;exact DA hcall h1 q s f
  |true=>exact hdraw nt id ops l ac h1 hc n fr h e fr' h' q g U w b K k tmps ds s f
 |seq x y ihx ihy=>
  intro ac nt hc fr h e fr' h' g U w b K k tmps ds q s f;obtain⟨ax,h1,hc⟩:=ah (show aq (jJ x C.P C.T C.kw nt) _=_ from hc);obtain⟨ay,h2,hc⟩:=ah (show aq (jJ y C.P C.T C.kw nt) _=_ from hc);cases hc;refine gE.of_steps (.one acU) ?_;rcases andThen_some (show jH (evCode ax call n fr h) (evCode ay call n)=_ from q) with⟨fr1,h1',q1,q2⟩|⟨q1,hn⟩
  ·exact(ihx ax nt h1 (k:=.code y::k) q1 s f).then fun g1 U1 w1 t1 d1 s1 f1=>ihy ay nt h2 q2 s1 f1
  ·exact gE.pass (x:=[.code y]) (ihx ax nt h1 (k:=.code y::k) q1 s f) (fun id=>by simp[exitTo]) hn
 |cond c x y ihx ihy=>
  intro ac nt hc fr h e fr' h' g U w b K k tmps ds q s f;obtain⟨cc,h0,hc⟩:=ah (show aq (cX c) _=_ from hc);obtain⟨ax,h1,hc⟩:=ah (show aq (jJ x C.P C.T C.kw nt) _=_ from hc);obtain⟨ay,h2,hc⟩:=ah (show aq (jJ y C.P C.T C.kw nt) _=_ from hc);cases hc;have hv:=bN f.ht h0;have q:Hq (ev cc fr.tm) (evCode ax call n) (evCode ay call n) fr h=_:=q;generalize ev cc fr.tm=z at q hv;cases z<;>first|(cases q;done)|skip
  case bool t=>
   have hv:=hv.bool_inv;refine gE.of_steps (.one (Wn hv)) ?_;cases t with
   |false=>exact ihy ay nt h2 q s f
   |true=>exact ihx ax nt h1 q s f
 |block id x ih=>
  intro ac nt hc fr h e fr' h' g U w b K k tmps ds q s f;obtain⟨ax,h1,hc⟩:=ah (show aq (jJ x C.P C.T C.kw nt) _=_ from hc);cases hc;obtain⟨⟨e1,fr1,h1'⟩,q1,q⟩:=ah (show aq (evCode ax call n fr h) _=_ from q);refine gE.of_steps (.one Nf) ?_;have G:=ih ax nt h1 (k:=.inBlock id::k) q1 s f;cases e1 with
  |normal=>
   cases q;exact G.then fun g1 U1 w1 t1 d1 s1 f1=>.stay s1 f1 (.one Dv)
  |ret=>
   cases q;obtain⟨g1,U1,w1,t1,d1,x1,u1,s1,lo1,f1,st⟩:=G;exact⟨g1,U1,w1,t1,d1,x1,u1,s1,lo1,f1,st⟩
  |panic v=>
   cases q;obtain⟨g1,U1,w1,t1,d1,x1,u1,s1,lo1,f1,st⟩:=G;exact⟨g1,U1,w1,t1,d1,x1,u1,s1,lo1,f1,st⟩
  |exit j=>
   obtain⟨g1,U1,w1,t1,d1,x1,u1,s1,lo1,f1,k1,hk1,st⟩:=G;have q:some (cond (Nat.beq j id) AEx.normal (.exit j),fr1,h1')=some (e,fr',h'):=q;cases hj:Nat.beq j id with
   |true=>
    rw[hj]at q;cases q;have hj:=beq_eq hj;subst hj;refine⟨g1,U1,w1,t1,d1,x1,u1,s1,lo1,f1,?_⟩;refine st.trans (.one (Wl ?_));rw[hk1];simp[exitTo]
   |false=>
    rw[hj]at q;cases q;refine⟨g1,U1,w1,t1,d1,x1,u1,s1,lo1,f1,k1,?_,st⟩;rw[hk1];have:(id==j)=false:=by simp;intro hq;subst hq;simp at hj
    simp[exitTo,this]
 |loop x ih=>
  intro ac nt hc fr h e fr' h' g U w b K k tmps ds q s f;obtain⟨ax,h1,hc⟩:=ah (show aq (jJ x C.P C.T C.kw nt) _=_ from hc);cases hc;refine gE.of_steps (.one Wk) ?_;have q:LY n (evCode ax call n) fr h=some (e,fr',h'):=q;have key:∀(m:Nat) {fr:AF} {h:AH} {g:Gh} {U:Nat->Option (List AV)} {w:World} {tmps:Array Value} {ds:List Deferred},LY m (evCode ax call n) fr h=some (e,fr',h')->Sim C g U h w->FR g b K nt fr tmps ds->
    gE C b K nt k (lone (stF b tmps ds (.code x :: .inLoop x::k)) (eX K fr.cx.rc) w) g U h e fr' h':=by
   intro m;induction m with
   |zero=>intro fr h g U w tmps ds q;cases q
   |succ m ihm=>
    intro fr h g U w tmps ds q s f;rcases andThen_some (show jH (evCode ax call n fr h) (LY m (evCode ax call n))=_ from q) with⟨fr1,h1',q1,q2⟩|⟨q1,hn⟩
    ·exact(ih ax nt h1 (k:=.inLoop x::k) q1 s f).then fun g1 U1 w1 t1 d1 s1 f1=>gE.of_steps (.one JL) (ihm q2 s1 f1)
    ·exact gE.pass (x:=[.inLoop x]) (ih ax nt h1 (k:=.inLoop x::k) q1 s f) (fun id=>by simp[exitTo]) hn
  exact key n q s f
 |rangeFunc fo ps as bd _ _=>
  intro ac nt hc fr h e fr' h' g U w b K k tmps ds q s f;obtain⟨af,h0,hc⟩:=ah (show aq (cX fo) _=_ from hc);obtain⟨aa,h1,hc⟩:=ah (show aq (jJ as C.P C.T C.kw nt) _=_ from hc);obtain⟨ab,h2,hc⟩:=ah (show aq (jJ bd C.P C.T C.kw nt) _=_ from hc);obtain⟨hk,hc⟩:=aH hc;cases hc;exact Kb hcall h0 rfl h1 h2 hk q s f
 |exit id=>
  intro ac nt hc fr h e fr' h' g U w b K k tmps ds q s f;cases hc;cases q;exact .stay s f ⟨k,rfl,.refl _ _⟩
 |scope x ih=>
  intro ac nt hc fr h e fr' h' g U w b K k tmps ds q s f;obtain⟨ax,h1,hc⟩:=ah (show aq (jJ x C.P C.T C.kw nt) _=_ from hc);cases hc;refine gE.of_steps (.one MX) ?_;have G:=ih ax nt h1 (k:=.inScope x::k) q s f;by_cases hn:e=.normal
  ·subst hn;exact G.then fun g1 U1 w1 t1 d1 s1 f1=>.stay s1 f1 (.one Du)
  ·exact gE.pass (x:=[.inScope x]) G (fun id=>by simp[exitTo]) hn
 |label l=>
  intro ac nt hc fr h e fr' h' g U w b K k tmps ds q s f;cases hc;cases q;exact .stay s f (.one Nb)
 |goto l=>intro ac nt hc;cases hc
 |ret=>
  intro ac nt hc fr h e fr' h' g U w b K k tmps ds q s f;cases hc;cases q;exact .stay s f ⟨k,.refl _ _⟩
 |refuse why=>intro ac nt hc;cases hc
end
