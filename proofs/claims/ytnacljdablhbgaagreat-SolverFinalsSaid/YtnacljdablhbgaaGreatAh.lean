/- AbsGo: the walk of the machine: the end of a call (no condition). -/
import Derived.Test.YtnacljdablhbgaaGreatAg
namespace Go.AG
def stM (b:Frame)(tmps:Array Value)(ds:List Deferred)(todo:List Item)(md:FrameMode):Frame:={b with tmps:=tmps,defers:=ds,todo:=todo,mode:=md}
inductive ze (g:Gh):Md->FrameMode->Prop
 |ret:ze g .returning .returning
 |pan {v:AV} {pv:Value} (h:bu g v pv):ze g (.panicking v) (.panicking [ent pv false])
theorem ze.mono {g g':Gh}(x:Ext g g'){m:Md}{md:FrameMode}(h:ze g m md):ze g' m md:=by
 cases h with
 |ret=>exact .ret
 |pan h=>exact .pan (h.mono x)
section
variable {C:Cx}{b:Frame}{K:KK}{nt:Nat}{k todo:List Item}{g g1:Gh}{U U1:Nat->Option (List AV)}{h h1 h':AH}{fr fr':AF}{w w1:World}{tmps:Array Value}{ds:List Deferred}{md:FrameMode}{cs:List Frame}
theorem yI {P:Program}{bl:Nat}{as:Array Value}{calls:List Deferred}(hm:md≠.run)(hr:(Instr.takeDeferred bl).run P w=.ok calls w1):
  step P (lone (stM b tmps ({target:=.collected bl,args:=as} :: ds) todo md) cs w)=.next (lone (stM b tmps (calls++ds) todo md) cs w1):=by
 refine step_lone_go ?_;cases md with
 |run=>exact absurd rfl hm
 |returning=>simp[stepG,stM,unwind,hr]
 |panicking ch=>simp[stepG,stM,unwind,hr]
theorem AS {P:Program}{f f':FuncId}{cap as as':Array Value}(hm:md≠.run)(hr:(invoke (.fn (.func f) cap) as).run P w=.ok (.enter f' as') w):
  step P (lone (stM b tmps ({target:=.fn (.func f) cap,args:=as} :: ds) todo md) cs w)=.next (lone (Frame.enter P f' as' .deferred) (stM b tmps ds todo md::cs) w):=by
 refine step_lone_go ?_;cases md with
 |run=>exact absurd rfl hm
 |returning=>simp[stepG,stM,unwind,callDeferred,hr]
 |panicking ch=>simp[stepG,stM,unwind,callDeferred,hr]
theorem JI {P:Program}{F:Func}{u:Value}{rc:RC}(hF:P.funcs[b.fn]?=some F)(hr:(results F tmps).run P w=.ok u w)(hk:tR g K b.kind rc)(hK:K.cs=K.c0::K.rest):
  step P (lone (stM b tmps [] todo .returning) (eX K rc) w)=.next (lone (wa K u rc) K.rest w):=by
 refine step_lone_go ?_;cases rc with
 |no=>have hk:b.kind=.normal:=hk;simp[stepG,stM,unwind,hF,hr,eX,wa,doReturn,hk,hK]
 |ret=>have hk:b.kind=.deferred:=hk;simp[stepG,stM,unwind,hF,hr,eX,wa,doReturn,hk]
 |pend v=>have hk:b.kind=.deferred:=hk.1;simp[stepG,stM,unwind,hF,hr,eX,wa,doReturn,hk,ent]
 |done=>have hk:b.kind=.deferred:=hk;simp[stepG,stM,unwind,hF,hr,eX,wa,doReturn,hk,ent]
theorem Ep {P:Program}(fr:Frame)(hn:wI fr.todo):fr.catches P=false:=by
 unfold Frame.catches;split
 ·rename_i h;rw[h]at hn;exact hn.elim
 ·rfl
theorem BZ {P:Program}{ch:List PanicEntry}{c:Frame}(hn:wI todo):step P (lone (stM b tmps [] todo (.panicking ch)) (c::cs) w)=.next (lone (c.raise ch) cs w):=by
 refine step_lone_go ?_;have:=Ep (P:=P) (stM b tmps [] todo (.panicking ch)) hn;simp only[stM]at this;simp[stepG,stM,unwind,this]
theorem Ca {P:Program}(hr:b.roundOf=none):step P (lone (stF b tmps ds []) cs w)=.next (lone (stM b tmps ds [] .returning) cs w):=
 step_lone_go (by simp[stepG,stepG.exec,stF,stM,hr])
theorem sW {P:Program}(hr:b.roundOf=none):step P (lone (stF b tmps ds (.code .ret::k)) cs w)=.next (lone (stM b tmps ds (.code .ret::k) .returning) cs w):=
 step_lone_go (by simp[stepG,stepG.exec,stF,stM,hr])
theorem No {bl:Nat}(e:w.heap[bl]?=some (.deferred (some []))):(Instr.takeDeferred bl).run C.P w=.ok [] (setBlk w bl (.deferred none)):=by
 have e1:=ku (C:=C) e (by intros;simp);have e2:=iV (C:=C) (ob':=.deferred none) e (by intros;simp);simp[Instr.takeDeferred,e1,e2]
theorem rn {call:aG}(hcall:bM C call):∀(l:List DF) {m m':Md} {h h':AH} {g:Gh} {U:Nat->Option (List AV)} {w:World} {ds:List Deferred} {md:FrameMode},
  jK l call m h=some (m',h')->Sim C g U h w->BV g l ds->ze g m md->
  ∃g' U' w' md',Ext g g'/\nO h.z U U'/\Sim C g' U' h' w'/\Low h h'/\ze g' m' md'/\Steps C.P (lone (stM b tmps ds todo md) cs w) (lone (stM b tmps [] todo md') cs w')
 |[],m,m',h,h',g,U,w,ds,md,q,s,d,hm=>by
  cases q;cases d;exact⟨g,U,w,md,.refl g,.refl _ U,s,.refl _,hm,.refl _ _⟩
 |.mark j::l,m,m',h,h',g,U,w,ds,md,q,s,d,hm=>by
  obtain⟨p,q1,q⟩:=ah (show aq (VQ (.mark j) call m h) _=_ from q);obtain⟨o,hg,q1⟩:=ah (show aq (h.get j) _=_ from q1);obtain⟨t,ht,q1⟩:=ah q1;obtain⟨htt,q1⟩:=fZ q1;subst htt;cases q1;cases o<;>first|(cases ht;done)|skip
  cases ht;cases d with
  |@mark _ lc _ ds0 hρ d=>
   obtain⟨lc',h1,_,h2⟩:=s.obj j _ hg (s.born hρ);have h1:g.ρ j 0=some lc':=h1;rw[hρ]at h1;cases h1;have h2:w.heap[lc.block]?=some (.deferred (some [])):=h2;have hlt:lc.block<w.heap.size:=(Array.getElem?_eq_some_iff.1 h2).1;have s1:Sim C g U (h.set j (.dfd true)) (setBlk w lc.block (.deferred none)):=s.put hg (s.born hρ) hρ rfl (eK hlt) (fun i v x=>by
    have:=s.frz _ _ _ x;unfold World.cell? at this;simp[h2]at this)
   have hrun:md≠.run:=by cases hm<;>simp
   obtain⟨g',U',w',md',a1,a2,a3,a4,a5,a6⟩:=rn hcall l q s1 d hm;refine⟨g',U',w',md',a1,a2,a3,(Low.set _ _ _).trans a4,a5,.head (yI hrun (No h2)) a6⟩
 |.call f as::l,m,m',h,h',g,U,w,ds,md,q,s,d,hm=>by
  obtain⟨p,q1,qq⟩:=ah (show aq (VQ (.call f as) call m h) _=_ from q);clear q;have qq:jK l call p.1 p.2=some (m',h'):=qq;obtain⟨⟨out,rc',h1⟩,q0,q1⟩:=ah (show aq (call f as (aco m) h) _=_ from q1);cases d with
  |@fn fi a b' _ x y us _ ds0 ha hb hs d=>
   obtain⟨pv,hpv⟩:∃pv,(∀v,m=.panicking v->bu g v pv/\md=.panicking [ent pv false]):=by
    cases hm with
    |ret=>exact⟨.nilIface,fun v e=>by cases e⟩
    |pan h=>exact⟨_,fun v e=>by cases e;exact⟨h,rfl⟩⟩
   have hrc0:tR g ⟨stM b tmps ds0 todo md,cs,pv,stM b tmps ds0 todo md::cs⟩ .deferred (aco m):=by
    cases m with
    |returning=>rfl
    |panicking v=>exact⟨rfl,(hpv v rfl).1⟩
   have hcs:eX ⟨stM b tmps ds0 todo md,cs,pv,stM b tmps ds0 todo md::cs⟩ (aco m)=stM b tmps ds0 todo md::cs:=by
    cases m with
    |returning=>cases hm;rfl
    |panicking v=>rw[(hpv v rfl).2];rfl
   obtain⟨d',fr0,hd,hent,g',U',w',hx,hu,hs',hl,hrc,hland⟩:=
    hcall _ _ _ _ _ _ _ q0 g U w _ _ ⟨stM b tmps ds0 todo md,cs,pv,stM b tmps ds0 todo md::cs⟩ .deferred s (.fn ha hb) hs hrc0 rfl
   have hd':=hd w;rw[mw (C:=C) (.fn ha hb) rfl w]at hd';cases hd';have hrun:md≠.run:=by cases hm<;>simp
   rw[hcs]at hland;have h0:Steps C.P (lone (stM b tmps ({target:=.fn (.func fi) ⟨y⟩,args:=⟨x++us⟩} :: ds0) todo md) cs w) (lone fr0 (stM b tmps ds0 todo md::cs) w):=by
    rcases hent with⟨ff,as',h1,rfl⟩|⟨hk,_⟩
    ·exact .one (AS hrun h1)
    ·cases hk
   cases out with
   |pan v=>cases q1
   |ret v=>
    obtain⟨u,hv,hst⟩:=hland;have key:∃md1,ze g' p.1 md1/\p.2=h1/\wa ⟨stM b tmps ds0 todo md,cs,pv,stM b tmps ds0 todo md::cs⟩ u rc'=stM b tmps ds0 todo md1:=by
     have q1:TK rc' m h1=some p:=q1;cases rc' with
     |no=>cases q1
     |ret=>cases m with
      |returning=>cases q1;exact⟨.returning,.ret,rfl,rfl⟩
      |panicking v=>cases q1
     |done=>cases m with
      |returning=>cases q1
      |panicking v=>cases q1;exact⟨.returning,.ret,rfl,rfl⟩
     |pend v0=>cases m with
      |returning=>cases q1
      |panicking v=>cases q1;exact⟨.panicking [ent pv false],.pan ((hpv v rfl).1.mono hx),rfl,rfl⟩
    obtain⟨md1,hm1,hp2,hbk⟩:=key;rw[hbk]at hst;rw[hp2]at qq;obtain⟨g2,U2,w2,md2,a1,a2,a3,a4,a5,a6⟩:=rn hcall l qq hs' (d.mono hx) hm1;exact⟨g2,U2,w2,md2,hx.trans a1,hu.trans a2 hl.z,a3,hl.trans a4,a5,(h0.trans hst).trans a6⟩
def rdV (tmps:Array Value):ResultVar->Sem Value
 |.tmp t=>pure (tmps.getD t undef)
 |.cell a t=>do loadVar t (<-asAddr (tmps.getD a undef))
theorem WD {tm:Tm}(s:Sim C g U h w)(ht:eQ g tm tmps){r:ResultVar}{ar:bF}{v:AV}(hc:UA C.T r=some ar)(q:GX ar tm h=some v):
  ∃u,(rdV tmps r).run C.P w=.ok u w/\bu g v u:=by
 cases r with
 |tmp t=>cases hc;cases q;exact⟨tmps.getD t undef,by simp[rdV],ht t⟩
 |cell a t=>
  obtain⟨n,h1,hc⟩:=ah (show aq (szT C.T t) _=_ from hc);obtain⟨_,hc⟩:=aH hc;cases hc;obtain⟨ad,y,e1,e2,e3⟩:=CF s h1 (ht a) q;exact⟨y,by show((do loadVar t (<-asAddr (tmps.getD a undef)):Sem Value)).run C.P w=_;rw[e1];simp[asAddr,e2],e3⟩
end
theorem rN (f:AV->AV)(l:List AV):we f l=l.map f:=by
 induction l with
 |nil=>rfl
 |cons a l ih=>show f a::we f l=_;rw[ih];rfl
theorem vC (n:Nat)(h:AH)(base:Nat)(v:AV):frz (n+1) h base v=frz1 v h base (frz n h base):=rfl
theorem frzRow_cases (h:AH)(v:AV)(k gn sz off m:Nat)(f:AV->AV):jh h v k gn sz off m f=v∨
  ∃agg cs fz es,h.get k=some (.row gn sz agg cs fz)/\chunk agg sz m (drp (Nat.mul off sz) cs)=some es/\jh h v k gn sz off m f=.ls (es.map f):=by
 unfold jh;cases e:h.get k with
 |none=>exact .inl rfl
 |some o=>
  cases o<;>first|exact .inl rfl|skip
  case row g1 sz1 agg cs fz=>
   show(cond (and (Nat.beq gn g1) (Nat.beq sz sz1)) _ v=v)∨_;cases hc:and (Nat.beq gn g1) (Nat.beq sz sz1) with
   |false=>exact .inl rfl
   |true=>
    obtain⟨h1,h2⟩:=dd hc;have h1:=beq_eq h1;have h2:=beq_eq h2;subst h1 h2;cases hk:chunk agg sz m (drp (Nat.mul off sz) cs) with
    |none=>exact .inl rfl
    |some es=>
     refine .inr ⟨agg,cs,fz,es,rfl,hk,?_⟩;show cond (and (Nat.beq gn gn) (Nat.beq sz sz)) (Option.casesOn (chunk agg sz m (drp (Nat.mul off sz) cs)) v fun es=>AV.ls (we f es)) v=_;rw[hc,hk];exact congrArg AV.ls (rN f es)
theorem CJ (n:Nat)(h:AH)(base:Nat)(v:AV):(frz n h base v).isCell=v.isCell:=by
 cases n with
 |zero=>rfl
 |succ n=>
  rw[vC];cases v<;>first|rfl|skip
  case row k gn sz off m=>
   show AV.isCell (cond (Nat.ble base k) (jh h (.row k gn sz off m) k gn sz off m (frz n h base)) (.row k gn sz off m))=true;cases Nat.ble base k with
   |false=>rfl
   |true=>rcases frzRow_cases h (.row k gn sz off m) k gn sz off m (frz n h base) with e|⟨_,_,_,_,_,_,e⟩<;>(show AV.isCell (jh _ _ _ _ _ _ _ _)=true;rw[e];rfl)
theorem XG (n:Nat)(h:AH)(base:Nat)(v:AV):(frz n h base v).isAgg=v.isAgg:=by
 cases n with
 |zero=>rfl
 |succ n=>
  rw[vC];cases v<;>first|rfl|skip
  case row k gn sz off m=>
   show AV.isAgg (cond (Nat.ble base k) (jh h (.row k gn sz off m) k gn sz off m (frz n h base)) (.row k gn sz off m))=false;cases Nat.ble base k with
   |false=>rfl
   |true=>rcases frzRow_cases h (.row k gn sz off m) k gn sz off m (frz n h base) with e|⟨_,_,_,_,_,_,e⟩<;>(show AV.isAgg (jh _ _ _ _ _ _ _ _)=false;rw[e];rfl)
section
variable {C:Cx}{b:Frame}{K:KK}{g g':Gh}{U:Nat->Option (List AV)}{h h':AH}{w:World}{tm:Tm}{tmps:Array Value}
theorem aR.map {f:AV->AV}(hf:∀v u,bu g v u->bu g' (f v) u):∀{l:List AV} {us:List Value},aR g l us->aR g' (l.map f) us
 |_,_,.nil=>.nil
 |_,_,.cons h t=>.cons (hf _ _ h) (aR.map hf t)
theorem yW {f:AV->AV}(hf:∀v,(f v).isCell=v.isCell)(l:List AV):aO (l.map f)=aO l:=by
 induction l with
 |nil=>rfl
 |cons a l ih=>rw[List.map_cons,bQ,bQ,hf,ih]
theorem aR.split:∀(a:List AV) {b:List AV} {us:List Value},aR g (a++b) us->∃x y,us=x++y/\aR g a x/\aR g b y
 |[],b,us,h=>⟨[],us,rfl,.nil,h⟩
 |a::l,b,us,h=>by
  cases h with
  |cons h t=>obtain⟨x,y,rfl,h1,h2⟩:=aR.split l t;exact⟨_::x,y,rfl,.cons h h1,h2⟩
theorem CK {f:AV->AV}(hf:∀v u,bu g v u->bu g' (f v) u)(hc:∀v,(f v).isCell=v.isCell)(hg:∀v,(f v).isAgg=v.isAgg):∀{es:List AV} {ws:List Value},aO (flat es)=true->aR g (flat es) ws->
  aR g' (flat (es.map f)) ws/\aO (flat (es.map f))=true/\∀e∈es,(f e).cells.length=e.cells.length
 |[],ws,_,h=>⟨by cases h;exact .nil,rfl,fun e he=>by simp at he⟩
 |e::es,ws,ha,h=>by
  rw[bO]at ha h;rw[eY]at ha;simp only[Bool.and_eq_true]at ha;obtain⟨x,y,rfl,h1,h2⟩:=aR.split _ h;obtain⟨r1,r2,r3⟩:=CK hf hc hg (es:=es) ha.2 h2;have key:aR g' (f e).cells x/\aO (f e).cells=true/\(f e).cells.length=e.cells.length:=by
   cases hga:e.isAgg with
   |true=>
    have hga':=hg e;cases e<;>first|(cases hga;done)|skip
    case agg cs=>
     have h1:aR g cs x:=h1;have this:bu g' (f (.agg cs)) (.agg ⟨x⟩):=hf _ _ (bu.agg ha.1 h1);generalize f (.agg cs)=z at this hga';cases z<;>first|(cases hga';done)|skip
     case agg cs'=>
      obtain⟨us,h3,h4,h5⟩:=this.agg_inv;cases h5;exact⟨h4,h3,by show cs'.length=cs.length;rw[h4.length,h1.length]⟩
   |false=>
    have he:e.cells=[e]:=jc hga;rw[he]at h1 ha;have hec:e.isCell=true:=by have:=ha.1;rw[bQ]at this;simp at this;exact this.1
    have hfc:(f e).isCell=true:=by rw[hc];exact hec
    have hfa:(f e).isAgg=false:=by cases hq:f e<;>first|rfl|(rw[hq]at hfc;cases hfc)
    rw[jc hfa,he];cases h1 with
    |cons h3 t=>
     cases t;exact⟨.cons (hf _ _ h3) .nil,by rw[bQ,hfc];rfl,rfl⟩
  rw[List.map_cons,bO];refine⟨key.1.append r1,by rw[eY,key.2.1,r2];rfl,fun e' he'=>?_⟩;cases he' with
  |head=>exact key.2.2
  |tail _ he'=>exact r3 e' he'
theorem zG (s:Sim C g U h w)(base:Nat):∀(n:Nat) {v:AV} {u:Value},bu g v u->bu (g.leave h base w) (frz n h base v) u
 |0,v,u,hv=>hv.mono (s.leave_ext base)
 |n+1,v,u,hv=>by
  have ih:∀v u,bu g v u->bu (g.leave h base w) (frz n h base v) u:=fun v u=>zG s base n
  rw[vC];cases v<;>first|exact hv.mono (s.leave_ext base)|skip
  case agg cs=>
   obtain⟨us,h1,h2,rfl⟩:=hv.agg_inv;show bu _ (.agg (we (frz n h base) cs)) _;rw[rN];exact .agg (by rw[yW (CJ n h base)];exact h1) (h2.map ih)
  case tup cs=>
   obtain⟨us,h2,rfl⟩:=hv.tup_inv;show bu _ (.tup (we (frz n h base) cs)) _;rw[rN];exact .tup (h2.map ih)
  case row k gn sz off m=>
   show bu _ (cond (Nat.ble base k) (jh h (.row k gn sz off m) k gn sz off m (frz n h base)) (.row k gn sz off m)) _;cases hb:Nat.ble base k with
   |false=>exact hv.mono (s.leave_ext base)
   |true=>
    have hb:=eG hb;show bu _ (jh h (.row k gn sz off m) k gn sz off m (frz n h base)) _;rcases frzRow_cases h (.row k gn sz off m) k gn sz off m (frz n h base) with e|⟨agg,cs,fz,es,hg,hch,e⟩
    ·rw[e];exact hv.mono (s.leave_ext base)
    ·rw[e];obtain⟨l,a,hl,hs,hle,hu,ha⟩:=hv.row_inv;obtain⟨l',r1,r2,q1,q2,us,t',q3,q4,q5,q6,q7,q8,q9⟩:=s.obj k _ hg (s.born hl);have r1:g.ρ k gn=some l':=r1;rw[hl]at r1;cases r1;rw[fM]at hch;have hoff:Nat.mul off sz=off*sz:=rfl;rw[hoff]at hch;have ch:=kh hch (du q7 _);have hm:es.length=m:=ch.len;have hfl:aR g (flat es) ((((us.toList.drop l.base).take cs.length).drop (off*sz)).take (m*sz)):=by rw[ch.flat];exact(q6.drop _).take _
     have hfa:aO (flat es)=true:=by rw[ch.flat];exact fw (du q7 _) _
     obtain⟨m1,m2,m3⟩:=CK ih (CJ n h base) (XG n h base) hfa hfl;rcases ha with rfl|⟨rfl,_⟩
     ·rw[hu];refine .ls (sz:=sz) (fun e he=>?_) m2 (by rw[waa];exact hm.symm) (by rw[waa];omega) (fm.mk m1 fun i y hi=>?_)
      ·obtain⟨e',he',rfl⟩:=List.mem_map.1 he;rw[m3 e' he'];exact ch.size e' he'
      ·have hno:¬Bg g h base l.block:=by
        rintro(hlt|⟨k',o',l2,hk',hg',hl2,hbl⟩)
        ·omega
        exact s.sep k k' _ o' l l2 (by omega) hg hg' hl hl2 hbl.symm
       rw[Gh.leave_free hno];refine sj (cs:=cs) (off:=off*sz) q3 i y ?_;rw[List.getElem?_take]at hi;split at hi
       ·exact hi
       ·cases hi
     ·have:es=[]:=List.length_eq_zero_iff.1 hm;subst this;rw[hu];exact .lst0
theorem Ei (r:bF)(l:List bF)(tm:Tm)(h:AH):fF (r::l) tm h=aq (GX r tm h) fun v=>aq (fF l tm h) fun vs=>some (v::vs):=rfl
theorem Tt (s:Sim C g U h w)(ht:eQ g tm tmps):∀{l:List ResultVar} {al:List bF} {vs:List AV},jx (UA C.T) l=some al->fF al tm h=some vs->
  ∃us,(l.mapM (rdV tmps)).run C.P w=.ok us w/\aR g vs us
 |[],al,vs,e,q=>by cases e;cases q;exact⟨[],by simp,.nil⟩
 |r::l,al,vs,e,q=>by
  obtain⟨ar,al',h1,h2,rfl⟩:=bT e;rw[Ei]at q;obtain⟨v,q1,q⟩:=ah q;obtain⟨vs',q2,q⟩:=ah q;cases q;obtain⟨u,a1,a2⟩:=WD s ht h1 q1;obtain⟨us,b1,b2⟩:=Tt s ht h2 q2;exact⟨u::us,by simp[List.mapM_cons,a1,b1],.cons a2 b2⟩
theorem uh (s:Sim C g U h w)(ht:eQ g tm tmps){F:Func}{al:List bF}{vs:List AV}(e:jx (UA C.T) F.results.toList=some al)(q:fF al tm h=some vs):
  ∃u,(results F tmps).run C.P w=.ok u w/\bu g (one vs) u:=by
 obtain⟨us,h1,h2⟩:=Tt s ht e q;have hr:(results F tmps).run C.P w=.ok (if h:(⟨us⟩:Array Value).size=1 then (⟨us⟩:Array Value)[0] else .tuple ⟨us⟩) w:=by
  have:results F tmps=(do let vs <-F.results.mapM (rdV tmps);pure (if h:vs.size=1 then vs[0] else .tuple vs)):=by
   unfold results;congr
  rw[this,Array.mapM_eq_mapM_toList];simp[h1]
 cases h2 with
 |nil=>exact⟨_,hr,.tup .nil⟩
 |cons a t=>cases t with
  |nil=>exact⟨_,hr,a⟩
  |cons b t=>exact⟨_,hr,.tup (.cons a (.cons b t))⟩
end
structure oK (C:Cx)(E:Env):Prop where
 ok:∀f fn,E.cf f=some fn->∃F,C.P.funcs[f]?=some F/\abI C.P C.T C.kw F=some fn/\(F.name == "runtime.NumGoroutine")=false
section
variable {C:Cx}{E:Env}{b:Frame}{K:KK}{g g':Gh}{U:Nat->Option (List AV)}{h h0 h':AH}{w:World}{tm:Tm}{tmps:Array Value}{todo:List Item}{ds:List Deferred}{md:FrameMode}
theorem jP (p:Bool)(h:AH):(lowered p h).z=h.z:=by cases p<;>rfl
theorem Sim.lower (s:Sim C g U h w)(n:Nat):Sim C g U ⟨h.z,n,h.objs⟩ w:=
 ⟨s.frz,s.obj,s.lt,s.unb,s.rlt,s.sep,s.old,s.sz,s.tape,s.os,s.output⟩
theorem Sim.lowered (s:Sim C g U h w)(p:Bool):Sim C g U (lowered p h) w:=by
 cases p with
 |false=>exact s
 |true=>exact s.lower _
theorem CB {p:Bool}(l:Low (lowered p h0) h):Low h0 (lowBack p h0 h):=by
 cases p with
 |false=>exact l
 |true=>
  refine⟨l.z,?_,fun k h1 h2=>?_⟩
  ·show gz h.low h0.low<=h0.low;rw[rM];exact Nat.min_le_right _ _
  ·have h2:k<gz h.low h0.low:=h2;rw[rM]at h2;exact l.get k h1 (Nat.lt_of_lt_of_le h2 (Nat.min_le_left _ _))
theorem Sim.lowBack (s:Sim C g U h w)(p:Bool)(h0:AH):Sim C g U (lowBack p h0 h) w:=by
 cases p with
 |false=>exact s
 |true=>exact s.lower _
theorem XK {call:aG}(hcall:bM C call){F:Func}{fn:tC}{p:Bool}{fr:AF}{m:Md}{nt:Nat}{out:bI}{rc':RC}{g0:Gh}{U0:Nat->Option (List AV)}{kind:CallKind}(hk:b.kind=kind)
  (hF:C.P.funcs[b.fn]?=some F) (hres:jx (UA C.T) F.results.toList=some fn.results) (q:tz call p h0 fn fr m h=some (out,rc',h')) (s0:∀k o,h0.get k=some o->k<h0.z)
  (x0:Ext g0 g) (u0:nO h0.z U0 U) (l0:Low (lowered p h0) h) (s:Sim C g U h w) (f:FR g b K nt fr tmps ds) (hm:ze g m md) (hn:wI todo) (hK:K.cs=K.c0::K.rest) :
  ∃g' U' w',Ext g0 g'/\nO h0.z U0 U'/\Sim C g' U' h' w'/\Low h0 h'/\tR g' K kind rc'/\yE C.P K kind rc' (lone (stM b tmps ds todo md) (eX K fr.cx.rc) w) g' w' out:=by
 subst hk;obtain⟨⟨m1,h1⟩,q1,q⟩:=ah (show aq (jK fr.cx.dfs call m h) _=_ from q);obtain⟨g1,U1,w1,md1,x1,u1,s1,l1,hm1,st1⟩:=rn (b:=b) (tmps:=tmps) (todo:=todo) (cs:=eX K fr.cx.rc) hcall _ q1 s f.hd hm;have lall:Low (lowered p h0) h1:=l0.trans l1;have uall:nO h0.z U0 U1:=u0.trans u1 (by have:=l0.z;rw[jP]at this;exact this);have f1:=f.mono x1;cases hm1 with
 |pan hv=>
  cases q;refine⟨g1,U1,w1,x0.trans x1,uall,s1.lowBack p h0,CB lall,f1.hr,_,hv,fun hkn=>?_⟩;have hrc:=f1.hr;rw[hkn]at hrc;have:=lM hrc;rw[this]at st1 ⊢;have st1:Steps C.P _ (lone _ K.cs w1):=st1;rw[hK]at st1;exact st1.trans (.one (BZ hn))
 |ret=>
  obtain⟨vs,q2,q⟩:=ah (show aq (fF fn.results fr.tm h1) _=_ from q);obtain⟨u,hr,hv⟩:=uh s1 f1.ht hres q2;have st2:=st1.trans (.one (JI hF hr f1.hr hK));have same:some (bI.ret (one vs),fr.cx.rc,lowBack p h0 h1)=some (out,rc',h')->∃g' U' w',Ext g0 g'/\nO h0.z U0 U'/\Sim C g' U' h' w'/\Low h0 h'/\tR g' K b.kind rc'/\yE C.P K b.kind rc' (lone (stM b tmps ds todo md) (eX K fr.cx.rc) w) g' w' out:=by
   intro q;cases q;exact⟨g1,U1,w1,x0.trans x1,uall,s1.lowBack p h0,CB lall,f1.hr,u,hv,st2⟩
  cases p with
  |false=>exact same q
  |true=>
   have q:cond (Nat.ble h0.z h1.low) (some (bI.ret (frz 4 h1 h0.z (one vs)),fr.cx.rc,(⟨h1.z,h0.low,h0.objs⟩:AH))) (some (bI.ret (one vs),fr.cx.rc,(⟨h1.z,gz h1.low h0.low,h1.objs⟩:AH)))=some (out,rc',h'):=q;cases hc:Nat.ble h0.z h1.low with
   |false=>rw[hc]at q;exact same q
   |true=>
    rw[hc]at q;have hc:=eG hc;cases q;have hsame:∀k,k<h0.z->h1.get k=h0.get k:=fun k hk=>lall.get k hk (Nat.lt_of_lt_of_le hk hc)
    have hnx:h0.z<=h1.z:=lall.z;refine⟨g1.leave h1 h0.z w1,_,w1,(x0.trans x1).trans (s1.leave_ext _),?_,s1.leave hnx h0.low s0 hsame,⟨hnx,Fv _,fun _ _ _=>rfl⟩,f1.hr.mono (s1.leave_ext _),u,zG s1 _ 4 hv,st2⟩;exact⟨fun k hk=>by show(if k<h0.z then U1 k else none)=U0 k;rw[wae hk];exact uall.kw k hk⟩
theorem xb {as:List AV}{us:List Value}(h:aR g as us)(n:Nat):eQ g (bn as) ((⟨us⟩:Array Value)++Array.replicate n undef):=by
 intro i;have e1:nth (bn as) i=(as[i]?).getD (.tup []):=by
  unfold nth bn;rw[Tr.get_ofList];cases as[i]?<;>rfl
 rw[e1,Array.getD_eq_getD_getElem?];by_cases hi:i<us.length
 ·have e2:((⟨us⟩:Array Value)++Array.replicate n undef)[i]?=us[i]?:=by
   rw[Array.getElem?_append_left (by simpa using hi)];simp
  rw[e2];have hl:=h.length;obtain⟨y,hy,hr⟩:=h.get (wO (show i<as.length by omega));rw[hy,wO (show i<as.length by omega)];exact hr
 ·have hl:=h.length;rw[List.getElem?_eq_none (by omega)];have e2:(((⟨us⟩:Array Value)++Array.replicate n undef)[i]?).getD undef=undef:=by
   rw[Array.getElem?_append_right (by simpa using hi)];simp only[Array.getElem?_replicate];split<;>rfl
  rw[e2];exact .tup .nil
theorem TG {call:aG}(hcall:bM C call)(hdraw:wV C call)(hE:oK C E){n:Nat}{f:FuncId}{as:List AV}{us:List Value}{rc rc':RC}{out:bI}{kind:CallKind}
  (q:dZ E call n f as rc h=some (out,rc',h')) (s:Sim C g U h w) (ha:aR g as us) (hr:tR g K kind rc) (hK:K.cs=K.c0::K.rest) :
  (callFunc f ⟨us⟩).run C.P w=.ok (.enter f ⟨us⟩) w/\∃g' U' w',Ext g g'/\nO h.z U U'/\Sim C g' U' h' w'/\Low h h'/\tR g' K kind rc'/\
   yE C.P K kind rc' (lone (Frame.enter C.P f ⟨us⟩ kind) (eX K rc) w) g' w' out:=by
 obtain⟨fn,q1,q⟩:=ah (show aq (E.cf f) _=_ from q);obtain⟨F,hF,hc,hname⟩:=hE.ok f fn q1;obtain⟨body,hb,hc⟩:=ah (show aq F.body _=_ from hc);obtain⟨ac,hac,hc⟩:=ah (show aq (jJ body C.P C.T C.kw F.ntmps) _=_ from hc);obtain⟨rs,hrs,hc⟩:=ah hc;cases hc;have hcf:(callFunc f ⟨us⟩).run C.P w=.ok (.enter f ⟨us⟩) w:=by
  have hn2:¬F.name = "runtime.NumGoroutine" :=by intro hq;rw[hq]at hname;simp at hname
  simp[callFunc,hF,hn2,hb]
 refine⟨hcf,?_⟩;obtain⟨⟨e,fr',h1⟩,q2,q⟩:=ah q;have hent:Frame.enter C.P f ⟨us⟩ kind=stF (Frame.enter C.P f ⟨us⟩ kind) ((⟨us⟩:Array Value)++Array.replicate (F.ntmps-us.length) undef) [] [.code body]:=by
  simp[Frame.enter,stF,hF,hb]
 have hfr:FR g (Frame.enter C.P f ⟨us⟩ kind) K F.ntmps ⟨bn as,⟨[],rc,none,f⟩⟩ ((⟨us⟩:Array Value)++Array.replicate (F.ntmps-us.length) undef) []:=by
  refine⟨xb ha _,.nil,hr,?_,rfl,.none⟩;simp;omega
 have G:=rp hcall hdraw n body ac F.ntmps hac (k:=[]) q2 (s.lowered _) hfr;rw[<-hent]at G;obtain⟨g1,U1,w1,tmps1,ds1,x1,u1,s1,l1,f1,o1⟩:=G;rw[jP]at u1;have hfn:C.P.funcs[(Frame.enter C.P f ⟨us⟩ kind).fn]?=some F:=hF;have go:∀(m:Md) (md:FrameMode) (todo:List Item),ze g1 m md->wI todo->tz call (E.pure f) h ⟨F.ntmps,rs,ac⟩ fr' m h1=some (out,rc',h')->
   Steps C.P (lone (Frame.enter C.P f ⟨us⟩ kind) (eX K rc) w) (lone (stM (Frame.enter C.P f ⟨us⟩ kind) tmps1 ds1 todo md) (eX K fr'.cx.rc) w1)->
   ∃g' U' w',Ext g g'/\nO h.z U U'/\Sim C g' U' h' w'/\Low h h'/\tR g' K kind rc'/\yE C.P K kind rc' (lone (Frame.enter C.P f ⟨us⟩ kind) (eX K rc) w) g' w' out:=by
  intro m md todo hm hn q st;obtain⟨g2,U2,w2,a1,a2,a3,a4,a5,a6⟩:=XK (b:=Frame.enter C.P f ⟨us⟩ kind) hcall rfl hfn hrs q s.lt x1 u1 l1 s1 f1 hm hn hK;refine⟨g2,U2,w2,a1,a2,a3,a4,a5,?_⟩;cases out with
  |ret v=>obtain⟨u,b1,b2⟩:=a6;exact⟨u,b1,st.trans b2⟩
  |pan v=>obtain⟨u,b1,b2⟩:=a6;exact⟨u,b1,fun hk=>st.trans (b2 hk)⟩
 cases e with
 |exit id=>cases q
 |normal=>exact go .returning .returning [] .ret trivial q (o1.trans (.one (Ca rfl)))
 |ret=>
  obtain⟨k1,o1⟩:=o1;exact go .returning .returning (.code .ret::k1) .ret trivial q (o1.trans (.one (sW rfl)))
 |panic v=>
  obtain⟨k1,pv,hn,hv,o1⟩:=o1;exact go (.panicking v) _ k1 (.pan hv) hn q o1
end
section
variable {C:Cx}{E:Env}{b:Frame}{K:KK}{g g':Gh}{U:Nat->Option (List AV)}{h h0 h':AH}{w w1:World}{tm:Tm}{tmps:Array Value}{k:List Item}{ds:List Deferred}{cs:List Frame}{c:Frame}{l:Nat}{v:Value}
theorem AR {P:Program}(hro:b.roundOf=some l)(hk:b.kind=.normal)(hr:(Instr.endRound l none).run P w=.ok v w1):
  step P (lone (stF b tmps ds []) (c::cs) w)=.next (lone (c.finish v) cs w1):=
 step_lone_go (by simp[stepG,stepG.exec,stF,hro,hr,doReturn,hk])
theorem AQ {P:Program}(hro:b.roundOf=some l)(hk:b.kind=.normal)(hr:(Instr.endRound l (some .ret)).run P w=.ok v w1):
  step P (lone (stF b tmps ds (.code .ret::k)) (c::cs) w)=.next (lone (c.finish v) cs w1):=
 step_lone_go (by simp[stepG,stepG.exec,stF,hro,hr,doReturn,hk])
theorem yH {P:Program}{id:Nat}(hro:b.roundOf=some l)(hk:b.kind=.normal)(he:exitTo id k=none)(hr:(Instr.endRound l (some (.exit id))).run P w=.ok v w1):
  step P (lone (stF b tmps ds (.code (.exit id)::k)) (c::cs) w)=.next (lone (c.finish v) cs w1):=
 step_lone_go (by simp[stepG,stepG.exec,stF,hro,hr,doReturn,hk,he])
theorem Ng {P:Program}(hro:b.roundOf=some l)(hr:(Instr.beginRound l).run P w=.ok () w1):
  step P (lone (stF b tmps ds (.beginRound::k)) cs w)=.next (lone (stF b tmps ds k) cs w1):=
 step_lone_go (by simp[stepG,stepG.exec,stF,hro,stepG.apply,hr,Frame.finish])
theorem Be (p:Nat)(ps:List Nat)(a:AV)(as:List AV)(tm:Tm):nq (p::ps) (a::as) tm=nq ps as (tm.put p a):=rfl
theorem uj {nt:Nat}: ∀(ps:List Nat) {as:List AV} {us:List Value} {tm:Tm} {tmps:Array Value},ps.length=as.length->aR g as us->ml nt ps=true->nt<=tmps.size->eQ g tm tmps->
  eQ g (nq ps as tm) ((ps.zip us).foldl (fun tmps (p:Nat×Value)=>tmps.setIfInBounds p.1 p.2) tmps)/\nt<=((ps.zip us).foldl (fun tmps (p:Nat×Value)=>tmps.setIfInBounds p.1 p.2) tmps).size
 |[],as,us,tm,tmps,hl,ha,hb,hn,ht=>by simp;exact⟨ht,hn⟩
 |p::ps,as,us,tm,tmps,hl,ha,hb,hn,ht=>by
  cases ha with
  |nil=>simp at hl
  |@cons a u as us h t=>
   obtain⟨h1,h2⟩:=dd (show and (Nat.blt p nt) (ml nt ps)=true from hb);rw[Be];have ht':eQ g (tm.put p a) (tmps.setIfInBounds p u):=eQ.put (d:=some p) ht h1 hn h;have:=uj ps (as:=as) (us:=us) (tm:=tm.put p a) (tmps:=tmps.setIfInBounds p u) (by simpa using hl) t h2 (by simpa using hn) ht';simpa using this
theorem JV {L:Loop}{us:List Value}(e:w.heap[l]?=some (.loop L))(hn:us.length=L.params.size):
  (Instr.yield l ⟨us⟩).run C.P w=.ok (.round l L.fn ((L.params.toList.zip us).foldl (fun tmps (p:Nat×Value)=>tmps.setIfInBounds p.1 p.2) L.tmps) L.assign L.body) w:=by
 have e1:=jr (C:=C) e;have e2:(L.params.zip (⟨us⟩:Array Value)).foldl (fun tmps (p:Nat×Value)=>tmps.setIfInBounds p.1 p.2) L.tmps=(L.params.toList.zip us).foldl (fun tmps (p:Nat×Value)=>tmps.setIfInBounds p.1 p.2) L.tmps:=by
  rw[<-Array.foldl_toList];simp
 have hsz:(L.params.zip (⟨us⟩:Array Value)).size=L.params.size:=by simp[hn]
 simp[Instr.yield,e1,hn];rw[<-e2,hsz]
theorem zB (s:Sim C g U h w){j:Nat}{lc:Loc}{st:LoopState}{pend:Option AEx}{tm0:Tm}{ps:List Nat}{as bd:aw}{f:FuncId}(hl:g.ρ j 0=some lc)(hg:h.get j=some (.loop st pend tm0 ps as bd f)):
  ∃L,w.heap[lc.block]?=some (.loop L)/\Hv C g st pend tm0 ps as bd f L:=by
 obtain⟨lc',h1,_,L0,h2,hL⟩:=s.obj j _ hg (s.born hl);have h1:g.ρ j 0=some lc':=h1;rw[hl]at h1;cases h1;exact⟨L0,h2,hL⟩
theorem CC (s:Sim C g U h w){j:Nat}{lc:Loc}{st st':LoopState}{pend pend':Option AEx}{tm0:Tm}{ps:List Nat}{as bd:aw}{f:FuncId}{L:Loop}{pd:Option Code}(hl:g.ρ j 0=some lc)
  (hg:h.get j=some (.loop st pend tm0 ps as bd f)) (e:w.heap[lc.block]?=some (.loop L)) (hL:Hv C g st pend tm0 ps as bd f L) (hp:MN pend' pd) :
  Sim C g U (h.set j (.loop st' pend' tm0 ps as bd f)) (setBlk w lc.block (.loop {L with state:=st',pending:=pd})):=by
 have hlt:lc.block<w.heap.size:=(Array.getElem?_eq_some_iff.1 e).1;refine s.put hg (s.born hl) hl rfl ⟨_,eK hlt,?_⟩ (fun i v x=>?_)
 ·exact⟨rfl,hp,hL.htm,hL.hps,hL.hfn,hL.hcode⟩
 ·have:=s.frz _ _ _ x;unfold World.cell? at this;simp[e]at this
theorem JY {L:Loop}(e:w.heap[l]?=some (.loop L))(hs:L.state=.ready):(Instr.beginRound l).run C.P w=.ok () (setBlk w l (.loop {L with state:=.busy})):=by
 have e1:=jr (C:=C) e;have e2:=iV (C:=C) (ob':=.loop {L with state:=.busy}) e (by intros;simp);simp[Instr.beginRound,e1,e2,hs]
theorem yM {L:Loop}(e:w.heap[l]?=some (.loop L))(jump:Option Code):
  (Instr.endRound l jump).run C.P w=.ok (.bool jump.isNone) (setBlk w l (.loop {L with state:=if jump.isNone then .ready else .done,pending:=jump})):=by
 have e1:=jr (C:=C) e;have e2:=iV (C:=C) (ob':=.loop {L with state:=if jump.isNone then .ready else .done,pending:=jump}) e (by intros;simp);cases jump<;>(simp at e2;simp[Instr.endRound,e1,e2])
theorem AL {j:Nat}{st':LoopState}{pend':Option AEx}(q:kB h j st' pend'=some h'):∃st pend tm0 ps as bd f,h.get j=some (.loop st pend tm0 ps as bd f)/\h'=h.set j (.loop st' pend' tm0 ps as bd f):=by
 obtain⟨o,hg,q⟩:=ah (show aq (h.get j) _=_ from q);cases o with
 |loop st pend tm0 ps as bd f=>cases q;exact⟨_,_,_,_,_,_,_,hg,rfl⟩
 |_=>cases q
theorem Hy {call:aG}(hcall:bM C call)(hdraw:wV C call){n j:Nat}{lc:Loc}{args:List AV}{us:List Value}{out:bI}{rc':RC}(q:nG call n j args h=some (out,rc',h'))
  (s:Sim C g U h w) (hl:g.ρ j 0=some lc) (ha:aR g args us) (hK:K.cs=K.c0::K.rest) :
  ∃ff ts x y,(Instr.yield lc.block ⟨us⟩).run C.P w=.ok (.round lc.block ff ts x y) w/\∃g' U' w',Ext g g'/\nO h.z U U'/\Sim C g' U' h' w'/\Low h h'/\tR g' K .normal rc'/\
   yE C.P K .normal rc' (lone (Frame.round lc.block ff ts x y .normal) (eX K .no) w) g' w' out:=by
 obtain⟨o,hg,q⟩:=ah (show aq (h.get j) _=_ from q);cases o with
 |loop st pend tm0 ps as bd f=>
  obtain⟨hlen,q⟩:=aH (show cond (Nat.beq (len args) (len ps)) (zf call n j bd (evCode as call n ⟨nq ps args tm0,⟨[],.no,some j,f⟩⟩ h)) none=some (out,rc',h') from q);have hlen:=beq_eq hlen;rw[bH,bH]at hlen;obtain⟨L,e,hL⟩:=zB s hl hg;obtain⟨nt,hnt,hca,hcb,hbk⟩:=hL.hcode;have hps:=hL.hps;have hul:us.length=L.params.size:=by rw[<-ha.length,hlen,<-hps];simp
  obtain⟨ht,hn⟩:=uj (nt:=nt) ps (as:=args) (us:=us) (tm:=tm0) (tmps:=L.tmps) hlen.symm ha hbk hnt hL.htm;refine⟨_,_,_,_,JV e hul,?_⟩;rw[hps];generalize (ps.zip us).foldl (fun tmps (p:Nat×Value)=>tmps.setIfInBounds p.1 p.2) L.tmps=ts at ht hn;obtain⟨b,hb⟩:∃b,b=Frame.round lc.block L.fn ts L.assign L.body .normal:=⟨_,rfl⟩
  have hst:Frame.round lc.block L.fn ts L.assign L.body .normal=stF b ts [] (.code L.assign :: [.beginRound,.code L.body]):=by subst hb;rfl
  have hro:b.roundOf=some lc.block:=by subst hb;rfl
  have hkd:b.kind=.normal:=by subst hb;rfl
  rw[hst];have hfr:FR g b K nt ⟨nq ps args tm0,⟨[],.no,some j,f⟩⟩ ts []:=⟨ht,.nil,hkd,hn,by subst hb;exact hL.hfn.symm,by rw[hro];exact .some hl⟩;obtain⟨⟨e1,fr1,h1⟩,q1,q⟩:=ah (show aq (evCode as call n ⟨nq ps args tm0,⟨[],.no,some j,f⟩⟩ h) _=_ from q);obtain⟨hnorm,q⟩:=aH (show cond (CG e1) _ none=_ from q);cases e1<;>first|(cases hnorm;done)|skip
  obtain⟨g1,U1,w1,t1,d1,x1,u1,s1,l1,f1,o1⟩:=rp hcall hdraw n L.assign as nt hca (k:=[.beginRound,.code L.body]) q1 s hfr;obtain⟨h2,q2,q⟩:=ah q;obtain⟨o2,hg2,q2⟩:=ah (show aq (h1.get j) _=_ from q2);cases o2 with
  |loop st2 pend2 tm2 ps2 as2 bd2 f2=>
   obtain⟨hrd,q2⟩:=aH (show cond (IF st2) (some (h1.set j (.loop .busy pend2 tm2 ps2 as2 bd2 f2))) none=some h2 from q2);cases q2;have hl1:=x1.ρ _ _ _ hl;obtain⟨L2,e2,hL2⟩:=zB s1 hl1 hg2;have hst2:L2.state=.ready:=by rw[hL2.hst];cases st2<;>first|rfl|cases hrd
   have s2:Sim C g1 U1 (h1.set j (.loop .busy pend2 tm2 ps2 as2 bd2 f2)) (setBlk w1 lc.block (.loop {L2 with state:=.busy})):=CC s1 hl1 hg2 e2 hL2 hL2.hpend;have o2:=Steps.trans (show Steps C.P _ _ from o1) (.one (Ng hro (JY (C:=C) e2 hst2)));obtain⟨⟨e3,fr3,h3⟩,q3,q⟩:=ah q;obtain⟨hnil,q⟩:=aH (show cond (Zn fr3.cx.dfs) (ZA e3 j h3) none=_ from q);obtain⟨g3,U3,w3,t3,d3,x3,u3,s3,l3,f3,o3⟩:=rp hcall hdraw n L.body bd nt hcb (k:=[]) q3 s2 f1;have xx:=x1.trans x3;have ll:Low h h3:=(l1.trans (Low.set _ _ _)).trans l3;have uu:nO h.z U U3:=u1.trans u3 (by rw[AH.co];exact l1.z);have hl3:=xx.ρ _ _ _ hl;have hrc3:fr3.cx.rc=.no:=lM (by have:=f3.hr;rw[hkd]at this;exact this);have fin:∀(jump:Option Code) (pd:Option AEx),MN pd jump->wA jump.isNone (kB h3 j (if jump.isNone then .ready else .done) pd)=some (out,rc',h')->
     (∀v w',(Instr.endRound lc.block jump).run C.P w3=.ok v w'->Steps C.P (lone (stF b ts [] (.code L.assign :: [.beginRound,.code L.body])) (eX K .no) w) (lone (K.c0.finish v) K.rest w'))->
     ∃g' U' w',Ext g g'/\nO h.z U U'/\Sim C g' U' h' w'/\Low h h'/\tR g' K .normal rc'/\yE C.P K .normal rc' (lone (stF b ts [] (.code L.assign :: [.beginRound,.code L.body])) (eX K .no) w) g' w' out:=by
    intro jump pd hp q hs;obtain⟨h4,q4,q⟩:=ah (show aq (kB h3 j (if jump.isNone then .ready else .done) pd) _=_ from q);cases q;obtain⟨st4,pend4,tm4,ps4,as4,bd4,f4,hg4,rfl⟩:=AL q4;obtain⟨L4,e4,hL4⟩:=zB s3 hl3 hg4;have hrun:=yM (C:=C) e4 jump;exact⟨g3,U3,_,xx,uu,CC s3 hl3 hg4 e4 hL4 hp,ll.trans (Low.set _ _ _),rfl,_,.bool _,hs _ _ hrun⟩
   cases e3 with
   |normal=>
    refine fin none none .none q fun v w' hr=>?_
    have o3:Steps C.P _ (lone (stF b t3 d3 []) (eX K fr3.cx.rc) w3):=o3;rw[hrc3,show eX K .no=K.c0::K.rest from hK]at o3;exact o2.trans (o3.trans (.one (AR hro hkd hr)))
   |ret=>
    refine fin (some .ret) (some .ret) .ret q fun v w' hr=>?_
    obtain⟨k1,o3⟩:=o3;rw[hrc3,show eX K .no=K.c0::K.rest from hK]at o3;exact o2.trans (o3.trans (.one (AQ hro hkd hr)))
   |exit id=>
    refine fin (some (.exit id)) (some (.exit id)) (.exit id) q fun v w' hr=>?_
    obtain⟨k1,hk1,o3⟩:=o3;rw[hrc3,show eX K .no=K.c0::K.rest from hK]at o3;exact o2.trans (o3.trans (.one (yH hro hkd hk1 hr)))
   |panic v=>
    cases q;obtain⟨k1,pv,hnc,hv,o3⟩:=o3;rw[hrc3,show eX K .no=K.c0::K.rest from hK]at o3;have hds:d3=[]:=by
     have hd:=f3.hd;cases hdf:fr3.cx.dfs with
     |nil=>rw[hdf]at hd;cases hd;rfl
     |cons a t=>rw[hdf]at hnil;cases hnil
    subst hds;refine⟨g3,U3,w3,xx,uu,s3,ll,rfl,pv,hv,fun _=>?_⟩;exact o2.trans (o3.trans (.one (BZ hnc)))
  |_=>cases q2
 |_=>cases q
theorem IU (hE:oK C E)(hD:∀call,bM C call->wV C call):∀n,bM C (evCall E n)
 |0=>by intro f args rc h out rc' h' q;cases q
 |n+1=>by
  have hcall:=IU hE hD n;have hdraw:=hD _ hcall;intro f args rc h out rc' h' q g U w fv us K kind s hf ha hr hK;replace q:vX f E (evCall E n) n args rc h=some (out,rc',h'):=q;cases f<;>first|(cases q;done)|skip
  case fn fi first caps=>
   obtain⟨x,y,hx,hy,rfl⟩:=hf.fn_inv;have q:dZ E (evCall E n) n fi (app first (app args caps)) rc h=some (out,rc',h'):=q;rw[fk,fk]at q;obtain⟨h1,h2⟩:=TG (K:=K) hcall hdraw hE q s (hx.append (ha.append hy)) hr hK;refine⟨_,Frame.enter C.P fi ⟨x++(us++y)⟩ kind,fun w=>mw (C:=C) (.fn hx hy) rfl w,.inl ⟨fi,⟨x++(us++y)⟩,?_,rfl⟩,h2⟩;have:(⟨x++us⟩:Array Value)++(⟨y⟩:Array Value)=⟨x++(us++y)⟩:=by apply Array.ext';simp
   show(callFunc fi ((⟨x++us⟩:Array Value)++(⟨y⟩:Array Value))).run C.P w=_;rw[this];exact h1
  case yld j=>
   obtain⟨lc,hl,rfl⟩:=hf.yld_inv;obtain⟨hrc,q⟩:=aH (show cond (aeM rc) (nG (evCall E n) n j args h) none=some (out,rc',h') from q);cases rc<;>first|(cases hrc;done)|skip
   have hk:kind=.normal:=hr;subst hk;obtain⟨ff,ts,xx,yy,h1,h2⟩:=Hy (K:=K) hcall hdraw q s hl ha hK;refine⟨{target:=.fn (.yield lc.block) #[],args:=⟨us⟩},Frame.round lc.block ff ts xx yy .normal,fun w=>by simp[Deferred.ofValue],.inr ⟨rfl,lc.block,ff,ts,xx,yy,?_,rfl⟩,h2⟩;show(Instr.yield lc.block ⟨us⟩).run C.P w=_;exact h1
end
