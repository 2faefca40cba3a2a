/- AbsGo: the walk of the machine: one operation (no condition). -/
import Derived.Test.YtocdlbblemjabaaGreatDoorAj
namespace Go.AG
def rh:OpR->Bool
 |.val _ _=>true
 |.bad=>true
 |_=>false
theorem fZ (r:Option AV)(h:AH):rh (okV r h)=true:=by cases r<;>rfl
theorem Ie (r:Option AH):rh (okH r)=true:=by cases r<;>rfl
theorem vK (r:Option (AV×AH)):rh (qG r)=true:=by cases r<;>rfl
theorem Bd {l:List AV}{k:AV->OpR}(h:∀ x,rh (k x)=true):rh (Fx l OpR.bad k)=true:=by
 cases l with
 |nil=>rfl
 |cons x l=>cases l with
  |nil=>exact h x
  |cons y l=>rfl
theorem OA {l:List AV}{k:AV->AV->OpR}(h:∀ x y,rh (k x y)=true):rh (ZM l OpR.bad k)=true:=by
 cases l with
 |nil=>rfl
 |cons x l=>exact Bd (h x)
def AOp.odd:AOp->Bool
 |.call _ _|.defer _ _|.panic _|.builtin .recover _=>true
 |_=>false
theorem sK {aop:AOp}(tm:Tm)(h:AH)(ho:aop.odd=false):rh (evOp aop tm h)=true:=by
 cases aop with
 |mv x=>rfl
 |pick c a b=>show rh (oe (ev c tm) h (ev a tm) (ev b tm))=true;cases ev c tm<;>rfl
 |new z=>rfl
 |box n x=>show rh (dB h n (ev x tm))=true;unfold dB;cases and _ _<;>rfl
 |build z ps=>show rh (bT h z _)=true;unfold bT;cases fillA _ _<;>rfl
 |lit f a s z n ps=>
  show rh (fY f a s z n _ h)=true;unfold fY;cases fillA _ _ with
  |none=>rfl
  |some cs=>cases f with
   |false=>rfl
   |true=>show rh (Option.casesOn (chunk a s n cs) _ _)=true;cases chunk a s n cs<;>rfl
 |load a s x=>exact fZ _ _
 |store s a x=>exact Ie _
 |nilChk x=>show rh (iK (ev x tm) h)=true;cases ev x tm<;>rfl
 |bin op e x y=>exact fZ _ _
 |un op x=>exact fZ _ _
 |convInt k x=>exact fZ _ _
 |convId x=>exact fZ _ _
 |mkIface t x=>rfl
 |mkFn f a b=>rfl
 |mkMap=>rfl
 |mkSlice a s b z l c=>exact vK _
 |slice str s x lo hi mx=>show rh (cond str _ _)=true;cases str;exact vK _;exact fZ _ _
 |faddr o s a x=>show rh (cp (ev x tm) h o s a)=true;cases ev x tm<;>first|rfl|exact fZ _ _
 |field o s a x=>exact fZ _ _
 |iaddr s x i=>show rh (cz (ev x tm) h s (ev i tm))=true;cases ev x tm<;>first|rfl|exact fZ _ _
 |iaddrA n s a x i=>
  show rh (Option.casesOn (asIdx (ev i tm) n) .bad fun n=>fV (ev x tm) h n s a)=true;cases asIdx (ev i tm) n with
  |none=>rfl
  |some n=>show rh (fV (ev x tm) h n s a)=true;cases ev x tm<;>first|rfl|exact fZ _ _
 |strIdx x i=>exact fZ _ _
 |arrIdx n s a x i=>exact fZ _ _
 |lookup t z x i ok=>exact fZ _ _
 |mapUp t m k v=>exact Ie _
 |assert t z x ok=>exact fZ _ _
 |extract x i=>exact fZ _ _
 |builtin b args=>
  cases b with
  |len k=>exact Bd fun _=>fZ _ _
  |append a b c d=>exact OA fun _ _=>vK _
  |copy a b=>exact OA fun _ _=>vK _
  |clear a b=>exact Bd fun _=>Ie _
  |max=>exact fZ _ _
  |min=>exact fZ _ _
  |recover=>cases ho
 |call f l=>cases ho
 |defer f l=>cases ho
 |panic x=>cases ho
theorem Se {aop:AOp}{tm:Tm}{h:AH}{f:AV}{as:List AV}(e:evOp aop tm h=.call f as):∃ x xs,aop=.call x xs/\f=ev x tm/\as=evs xs tm:=by
 cases ho:aop.odd with
 |false=>have:=sK tm h ho;rw[e]at this;cases this
 |true=>
  cases aop<;>first|(cases ho;done)|skip
  case call x xs=>cases e;exact⟨_,_,rfl,rfl,rfl⟩
  case defer x xs=>cases e
  case panic x=>have e:jv (ev x tm)=_:=e;cases hx:ev x tm<;>rw[hx]at e<;>cases e
  case builtin b xs=>cases b<;>first|(cases ho;done)|cases e
theorem VU {aop:AOp}{tm:Tm}{h:AH}{f:AV}{as:List AV}(e:evOp aop tm h=.dfr f as):∃ x xs,aop=.defer x xs/\f=ev x tm/\as=evs xs tm:=by
 cases ho:aop.odd with
 |false=>have:=sK tm h ho;rw[e]at this;cases this
 |true=>
  cases aop<;>first|(cases ho;done)|skip
  case call x xs=>cases e
  case defer x xs=>cases e;exact⟨_,_,rfl,rfl,rfl⟩
  case panic x=>have e:jv (ev x tm)=_:=e;cases hx:ev x tm<;>rw[hx]at e<;>cases e
  case builtin b xs=>cases b<;>first|(cases ho;done)|cases e
theorem VR {aop:AOp}{tm:Tm}{h:AH}(e:evOp aop tm h=.rcv):∃ xs,aop=.builtin .recover xs:=by
 cases ho:aop.odd with
 |false=>have:=sK tm h ho;rw[e]at this;cases this
 |true=>
  cases aop<;>first|(cases ho;done)|skip
  case call x xs=>cases e
  case defer x xs=>cases e
  case panic x=>have e:jv (ev x tm)=_:=e;cases hx:ev x tm<;>rw[hx]at e<;>cases e
  case builtin b xs=>cases b<;>first|(cases ho;done)|exact⟨_,rfl⟩
theorem VT {aop:AOp}{tm:Tm}{h:AH}{v:AV}(e:evOp aop tm h=.pan v):∃ x t y,aop=.panic x/\ev x tm=.ifc t y/\v=.ifc t y:=by
 cases ho:aop.odd with
 |false=>have:=sK tm h ho;rw[e]at this;cases this
 |true=>
  cases aop<;>first|(cases ho;done)|skip
  case call x xs=>cases e
  case defer x xs=>cases e
  case panic x=>
   have e:jv (ev x tm)=_:=e;cases hx:ev x tm<;>rw[hx]at e<;>first|(cases e;done)|skip
   cases e;exact⟨x,_,_,rfl,hx,rfl⟩
  case builtin b xs=>cases b<;>first|(cases ho;done)|cases e
def Okd {α:Type}(p:α->Prop)(o:Option α):Prop:=∀ a,o=some a->p a
theorem Okd.bind {α β:Type}{p:β->Prop}{o:Option α}{k:α->Option β}(h:∀ a,Okd p (k a)):Okd p (aD o k):=fun b e=>by
 obtain⟨a,_,e⟩:=aA e;exact h a b e
theorem Okd.cond {α:Type}{p:α->Prop}{c:Bool}{x:Option α}(h:Okd p x):Okd p (bif c then x else none):=fun b e=>h b (aN e).2
theorem Okd.cond' {α:Type}{p:α->Prop}{c:Bool}{x:Option α}(h:Okd p x):Okd p (bif c then none else x):=fun b e=>h b (fO e).2
theorem Okd.some {α:Type}{p:α->Prop}{a:α}(h:p a):Okd p (some a):=fun b e=>by cases e;exact h
theorem Okd.none {α:Type}{p:α->Prop}: Okd p (none:Option α):=fun b e=>by cases e
def AOp.kd:AOp->Nat
 |.call _ _=>1
 |.defer _ _=>2
 |.panic _=>3
 |.builtin .recover _=>4
 |_=>0
def _root_.Go.Op.kd:Op->Nat
 |.call c=>match c.callee with
  |.value _=>1
  |.builtin .recover=>4
  |_=>0
 |.defer _=>2
 |.panic _=>3
 |_=>0
theorem tW (b:Builtin)(T:Tr TypeInfo)(tys:Array TypeId)(l:List AX):Okd (fun a=>a.kd=match b with|.recover=>4|_=>0) (rW b T tys l):=by
 cases b<;>first
  |exact .none
  |exact .some rfl
  |(refine Okd.bind fun _=>?_;exact .some rfl)
  |(refine Okd.bind fun _=>?_;refine Okd.bind fun _=>?_;refine Okd.bind fun _=>?_;exact .some rfl)
  |(refine Okd.bind fun _=>?_;refine Okd.bind fun _=>?_;refine Okd.bind fun _=>?_;refine Okd.bind fun _=>?_;refine Okd.bind fun _=>?_;refine Okd.cond ?_;exact .some rfl)
  |(refine Okd.bind fun _=>?_;refine Okd.bind fun _=>?_;refine Okd.bind fun _=>?_;refine Okd.cond ?_;exact .some rfl)
theorem xT (op:Op)(P:Program)(T:Tr TypeInfo)(keep:TypeId->Bool):Okd (fun a=>a.kd=op.kd) (cOp op P T keep):=by
 cases op with
 |move x=>exact Okd.bind fun _=>.some rfl
 |assign x=>exact Okd.bind fun _=>.some rfl
 |pick a b c=>exact Okd.bind fun _=>.bind fun _=>.bind fun _=>.some rfl
 |alloc t=>exact Okd.bind fun _=>.some rfl
 |box t x=>exact Okd.bind fun _=>.bind fun _=>.some rfl
 |build t ps=>
  refine Okd.bind fun _=>.bind fun d=>?_
  cases d<;>first|exact .none|exact Okd.bind fun _=>.bind fun _=>.some rfl
 |buildSlice t n ps=>exact Okd.bind fun _=>.bind fun _=>.bind fun _=>.bind fun _=>.cond (.some rfl)
 |load t x=>exact Okd.bind fun _=>.bind fun _=>.cond (.some rfl)
 |store t a x=>exact Okd.bind fun _=>.bind fun _=>.bind fun _=>.some rfl
 |nilCheck x=>exact Okd.bind fun _=>.some rfl
 |binOp op t x y t'=>exact Okd.bind fun _=>.bind fun _=>.bind fun _=>.some rfl
 |unOp op t x=>exact Okd.bind fun _=>.some rfl
 |convert t t' x=>
  refine Okd.bind fun d=>.bind fun d'=>.bind fun _=>?_
  cases d with
  |int k=>exact Okd.bind fun _=>.some rfl
  |string=>cases d'<;>first|exact .none|exact .some rfl
  |_=>exact .none
 |makeInterface t x=>exact Okd.bind fun _=>.cond' (.bind fun _=>.some rfl)
 |makeFunc f a b=>cases f<;>first|exact .none|exact Okd.bind fun _=>.bind fun _=>.some rfl
 |makeMap t r=>cases r with
  |none=>exact .some rfl
  |some r=>exact .none
 |makeSlice t l c=>exact Okd.bind fun _=>.bind fun _=>.bind fun _=>.bind fun _=>.bind fun _=>.bind fun _=>.cond (.some rfl)
 |slice t x lo hi mx=>
  refine Okd.bind fun _=>.bind fun _=>.bind fun _=>.bind fun mx=>.bind fun d=>?_
  cases d with
  |slice e=>exact Okd.bind fun _=>.cond (.some rfl)
  |string=>cases mx with
   |none=>exact .some rfl
   |some m=>exact .none
  |_=>exact .none
 |fieldAddr t x f=>exact Okd.bind fun _=>.bind fun _=>.some rfl
 |field t x f=>exact Okd.bind fun _=>.bind fun _=>.some rfl
 |indexAddr t x i=>
  refine Okd.bind fun _=>.bind fun _=>.bind fun d=>?_
  cases d<;>first|exact .none|exact Okd.bind fun _=>.some rfl
 |index t x i=>
  refine Okd.bind fun _=>.bind fun _=>.bind fun d=>?_
  cases d<;>first|exact .none|exact .some rfl|exact Okd.bind fun _=>.some rfl
 |lookup t x i ok=>exact Okd.bind fun _=>.bind fun _=>.bind fun _=>.bind fun _=>.some rfl
 |mapUpdate t m k v=>exact Okd.bind fun _=>.bind fun _=>.bind fun _=>.bind fun _=>.some rfl
 |typeAssert x t t' ok=>exact Okd.bind fun _=>.cond' (.bind fun _=>.bind fun _=>.some rfl)
 |extract x i=>exact Okd.bind fun _=>.some rfl
 |call c=>
  refine Okd.bind fun l=>?_
  obtain⟨cc,args,tys⟩:=c;cases cc with
  |value f=>exact Okd.bind fun _=>.some rfl
  |invoke a b=>exact .none
  |builtin b=>
   intro a e;have:=tW b T tys l a e;rw[this];cases b<;>rfl
 |defer c=>
  refine Okd.bind fun l=>?_
  obtain⟨cc,args,tys⟩:=c;cases cc with
  |value f=>exact Okd.bind fun _=>.some rfl
  |_=>exact .none
 |panic x=>exact Okd.bind fun _=>.some rfl
 |_=>exact .none
section
variable {op:Op}{P:Program}{T:Tr TypeInfo}{keep:TypeId->Bool}{x:AX}{xs:List AX}
theorem Wy (hc:cOp op P T keep=some (.call x xs)):∃ c f,op=.call c/\c.callee=.value f/\cX f=some x/\cXs c.args=some xs:=by
 have hk:1=op.kd:=xT op P T keep _ hc;cases op with
 |call c=>
  obtain⟨args,h1,hc⟩:=aA (show aD (cXs c.args) _=_ from hc);cases hcc:c.callee with
  |value f=>
   rw[hcc]at hc;obtain⟨af,h2,hc⟩:=aA (show aD (cX f) _=_ from hc);cases hc;exact⟨c,f,rfl,hcc,h2,h1⟩
  |invoke a b=>rw[hcc]at hc;cases hc
  |builtin b=>
   rw[hcc]at hc;have:=tW b T c.argTypes args _ hc;cases b<;>cases this
 |_=>cases hk
theorem SJ (hc:cOp op P T keep=some (.defer x xs)):∃ c f,op=.defer c/\c.callee=.value f/\cX f=some x/\cXs c.args=some xs:=by
 have hk:2=op.kd:=xT op P T keep _ hc;cases op with
 |call c=>exfalso;revert hk;simp only[Op.kd];split<;>simp
 |defer c=>
  obtain⟨args,h1,hc⟩:=aA (show aD (cXs c.args) _=_ from hc);cases hcc:c.callee with
  |value f=>
   rw[hcc]at hc;obtain⟨af,h2,hc⟩:=aA (show aD (cX f) _=_ from hc);cases hc;exact⟨c,f,rfl,hcc,h2,h1⟩
  |invoke a b=>rw[hcc]at hc;cases hc
  |builtin b=>rw[hcc]at hc;cases hc
 |_=>cases hk
theorem SI (hc:cOp op P T keep=some (.panic x)):∃ y,op=.panic y/\cX y=some x:=by
 have hk:3=op.kd:=xT op P T keep _ hc;cases op with
 |call c=>exfalso;revert hk;simp only[Op.kd];split<;>simp
 |panic y=>
  obtain⟨ax,h1,hc⟩:=aA (show aD (cX y) _=_ from hc);cases hc;exact⟨y,rfl,h1⟩
 |_=>cases hk
theorem CV (hc:cOp op P T keep=some (.builtin .recover xs)):∃ c,op=.call c/\c.callee=.builtin .recover:=by
 have hk:4=op.kd:=xT op P T keep _ hc;cases op with
 |call c=>
  refine⟨c,rfl,?_⟩;revert hk;simp only[Op.kd];split
  ·simp
  ·intro _;assumption
  ·simp
 |_=>cases hk
theorem VF {aop:AOp}(hc:cOp op P T keep=some aop)(h:aop.kd≠2)(c:Call):op≠.defer c:=by
 rintro rfl;exact h (xT _ P T keep _ hc)
end
def IA (P:Program)(d:Deferred)(kind:CallKind)(w:World)(fr:Frame):Prop:=
 (∃ f as,(invoke d.target d.args).run P w=.ok (.enter f as) w/\fr=Frame.enter P f as kind)∨
 (kind=.normal/\∃ l f ts x y,(invoke d.target d.args).run P w=.ok (.round l f ts x y) w/\fr=Frame.round l f ts x y kind)
def xj (P:Program)(K:KK)(kind:CallKind)(rc:RC)(m:Machine)(g:Gh)(w:World):dH->Prop
 |.ret v=>∃ u,bA g v u/\Steps P m (lone (xi K u rc) K.rest w)
 |.pan v=>∃ pv,bA g v pv/\(kind=.normal->Steps P m (lone (K.c0.raise [ent pv false]) K.rest w))
def cK (C:Cx)(call:aQ):Prop:=
 ∀ f args rc h out rc' h',call f args rc h=some (out,rc',h')->∀ g U w fv us K kind,Sim C g U h w->bA g f fv->aY g args us->ub g K kind rc->K.cs=K.c0::K.rest->
  ∃ d fr0,(∀ w,(Deferred.ofValue fv ⟨us⟩).run C.P w=.ok d w)/\IA C.P d kind w fr0/\∃ g' U' w',Ext g g'/\nX h.z U U'/\Sim C g' U' h' w'/\Low h h'/\ub g' K kind rc'/\
   xj C.P K kind rc' (lone fr0 (ei K rc) w) g' w' out
section
variable {C:Cx}{b:Frame}{K:KK}{nt:Nat}{k:List Item}{m m1:Machine}{g g1:Gh}{U U1:Nat->Option (List AV)}{h h1 h':AH}{e:AEx}{fr fr':AF}{w:World}{tmps:Array Value}{ds:List Deferred}
theorem vM (tm:Tm)(d:Nat)(v:AV)(i:Nat):nth (tm.put d v) i=if i=d then v else nth tm i:=by
 unfold nth;rw[Tr.get_put];split<;>rfl
theorem ep.put {tm:Tm}{d:Option Nat}{v:AV}{u:Value}(ht:ep g tm tmps)(hd:TO d nt=true)(hn:nt<=tmps.size)(hv:bA g v u):ep g (ez d tm v) (rf d tmps u):=by
 cases d with
 |none=>exact ht
 |some d=>
  have hd:d<tmps.size:=Nat.lt_of_lt_of_le (iF hd) hn;intro i;show bA g (nth (tm.put d v) i) ((tmps.setIfInBounds d u).getD i undef);rw[vM];by_cases hi:i=d
  ·subst hi;simp[hd,hv]
  ·have hi':¬ d=i:=fun q=>hi q.symm
   have e:(tmps.setIfInBounds d u).getD i undef=tmps.getD i undef:=by simp[Array.getD_eq_getD_getElem?,hi']
   rw[e];simp only[hi,if_false];exact ht i
theorem tf (d:Option Tmp)(tmps:Array Value)(u:Value):(rf d tmps u).size=tmps.size:=by
 cases d<;>simp[rf]
theorem kx (fr:AF)(d:Option Nat)(v:AV):(fr.put d v).cx=fr.cx:=by cases fr;rfl
theorem xI (fr:AF)(d:Option Nat)(v:AV):(fr.put d v).tm=ez d fr.tm v:=by cases fr;rfl
theorem FR.put {d:Option Nat}{v:AV}{u:Value}(f:FR g b K nt fr tmps ds)(hd:TO d nt=true)(hv:bA g v u):FR g b K nt (fr.put d v) (rf d tmps u) ds:=by
 refine⟨?_,?_,?_,?_,?_,?_⟩
 ·rw[xI];exact f.ht.put hd f.hn hv
 ·rw[kx];exact f.hd
 ·rw[kx];exact f.hr
 ·rw[tf];exact f.hn
 ·rw[kx];exact f.hf
 ·rw[kx];exact f.ho
structure uf (C:Cx)(nt:Nat)(ops:List Oper)(o:Oper)(ao:aV):Prop where
 hop:cOp o.op C.P C.T C.kw=some ao.op
 hdst:ao.dst=o.dst
 hok:TO o.dst nt=true
 hg:(o.guard=none/\ao.guard=none)∨∃ j w oj t,o.guard=some (j,w)/\ops[j]?=some oj/\oj.dst=some t/\ao.guard=some (t,w)
theorem yX {ops:List Oper}{o:Oper}{ao:aV}(hc:zm C.P C.T C.kw nt ops o=some ao):uf C nt ops o ao:=by
 obtain⟨op,h1,hc⟩:=aA (show aD (cOp o.op C.P C.T C.kw) _=_ from hc);obtain⟨h2,hc⟩:=aN hc;cases hg:o.guard with
 |none=>rw[hg]at hc;cases hc;exact⟨h1,rfl,h2,.inl ⟨hg,rfl⟩⟩
 |some p=>
  obtain⟨j,w⟩:=p;rw[hg]at hc;obtain⟨oj,h3,hc⟩:=aA (show aD ops[j]? _=_ from hc);obtain⟨t,h4,hc⟩:=aA hc;cases hc;exact⟨h1,rfl,h2,.inr ⟨j,w,oj,t,hg,h3,h4,rfl⟩⟩
theorem Ug {ops:Array Oper}{o:Oper}{ao:aV}{x:Bool}(c:uf C nt ops.toList o ao){tm:Tm}(ht:ep g tm tmps)(e:wants ao.guard tm=some x):Region.wanted o (yielded ops tmps)=x:=by
 rcases c.hg with⟨h1,h2⟩|⟨j,w,oj,t,h1,h2,h3,h4⟩
 ·rw[h2]at e;cases e;simp[Region.wanted,h1]
 ·rw[h4]at e;have e:wantV (nth tm t) w=some x:=e;have h2:ops[j]?=some oj:=by simpa using h2
  simp only[Region.wanted,h1,yielded,h2,Option.bind_some,h3];have hv:=ht t;cases hn:nth tm t<;>rw[hn]at e hv<;>first|(cases e;done)|skip
  case bool c=>
   cases e;have hv:=hv.bool_inv;have ht:tmps[t]?=some (.bool c):=by
    rw[Array.getD_eq_getD_getElem?]at hv;cases hq:tmps[t]? with
    |none=>rw[hq]at hv;cases hv
    |some y=>rw[hq]at hv;simp at hv;rw[hv]
   rw[ht,yq];rfl
  case tup l=>
   obtain⟨hl,e⟩:=aN (show cond (adJ l) (some false) none=some x from e);cases e;cases l with
   |cons a l=>cases hl
   |nil=>
    obtain⟨us,hu,hv⟩:=hv.tup_inv;cases hu;rw[Array.getD_eq_getD_getElem?]at hv;cases hq:tmps[t]? with
    |none=>rfl
    |some y=>rw[hq]at hv;simp at hv;rw[hv];rfl
theorem UG {o:Oper}{c:Call}{f:Operand}{d:Deferred}(ho:o.op=.call c)(hc:c.callee=.value f)(hd:(Deferred.ofValue (alc tmps f) (c.args.map (alc tmps))).run C.P w=.ok d w):
  (execOp (alc tmps) o).run C.P w=(invoke d.target d.args).run C.P w:=by
 simp[execOp,ho,resolve,hc,hd]
theorem Rg {o:Oper}{c:Call}{f:Operand}{d:Deferred}(ho:o.op=.defer c)(hc:c.callee=.value f)(hd:(Deferred.ofValue (alc tmps f) (c.args.map (alc tmps))).run C.P w=.ok d w):
  (execOp (alc tmps) o).run C.P w=.ok (.defer d) w:=by
 simp[execOp,ho,resolve,hc,hd]
theorem Ca {o:Oper}{c:Call}(ho:o.op=.call c)(hc:c.callee=.builtin .recover):(execOp (alc tmps) o).run C.P w=.ok .recover w:=by
 simp[execOp,ho,resolve,hc,invoke,builtin]
theorem Rf {o:Oper}{x:Operand}{t:TypeId}{u:Value}(ho:o.op=.panic x)(hx:alc tmps x=.iface t u):(execOp (alc tmps) o).run C.P w=.halt (.panic (.iface t u)) w:=by
 simp[execOp,ho,Instr.panic,hx]
theorem Gl {ops:Array Oper}{i:Nat}{is:List Nat}{o:Oper}(ho:ops[i]?=some o)(u:Value)(rest cs:List Frame)(pv:Value):
  xi ⟨stF b tmps ds (.inRegion ops (i::is)::k),rest,pv,cs⟩ u .no=stF b (rf o.dst tmps u) ds (.inRegion ops is::k):=mh ho u
theorem mf {g:Gh}{K:KK}{rc:RC}(h:ub g K .normal rc):rc=.no:=by
 cases rc with
 |no=>rfl
 |ret=>cases h
 |pend v=>cases h.1
 |done=>cases h
theorem qj {f:AV}{fv:Value}{us:List Value}(hv:bA g f fv){x y:List Value}{n:FuncId}(h:fv=.func (.func n) ⟨x⟩ ⟨y⟩)(w:World):
  (Deferred.ofValue fv ⟨us⟩).run C.P w=.ok {target:=.fn (.func n) ⟨y⟩,args:=⟨x++us⟩} w:=by
 subst h;simp[Deferred.ofValue]
theorem oM {call:aQ}(hcall:cK C call){ops:Array Oper}{i:Nat}{is:List Nat}{o:Oper}{ao:aV}(ho:ops[i]?=some o)(c:uf C nt ops.toList o ao)
  {e':AEx} (e:dL ao call fr h=some (e',fr',h')) (s:Sim C g U h w) (f:FR g b K nt fr tmps ds) :
  fC C b K nt (.inRegion ops is::k) (lone (stF b tmps ds (.inRegion ops (i::is)::k)) (ei K fr.cx.rc) w) g U h e' fr' h'/\(e'=.normal∨∃ v,e'=.panic v):=by
 obtain⟨x,hw,e⟩:=aA (show aD (wants ao.guard fr.tm) _=_ from e);have hwant:=Ug c f.ht hw;cases x with
 |false=>
  cases e;refine⟨⟨g,U,w,rf o.dst tmps undef,ds,.refl g,.refl _ U,s,.refl _,?_,?_⟩,.inl rfl⟩
  ·rw[c.hdst];exact f.put c.hok (.tup .nil)
  ·rw[c.hdst];show Steps _ _ _;rw[kx];exact .one (BQ ho hwant)
 |true=>
  have e:jh (evOp ao.op fr.tm h) call ao.dst fr h=some (e',fr',h'):=e;cases hr:evOp ao.op fr.tm h with
  |bad=>rw[hr]at e;cases e
  |val v h1=>
   rw[hr]at e;cases e;obtain⟨g',w',u,hrun,hx,hs,hv,hl⟩:=aib s f.ht c.hop hr;have hnd:∀ cc,o.op≠.defer cc:=fun cc=>VF c.hop (fun q=>by
    cases hq:ao.op<;>rw[hq]at q hr<;>first|(cases q;done)|(cases hr;done)|skip
    next bb _=>cases bb<;>cases q) cc
   refine⟨⟨g',U,w',rf o.dst tmps u,ds,hx,.refl _ U,hs,hl,?_,?_⟩,.inl rfl⟩
   ·rw[c.hdst];exact(f.mono hx).put c.hok hv
   ·show Steps _ _ _;rw[kx];exact .one (DA ho hwant (.inl hnd) hrun)
  |call fv args=>
   rw[hr]at e;obtain⟨ax,axs,hop,rfl,rfl⟩:=Se hr;have hcop:=c.hop;rw[hop]at hcop;obtain⟨cc,fo,ho2,hcal,hf,ha⟩:=Wy hcop;obtain⟨⟨out,rc',h1⟩,hq,e⟩:=aA (show aD (call _ _ .no h) _=_ from e);have hvf:=bQ f.ht hf;have hva:=nV f.ht ha;obtain⟨d,fr0,hd,hent,g',U',w',hx,hu,hs,hl,hrc,hland⟩:=
    hcall _ _ _ _ _ _ _ hq g U w _ _ ⟨stF b tmps ds (.inRegion ops (i::is)::k),ei K fr.cx.rc,.nilIface,stF b tmps ds (.inRegion ops (i::is)::k)::ei K fr.cx.rc⟩ .normal s hvf hva rfl rfl
   have hrc':=mf hrc;subst hrc';have hargs:cc.args.map (alc tmps)=⟨cc.args.toList.map (alc tmps)⟩:=by
    apply Array.ext';simp
   have hnd:∀ c2,o.op≠.defer c2:=fun c2 q=>by rw[ho2]at q;cases q
   have hrun:(execOp (alc tmps) o).run C.P w=(invoke d.target d.args).run C.P w:=UG ho2 hcal (by rw[hargs];exact hd w);have h0:Steps C.P (lone (stF b tmps ds (.inRegion ops (i::is)::k)) (ei K fr.cx.rc) w) (lone fr0 (stF b tmps ds (.inRegion ops (i::is)::k)::ei K fr.cx.rc) w):=by
    rcases hent with⟨ff,as,h1,rfl⟩|⟨_,l,ff,ts,xx,yy,h1,rfl⟩
    ·exact .one (Uu ho hwant (.inl hnd) (hrun.trans h1))
    ·exact .one (Uq ho hwant (.inl hnd) (hrun.trans h1))
   cases out with
   |ret v=>
    cases e;obtain⟨u,hv,hst⟩:=hland;refine⟨⟨g',U',w',rf o.dst tmps u,ds,hx,hu,hs,hl,?_,?_⟩,.inl rfl⟩
    ·rw[c.hdst];exact(f.mono hx).put c.hok hv
    ·show Steps _ _ _;rw[kx];rw[Gl ho]at hst;exact h0.trans hst
   |pan v=>
    cases e;obtain⟨pv,hv,hst⟩:=hland;refine⟨⟨g',U',w',tmps,ds,hx,hu,hs,hl,f.mono hx,?_⟩,.inr ⟨_,rfl⟩⟩;exact⟨.inRegion ops (i::is)::k,pv,trivial,hv,h0.trans (hst rfl)⟩
  |rcv=>
   rw[hr]at e;obtain⟨axs,hop⟩:=VR hr;have hcop:=c.hop;rw[hop]at hcop;obtain⟨cc,ho2,hcal⟩:=CV hcop;have hrun:(execOp (alc tmps) o).run C.P w=.ok .recover w:=Ca ho2 hcal;have e:Option.casesOn fr.cx.rnd (aah fr.cx.rc ao.dst fr h) (fun _=>none)=some (e',fr',h'):=e;have hro:=f.ho;cases hrn:fr.cx.rnd with
   |some l=>rw[hrn]at e;cases e
   |none=>
    rw[hrn]at e hro;have hbn:b.roundOf=none:=by cases hbr:b.roundOf with
     |none=>rfl
     |some y=>rw[hbr]at hro;cases hro
    have e:aah fr.cx.rc ao.dst fr h=some (e',fr',h'):=e;have hrc:=f.hr;cases hr2:fr.cx.rc with
    |no=>rw[hr2]at e;cases e
    |ret=>
     rw[hr2]at e hrc;cases e;refine⟨⟨g,U,w,rf o.dst tmps .nilIface,ds,.refl g,.refl _ U,s,.refl _,?_,?_⟩,.inl rfl⟩
     ·rw[c.hdst];exact f.put c.hok .nili
     ·show Steps _ _ _;rw[kx,hr2];have hkd:b.kind=.deferred:=hrc;refine .one (qh ho hwant hbn hrun (.inr ⟨?_,rfl,rfl⟩));simp[tryRecover,stF,hkd,ei]
    |done=>
     rw[hr2]at e hrc;cases e;refine⟨⟨g,U,w,rf o.dst tmps .nilIface,ds,.refl g,.refl _ U,s,.refl _,?_,?_⟩,.inl rfl⟩
     ·rw[c.hdst];exact f.put c.hok .nili
     ·show Steps _ _ _;rw[kx,hr2];have hkd:b.kind=.deferred:=hrc;refine .one (qh ho hwant hbn hrun (.inr ⟨?_,rfl,rfl⟩));simp[tryRecover,stF,hkd,ei,ent]
    |pend v=>
     rw[hr2]at e hrc;cases e;obtain⟨hkd,hpv⟩:=hrc;refine⟨⟨g,U,w,rf o.dst tmps K.pv,ds,.refl g,.refl _ U,s,.refl _,?_,?_⟩,.inl rfl⟩
     ·refine⟨?_,f.hd,hkd,?_,f.hf,f.ho⟩
      ·rw[c.hdst];exact f.ht.put c.hok f.hn hpv
      ·rw[tf];exact f.hn
     ·show Steps _ _ _;refine .one (qh ho hwant hbn hrun (.inl ?_));simp[tryRecover,stF,hkd,ei,ent]
  |dfr fv args=>
   rw[hr]at e;obtain⟨ax,axs,hop,rfl,rfl⟩:=VU hr;have hcop:=c.hop;rw[hop]at hcop;obtain⟨cc,fo,ho2,hcal,hf,ha⟩:=SJ hcop;have hvf:=bQ f.ht hf;have hva:=nV f.ht ha;have e:Option.casesOn fr.cx.rnd (cond (ahA (ev ax fr.tm)) (some (AEx.normal,(⟨ez ao.dst fr.tm (.tup []),⟨.call (ev ax fr.tm) (evs axs fr.tm)::fr.cx.dfs,fr.cx.rc,fr.cx.rnd,fr.cx.fid⟩⟩:AF),h)) none) (fun _=>none)=some (e',fr',h'):=e;have hro:=f.ho;cases hrn:fr.cx.rnd with
   |some l=>rw[hrn]at e;cases e
   |none=>
    rw[hrn]at e hro;have hbn:b.roundOf=none:=by cases hbr:b.roundOf with
     |none=>rfl
     |some y=>rw[hbr]at hro;cases hro
    obtain⟨hfn,e⟩:=aN e;cases e;have hargs:cc.args.map (alc tmps)=⟨cc.args.toList.map (alc tmps)⟩:=by
     apply Array.ext';simp
    have key:∃ d,(∀ w,(Deferred.ofValue (alc tmps fo) ⟨cc.args.toList.map (alc tmps)⟩).run C.P w=.ok d w)/\Dr g (.call (ev ax fr.tm) (evs axs fr.tm)::fr.cx.dfs) (d::ds):=by
     generalize ev ax fr.tm=y at hfn hvf;cases y<;>first|(cases hfn;done)|skip
     obtain⟨x,y,hx,hy,hfe⟩:=hvf.fn_inv;exact⟨_,fun w=>qj hvf hfe w,.fn hx hy hva f.hd⟩
    obtain⟨d,hd,hD⟩:=key;have hrun:(execOp (alc tmps) o).run C.P w=.ok (.defer d) w:=Rg ho2 hcal (by rw[hargs];exact hd w);refine⟨⟨g,U,w,rf o.dst tmps undef,d::ds,.refl g,.refl _ U,s,.refl _,?_,.one (Uv ho hwant hbn hrun)⟩,.inl rfl⟩;refine⟨?_,hD,f.hr,?_,f.hf,?_⟩
    ·rw[c.hdst];exact f.ht.put c.hok f.hn (.tup .nil)
    ·rw[tf];exact f.hn
    ·show zo g none b.roundOf;rw[hbn];exact .none
  |pan v=>
   rw[hr]at e;obtain⟨ax,t,y,hop,hax,rfl⟩:=VT hr;have hcop:=c.hop;rw[hop]at hcop;obtain⟨xo,ho2,hx⟩:=SI hcop;have hvx:=bQ f.ht hx;rw[hax]at hvx;obtain⟨u,hu,hxe⟩:=hvx.ifc_inv;cases e;have hnd:∀ c2,o.op≠.defer c2:=fun c2 q=>by rw[ho2]at q;cases q
   refine⟨⟨g,U,w,tmps,ds,.refl g,.refl _ U,s,.refl _,f,?_⟩,.inr ⟨_,rfl⟩⟩;exact⟨.inRegion ops (i::is)::k,.iface t u,trivial,.ifc hu,.one (Us ho hwant (.inl hnd) (Rf ho2 hxe))⟩
end
