/- AbsGo: from the evaluator to a contract of the kit's (no condition beside what is said of the table of functions). -/
import Derived.Test.YtnacljdablhbgaaGreatAj
import Derived.Calls
noncomputable section
namespace Go.AG
section
variable {C:Cx}{E:Env}{b:Frame}{K:KK}{g g':Gh}{U:Nat->Option (List AV)}{h h0 h':AH}{w:World}{tm:Tm}{tmps:Array Value}{todo:List Item}{ds:List Deferred}{md:FrameMode}
theorem XJ {call:aG}(hcall:bM C call){F:Func}{fn:tC}{p:Bool}{fr:AF}{m:Md}{nt:Nat}{v:AV}{rc':RC}{g0:Gh}{U0:Nat->Option (List AV)}
  (hres:jx (UA C.T) F.results.toList=some fn.results) (q:tz call p h0 fn fr m h=some (.ret v,rc',h')) (s0:∀k o,h0.get k=some o->k<h0.z)
  (x0:Ext g0 g) (u0:nO h0.z U0 U) (l0:Low (lowered p h0) h) (s:Sim C g U h w) (f:FR g b K nt fr tmps ds) (hm:ze g m md) :
  ∃g' U' w' u,Ext g0 g'/\nO h0.z U0 U'/\Sim C g' U' h' w'/\bu g' v u/\(results F tmps).run C.P w'=.ok u w'/\
   Steps C.P (lone (stM b tmps ds todo md) (eX K fr.cx.rc) w) (lone (stM b tmps [] todo .returning) (eX K fr.cx.rc) w'):=by
 obtain⟨⟨m1,h1⟩,q1,q⟩:=ah (show aq (jK fr.cx.dfs call m h) _=_ from q);obtain⟨g1,U1,w1,md1,x1,u1,s1,l1,hm1,st1⟩:=rn (b:=b) (tmps:=tmps) (todo:=todo) (cs:=eX K fr.cx.rc) hcall _ q1 s f.hd hm;have lall:Low (lowered p h0) h1:=l0.trans l1;have uall:nO h0.z U0 U1:=u0.trans u1 (by have:=l0.z;rw[jP]at this;exact this);have f1:=f.mono x1;cases hm1 with
 |pan hv=>cases q
 |ret=>
  obtain⟨vs,q2,q⟩:=ah (show aq (fF fn.results fr.tm h1) _=_ from q);obtain⟨u,hr,hv⟩:=uh s1 f1.ht hres q2;have same:some (bI.ret (one vs),fr.cx.rc,lowBack p h0 h1)=some (bI.ret v,rc',h')->∃g' U' w' u,Ext g0 g'/\nO h0.z U0 U'/\Sim C g' U' h' w'/\bu g' v u/\(results F tmps).run C.P w'=.ok u w'/\
   Steps C.P (lone (stM b tmps ds todo md) (eX K fr.cx.rc) w) (lone (stM b tmps [] todo .returning) (eX K fr.cx.rc) w'):=by
   intro q;cases q;exact⟨g1,U1,w1,u,x0.trans x1,uall,s1.lowBack p h0,hv,hr,st1⟩
  cases p with
  |false=>exact same q
  |true=>
   have q:cond (Nat.ble h0.z h1.low) (some (bI.ret (frz 4 h1 h0.z (one vs)),fr.cx.rc,(⟨h1.z,h0.low,h0.objs⟩:AH))) (some (bI.ret (one vs),fr.cx.rc,(⟨h1.z,gz h1.low h0.low,h1.objs⟩:AH)))=some (bI.ret v,rc',h'):=q;cases hc:Nat.ble h0.z h1.low with
   |false=>rw[hc]at q;exact same q
   |true=>
    rw[hc]at q;have hc:=eG hc;cases q;have hsame:∀k,k<h0.z->h1.get k=h0.get k:=fun k hk=>lall.get k hk (Nat.lt_of_lt_of_le hk hc)
    have hnx:h0.z<=h1.z:=lall.z;refine⟨g1.leave h1 h0.z w1,_,w1,u,(x0.trans x1).trans (s1.leave_ext _),?_,s1.leave hnx h0.low s0 hsame,zG s1 _ 4 hv,hr,st1⟩;exact⟨fun k hk=>by show(if k<h0.z then U1 k else none)=U0 k;rw[wae hk];exact uall.kw k hk⟩
theorem BB {call:aG}(hcall:bM C call)(hE:oK C E){n:Nat}{f:FuncId}{as:List AV}{us:List Value}{v:AV}{rc':RC}(q:dZ E call n f as .no h=some (.ret v,rc',h'))
  (s:Sim C g U h w) (ha:aR g as us):Calls C.P f ⟨us⟩ w fun e w'=>∃u g' U',e=.returned u/\Ext g g'/\bu g' v u/\Sim C g' U' h' w':=by
 intro cs;have hdraw:=zM hcall;obtain⟨fn,q1,q⟩:=ah (show aq (E.cf f) _=_ from q);obtain⟨F,hF,hc,hname⟩:=hE.ok f fn q1;obtain⟨body,hb,hc⟩:=ah (show aq F.body _=_ from hc);obtain⟨ac,hac,hc⟩:=ah (show aq (jJ body C.P C.T C.kw F.ntmps) _=_ from hc);obtain⟨rs,hrs,hc⟩:=ah hc;cases hc;obtain⟨⟨e,fr',h1⟩,q2,q⟩:=ah q;obtain⟨K,hK⟩:∃K:KK,K=⟨default,[],.nilIface,cs⟩:=⟨_,rfl⟩
 have hent:Frame.enter C.P f ⟨us⟩ .normal=stF (Frame.enter C.P f ⟨us⟩ .normal) ((⟨us⟩:Array Value)++Array.replicate (F.ntmps-us.length) undef) [] [.code body]:=by
  simp[Frame.enter,stF,hF,hb]
 have hfr:FR g (Frame.enter C.P f ⟨us⟩ .normal) K F.ntmps ⟨bn as,⟨[],.no,none,f⟩⟩ ((⟨us⟩:Array Value)++Array.replicate (F.ntmps-us.length) undef) []:=by
  refine⟨xb ha _,.nil,rfl,?_,rfl,.none⟩;simp;omega
 have G:=rp hcall hdraw n body ac F.ntmps hac (k:=[]) q2 (s.lowered _) hfr;rw[<-hent]at G;obtain⟨g1,U1,w1,tmps1,ds1,x1,u1,s1,l1,f1,o1⟩:=G;rw[jP]at u1;have hrc:fr'.cx.rc=.no:=lM f1.hr;have hcs:eX K .no=cs:=by rw[hK];rfl
 have go:∀(m:Md) (md:FrameMode) (todo:List Item),ze g1 m md->tz call (E.pure f) h ⟨F.ntmps,rs,ac⟩ fr' m h1=some (.ret v,rc',h')->
   Steps C.P (lone (Frame.enter C.P f ⟨us⟩ .normal) (eX K .no) w) (lone (stM (Frame.enter C.P f ⟨us⟩ .normal) tmps1 ds1 todo md) (eX K fr'.cx.rc) w1)->
   ∃e w' fr,(∃u g' U',e=.returned u/\Ext g g'/\bu g' v u/\Sim C g' U' h' w')/\Comes C.P (lone (Frame.enter C.P f ⟨us⟩ .normal) cs w) (lone fr cs w') e/\fr.fn=f/\fr.leaving C.P w' e:=by
  intro m md todo hm q st;obtain⟨g2,U2,w2,u,a1,a2,a3,a4,a5,a6⟩:=XJ (b:=Frame.enter C.P f ⟨us⟩ .normal) (todo:=todo) hcall hrs q s.lt x1 u1 l1 s1 f1 hm;have st2:=st.trans a6;rw[hrc,hcs]at st2;exact⟨.returned u,w2,_,⟨u,g2,U2,rfl,a1,a4,a3⟩,st2,rfl,rfl,rfl,rfl,F,hF,a5⟩
 cases e with
 |exit id=>cases q
 |normal=>exact go .returning .returning [] .ret q (o1.trans (.one (Ca rfl)))
 |ret=>
  obtain⟨k1,o1⟩:=o1;exact go .returning .returning (.code .ret::k1) .ret q (o1.trans (.one (sW rfl)))
 |panic pv=>
  obtain⟨k1,pv,hn,hv,o1⟩:=o1;exact go (.panicking _) _ k1 (.pan hv) q o1
end
def iq (w:World):Gh:={F:=fun b o=>w.cell? ⟨b,o,none⟩,ρ:=fun _ _=>none,w0:=w}
def bg:AH:=⟨0,0,.lf⟩
theorem JB (C:Cx)(w:World):Sim C (iq w) (fun _=>none) bg w where
 frz _ _ _ e:=e
 obj k o e:=by cases e
 lt k o e:=by cases e
 unb k z e:=by cases e
 rlt k n l e:=by cases e
 sep k k' o o' l l' _ e:=by cases e
 old _ _:=rfl
 sz:=Fv _
 tape:=rfl
 os:=rfl
 output:=rfl
noncomputable section
def uK (P:Program):Tr TypeInfo:=Tr.ofList P.types.toList
def zF (P:Program):Tr Func:=Tr.ofList P.funcs.toList
def cfOf (P:Program)(T:Tr TypeInfo)(FT:Tr Func)(keep:TypeId->Bool)(f:FuncId):Option tC:=aq (FT.get f) fun F=>abI P T keep F
def Fm (P:Program)(keep:TypeId->Bool)(pure:FuncId->Bool):Env:={cf:=cfOf P (uK P) (zF P) keep,pure:=pure}
def Iz (P:Program):Bool:=P.funcs.toList.all fun F=>!(F.name == "runtime.NumGoroutine")
end
theorem MR (P:Program):∀t i,(uK P).get t=some i->P.info? t=some i:=by
 intro t i h;unfold uK at h;rw[Tr.get_ofList]at h;have h:P.types[t]?=some i:=by simpa using h
 show Tables.info? _ t=some i;unfold Tables.info?;rw[wae (show t<P.types.size from(Array.getElem?_eq_some_iff.1 h).1)];exact h
def cxOf (P:Program)(keep:TypeId->Bool)(h:P.follows .mixedOrders=true):Cx:={P:=P,T:=uK P,kw:=keep,ok:=MR P,mixed:=h}
theorem Ay (P:Program)(keep:TypeId->Bool)(pure:FuncId->Bool)(h:P.follows .mixedOrders=true)(hn:Iz P=true):oK (cxOf P keep h) (Fm P keep pure):=by
 refine⟨fun f fn e=>?_⟩;obtain⟨F,h1,h2⟩:=ah (show aq ((zF P).get f) _=_ from e);unfold zF at h1;rw[Tr.get_ofList]at h1;refine⟨F,show P.funcs[f]?=some F by simpa using h1,h2,?_⟩;have:=List.all_eq_true.1 hn F (wS h1);simpa using this
mutual
def AV.free:AV->Bool
 |.ptr _ _ _=>false
 |.row _ _ _ _ _=>false
 |.map _=>false
 |.yld _=>false
 |.any=>false
 |.vptr v=>v.free
 |.ls es=>AV.jp es
 |.clip es=>AV.jp es
 |.fn _ a b=>AV.jp a&&AV.jp b
 |.ifc _ v=>v.free
 |.agg cs=>AV.jp cs
 |.tup vs=>AV.jp vs
 |_=>true
def AV.jp:List AV->Bool
 |[]=>true
 |a::l=>a.free&&AV.jp l
end
theorem jZ (l:List AV):AV.jp l=true↔∀a∈l,a.free=true:=by
 induction l with
 |nil=>simp[AV.jp]
 |cons a l ih=>simp[AV.jp,ih]
theorem uz {v:AV}(h:v.free=true):∀c∈v.cells,c.free=true:=by
 intro c hc;cases v<;>first|(simp[AV.free]at h;done)|skip
 case agg cs=>exact(jZ cs).1 (by simpa [AV.free] using h) c hc
 all_goals (simp[AV.cells]at hc;subst hc;exact h)
theorem xT {es:List AV}(h:AV.jp es=true):∀c∈flat es,c.free=true:=by
 induction es with
 |nil=>intro c hc;simp[mc]at hc
 |cons e es ih=>
  simp only[AV.jp,Bool.and_eq_true]at h;intro c hc;rw[bO,List.mem_append]at hc;rcases hc with hc|hc
  ·exact uz h.1 c hc
  ·exact ih h.2 c hc
mutual
theorem bu.local {g g':Gh}(hF:∀b o v,g.F b o=some v->g'.F b o=some v):∀{a:AV} {u:Value},bu g a u->a.free=true->bu g' a u
 |_,_,.bool b,_=>.bool b
 |_,_,.int k n,_=>.int k n
 |_,_,.str s,_=>.str s
 |_,_,.nilp,_=>.nilp
 |_,_,.ptr h,hf=>by cases hf
 |_,_,.vptr hc h,hf=>.vptr hc (fm.local hF h (uz (by simpa [AV.free] using hf)))
 |_,_,.nl,_=>.nl
 |_,_,.ls hs ha hn hl h,hf=>.ls hs ha hn hl (fm.local hF h (xT (by simpa [AV.free] using hf)))
 |_,_,.lst0,_=>.lst0
 |_,_,.clip hs ha hn hl h,hf=>.clip hs ha hn hl (fm.local hF h (xT (by simpa [AV.free] using hf)))
 |_,_,.clip0,_=>.clip0
 |_,_,.row h hs hl,hf=>by cases hf
 |_,_,.row0 h hs hl,hf=>by cases hf
 |_,_,.nilm,_=>.nilm
 |_,_,.map h,hf=>by cases hf
 |_,_,.fn h h',hf=>by
  simp only[AV.free,Bool.and_eq_true]at hf;exact .fn (aR.local hF h ((jZ _).1 hf.1)) (aR.local hF h' ((jZ _).1 hf.2))
 |_,_,.yld h,hf=>by cases hf
 |_,_,.nilf,_=>.nilf
 |_,_,.ifc h,hf=>.ifc (bu.local hF h (by simpa [AV.free] using hf))
 |_,_,.nili,_=>.nili
 |_,_,.agg hc h,hf=>.agg hc (aR.local hF h ((jZ _).1 (by simpa [AV.free] using hf)))
 |_,_,.tup h,hf=>.tup (aR.local hF h ((jZ _).1 (by simpa [AV.free] using hf)))
 |_,_,.any u,hf=>by cases hf
theorem aR.local {g g':Gh}(hF:∀b o v,g.F b o=some v->g'.F b o=some v):∀{a:List AV} {u:List Value},aR g a u->(∀c∈a,c.free=true)->aR g' a u
 |_,_,.nil,_=>.nil
 |_,_,.cons h t,hf=>.cons (bu.local hF h (hf _ (by simp))) (aR.local hF t fun c hc=>hf c (by simp[hc]))
theorem fm.local {g g':Gh}(hF:∀b o v,g.F b o=some v->g'.F b o=some v):∀{b off:Nat} {l:List AV},fm g b off l->(∀c∈l,c.free=true)->fm g' b off l
 |_,_,_,.nil b off,_=>.nil b off
 |_,_,_,.cons hu h t,hf=>.cons (hF _ _ _ hu) (bu.local hF h (hf _ (by simp))) (fm.local hF t fun c hc=>hf c (by simp[hc]))
end
def Gh.void (g:Gh)(w:World):Gh:={F:=g.F,ρ:=fun _ _=>none,w0:=w}
theorem Sim.void {C:Cx}{g:Gh}{U:Nat->Option (List AV)}{h:AH}{w:World}(s:Sim C g U h w):Sim C (g.void w) (fun _=>none) bg w where
 frz:=s.frz
 obj k o e:=by cases e
 lt k o e:=by cases e
 unb k z e:=by cases e
 rlt k n l e:=by cases e
 sep k k' o o' l l' _ e:=by cases e
 old _ _:=rfl
 sz:=Fv _
 tape:=rfl
 os:=rfl
 output:=rfl
open Classical in
def Gh.back (g:Gh)(w w':World):Gh:={g with F:=fun b o=>if b<w.heap.size then g.F b o else w'.cell? ⟨b,o,none⟩}
theorem Sim.back {C:Cx}{g g2:Gh}{U U2:Nat->Option (List AV)}{h h2:AH}{w w':World}(s:Sim C g U h w)(x:Ext (g.void w) g2)(s2:Sim C g2 U2 h2 w'):
  Ext g (g.back w w')/\Sim C (g.back w w') U h w'/\∀b o v,g2.F b o=some v->(g.back w w').F b o=some v:=by
 have hw0:g2.w0=w:=x.w0;have hold:∀b,b<w.heap.size->w'.heap[b]?=w.heap[b]?:=fun b hb=>by have:=s2.old b (by rw[hw0];exact hb);rw[hw0]at this;exact this
 have hsz:w.heap.size<=w'.heap.size:=by have:=s2.sz;rw[hw0]at this;exact this
 have Flow:∀b o,b<w.heap.size->(g.back w w').F b o=g.F b o:=fun b o hb=>by simp only[Gh.back,hb,if_true]
 have Fhigh:∀b o,¬b<w.heap.size->(g.back w w').F b o=w'.cell? ⟨b,o,none⟩:=fun b o hb=>by simp only[Gh.back,hb,if_false]
 have ex:Ext g (g.back w w'):=⟨fun b o v e=>by rw[Flow b o (s.frz_lt e)];exact e,fun _ _ _ e=>e,rfl,fun b o v hb e=>by rw[Flow b o (Nat.lt_of_lt_of_le hb s.sz)]at e;exact e⟩;refine⟨ex,?_,fun b o v e=>?_⟩
 ·constructor
  ·intro b o v e;by_cases hb:b<w.heap.size
   ·rw[Flow b o hb]at e;rw[lU (hold b hb)];exact s.frz b o v e
   ·rw[Fhigh b o hb]at e;exact e
  ·intro k o e u;obtain⟨l,r1,r2,r3⟩:=s.obj k o e u;refine⟨l,r1,r2,r3.kw ex (hold _ r3.block_lt) (fun i v q=>?_) (fun _ _ q=>q)⟩;rw[Flow _ _ r3.block_lt]at q;exact q
  ·exact s.lt
  ·exact s.unb
  ·exact s.rlt
  ·exact s.sep
  ·intro b hb;rw[hold b (Nat.lt_of_lt_of_le hb s.sz)];exact s.old b hb
  ·exact Nat.le_trans s.sz hsz
  ·rw[s2.tape,hw0];exact s.tape
  ·rw[s2.os,hw0];exact s.os
  ·rw[s2.output,hw0];exact s.output
 ·by_cases hb:b<w.heap.size
  ·rw[Flow b o hb];exact x.old b o v hb e
  ·rw[Fhigh b o hb];exact s2.frz b o v e
def bI.free:bI->Bool
 |.ret v=>v.free
 |.pan v=>v.free
inductive It where
 |code (c:aw)
 |out (id:Nat)
 |ops (l:List aX)
def WP (r:RX)(Q:AEx->AF->AH->Prop):Prop:=∃e fr h,r=some (e,fr,h)/\Q e fr h
theorem fK {e:AEx}{fr:AF}{h:AH}{Q:AEx->AF->AH->Prop}: WP (some (e,fr,h)) Q↔Q e fr h:=by
 constructor
 ·rintro⟨e',fr',h',q,r⟩;cases q;exact r
 ·intro r;exact⟨e,fr,h,rfl,r⟩
theorem iy {Q:AEx->AF->AH->Prop}: WP none Q↔False:=by
 constructor
 ·rintro⟨e',fr',h',q,r⟩;cases q
 ·intro r;exact r.elim
section
variable (call:aG)(n:Nat)
def R:List It->(AEx->AF->AH->Prop)->AEx->AF->AH->Prop
 |[],Q=>Q
 |.code c::k,Q=>fun e fr h=>match e with
  |.normal=>WP (evCode c call n fr h) (R k Q)
  |e=>R k Q e fr h
 |.ops l::k,Q=>fun e fr h=>match e with
  |.normal=>WP (rY l call fr h) (R k Q)
  |e=>R k Q e fr h
 |.out id::k,Q=>fun e fr h=>R k Q (VE e id) fr h
def sC (r:Option (bI×RC×AH))(d:Option Nat)(l:List aX)(k:List It)(Q:AEx->AF->AH->Prop)(tm:Tm)(cx:AC):Prop:=
 match r with
 |some (.ret v,_,h1)=>R call n (.ops l::k) Q .normal ⟨fC d tm v,cx⟩ h1
 |some (.pan v,_,h1)=>R call n k Q (.panic v) ⟨tm,cx⟩ h1
 |none=>False
def sX (r:RX)(l:List aX)(k:List It)(Q:AEx->AF->AH->Prop):Prop:=
 match r with
 |some (e,fr,h)=>R call n (.ops l::k) Q e fr h
 |none=>False
def sR (r:OpR)(d:Option Nat)(l:List aX)(k:List It)(Q:AEx->AF->AH->Prop)(tm:Tm)(cx:AC)(h:AH):Prop:=
 match r with
 |.val v h1=>R call n (.ops l::k) Q .normal ⟨fC d tm v,cx⟩ h1
 |.call f args=>sC call n (call f args .no h) d l k Q tm cx
 |.pan v=>R call n k Q (.panic v) ⟨tm,cx⟩ h
 |.rcv=>sX call n (Fk d ⟨tm,cx⟩ h) l k Q
 |.dfr f args=>sX call n (Mw d f args ⟨tm,cx⟩ h) l k Q
 |.bad=>False
def sG (w:Option Bool)(d:Option Nat)(op:AOp)(l:List aX)(k:List It)(Q:AEx->AF->AH->Prop)(tm:Tm)(cx:AC)(h:AH):Prop:=
 match w with
 |some true=>sR call n (evOp op tm h) d l k Q tm cx h
 |some false=>R call n (.ops l::k) Q .normal ⟨fC d tm (.tup []),cx⟩ h
 |none=>False
def sB (v:AV)(a b:aw)(k:List It)(Q:AEx->AF->AH->Prop)(fr:AF)(h:AH):Prop:=
 match v with
 |.bool true=>R call n (.code a::k) Q .normal fr h
 |.bool false=>R call n (.code b::k) Q .normal fr h
 |_=>False
end
section
variable {call:aG}{n:Nat}{k:List It}{Q:AEx->AF->AH->Prop}{e:AEx}{fr:AF}{h h1:AH}{tm:Tm}{cx:AC}{a b c:aw}{id j:Nat}{l:List aX}{d:Option Nat}{op:AOp}{v:AV}{rc:RC}
theorem vc {r:RX}{f:AF->AH->RX}{Q:AEx->AF->AH->Prop}: WP (jH r f) Q↔WP r (fun e fr h=>match e with|.normal=>WP (f fr h) Q|e=>Q e fr h):=by
 unfold jH;cases r with
 |none=>simp only[pA,iy]
 |some p=>
  obtain⟨e,⟨tm,cx⟩,⟨x,y,z⟩⟩:=p;rw[aF,fK];cases e with
  |normal=>exact Iff.rfl
  |_=>exact fK
theorem R_nil:R call n [] Q e fr h=Q e fr h:=(rfl)
theorem aef:R call n (.code .skip::k) Q .normal fr h=R call n k Q .normal fr h:=propext fK
theorem R_seq:R call n (.code (.seq a b)::k) Q .normal fr h=R call n (.code a :: .code b::k) Q .normal fr h:=propext vc
theorem Pn:R call n (.code (.region l)::k) Q .normal fr h=R call n (.ops l::k) Q .normal fr h:=(rfl)
theorem aeg:R call n (.code (.exit id)::k) Q .normal fr h=R call n k Q (.exit id) fr h:=propext fK
theorem R_ret:R call n (.code .ret::k) Q .normal fr h=R call n k Q .ret fr h:=propext fK
theorem YZ:R call n (.code (.block id a)::k) Q .normal fr h=R call n (.code a :: .out id::k) Q .normal fr h:=by
 apply propext;show WP (VD id (evCode a call n fr h)) (R call n k Q)↔WP (evCode a call n fr h) fun e fr h=>R call n k Q (VE e id) fr h
 unfold VD;cases evCode a call n fr h with
 |none=>simp only[pA,iy]
 |some p=>obtain⟨e,fr,h⟩:=p;rw[aF,fK,fK]
theorem aei {x:AX}: R call n (.code (.cond x a b)::k) Q .normal ⟨tm,cx⟩ h=sB call n (ev x tm) a b k Q ⟨tm,cx⟩ h:=by
 apply propext;show WP (Hq (ev x tm) (evCode a call n) (evCode b call n) ⟨tm,cx⟩ h) (R call n k Q)↔_;cases ev x tm<;>first|exact iy|skip
 rename_i t;cases t<;>exact Iff.rfl
theorem Wu:sB call n (.bool true) a b k Q fr h=R call n (.code a::k) Q .normal fr h:=(rfl)
theorem Nn:sB call n (.bool false) a b k Q fr h=R call n (.code b::k) Q .normal fr h:=(rfl)
theorem BQ:R call n (.code c::k) Q (.exit id) fr h=R call n k Q (.exit id) fr h:=(rfl)
theorem EK:R call n (.code c::k) Q .ret fr h=R call n k Q .ret fr h:=(rfl)
theorem yY:R call n (.code c::k) Q (.panic v) fr h=R call n k Q (.panic v) fr h:=(rfl)
theorem yX:R call n (.out id::k) Q .normal fr h=R call n k Q .normal fr h:=(rfl)
theorem LM:R call n (.out id::k) Q .ret fr h=R call n k Q .ret fr h:=(rfl)
theorem BP:R call n (.out id::k) Q (.panic v) fr h=R call n k Q (.panic v) fr h:=(rfl)
theorem EJ:R call n (.out id::k) Q (.exit j) fr h=R call n k Q (cond (Nat.beq j id) .normal (.exit j)) fr h:=(rfl)
theorem LN:R call n (.ops []::k) Q .normal fr h=R call n k Q .normal fr h:=propext fK
theorem HJ {r:OpR}: WP (kF r call d ⟨tm,cx⟩ h) (fun e fr h=>match e with|.normal=>WP (rY l call fr h) (R call n k Q)|e=>R call n k Q e fr h)↔sR call n r d l k Q tm cx h:=by
 have hx:∀r:RX,WP r (fun e fr h=>match e with|.normal=>WP (rY l call fr h) (R call n k Q)|e=>R call n k Q e fr h)↔sX call n r l k Q:=by
  intro r;cases r with
  |none=>exact iy
  |some p=>obtain⟨e,fr,h⟩:=p;rw[fK];cases e<;>exact Iff.rfl
 cases r with
 |val v h1=>exact fK
 |call f args=>
  show WP (Mv d ⟨tm,cx⟩ (call f args .no h)) _↔sC call n (call f args .no h) d l k Q tm cx;unfold Mv;cases call f args .no h with
  |none=>rw[pA];exact iy
  |some p=>
   obtain⟨o,rc,h1⟩:=p;rw[aF];cases o<;>exact fK
 |rcv=>exact hx _
 |dfr f args=>exact hx _
 |pan v=>exact fK
 |bad=>exact iy
theorem R_op:R call n (.ops (⟨d,op,none⟩::l)::k) Q .normal ⟨tm,cx⟩ h=sR call n (evOp op tm h) d l k Q tm cx h:=by
 apply propext;exact(vc (r:=fA ⟨d,op,none⟩ call ⟨tm,cx⟩ h) (f:=rY l call)).trans HJ
theorem R_opg {g:Nat×Bool}: R call n (.ops (⟨d,op,some g⟩::l)::k) Q .normal ⟨tm,cx⟩ h=sG call n (wantV (nth tm g.1) g.2) d op l k Q tm cx h:=by
 apply propext;refine(vc (r:=fA ⟨d,op,some g⟩ call ⟨tm,cx⟩ h) (f:=rY l call)).trans ?_;show WP (aq (wantV (nth tm g.1) g.2) fun w=>cond w (kF (evOp op tm h) call d ⟨tm,cx⟩ h) (some (.normal,(AF.mk tm cx).put d (.tup []),h))) _↔_;cases wantV (nth tm g.1) g.2 with
 |none=>exact iy
 |some w=>cases w with
  |true=>exact HJ
  |false=>exact fK
theorem Ws:sG call n (some true) d op l k Q tm cx h=sR call n (evOp op tm h) d l k Q tm cx h:=(rfl)
theorem Nl:sG call n (some false) d op l k Q tm cx h=R call n (.ops l::k) Q .normal ⟨fC d tm (.tup []),cx⟩ h:=(rfl)
theorem acY:sR call n (.val v h1) d l k Q tm cx h=R call n (.ops l::k) Q .normal ⟨fC d tm v,cx⟩ h1:=(rfl)
theorem Wr {f:AV}{args:List AV}: sR call n (.call f args) d l k Q tm cx h=sC call n (call f args .no h) d l k Q tm cx:=(rfl)
theorem acZ:sR call n (.pan v) d l k Q tm cx h=R call n k Q (.panic v) ⟨tm,cx⟩ h:=(rfl)
theorem ac1:sC call n (some (.ret v,rc,h1)) d l k Q tm cx=R call n (.ops l::k) Q .normal ⟨fC d tm v,cx⟩ h1:=(rfl)
theorem ac2:sC call n (some (.pan v,rc,h1)) d l k Q tm cx=R call n k Q (.panic v) ⟨tm,cx⟩ h1:=(rfl)
theorem ac0 {f:AV}{args:List AV}: sR call n (.dfr f args) d l k Q tm cx h=sX call n (Mw d f args ⟨tm,cx⟩ h) l k Q:=(rfl)
theorem iI:sR call n .rcv d l k Q tm cx h=sX call n (Fk d ⟨tm,cx⟩ h) l k Q:=(rfl)
theorem Wq:sX call n (some (e,fr,h)) l k Q=R call n (.ops l::k) Q e fr h:=(rfl)
def LQ (call:aG)(n:Nat)(I:Nat->AF->AH->Prop)(j:Nat)(k:List It)(Q:AEx->AF->AH->Prop)(e:AEx)(fr:AF)(h:AH):Prop:=
 match e with
 |.normal=>∃j',j'<j/\I j' fr h
 |e=>R call n k Q e fr h
theorem LR {I:Nat->AF->AH->Prop}: LQ call n I j k Q .normal fr h=∃j',j'<j/\I j' fr h:=(rfl)
theorem Zf {I:Nat->AF->AH->Prop}: LQ call n I j k Q (.exit id) fr h=R call n k Q (.exit id) fr h:=(rfl)
theorem aen {I:Nat->AF->AH->Prop}: LQ call n I j k Q .ret fr h=R call n k Q .ret fr h:=(rfl)
theorem Pt {I:Nat->AF->AH->Prop}: LQ call n I j k Q (.panic v) fr h=R call n k Q (.panic v) fr h:=(rfl)
theorem bD (I:Nat->AF->AH->Prop)(m:Nat)(hm:m<n)(h0:I m fr h)
  (hstep:∀j fr h,I j fr h->R call n [.code a] (LQ call n I j k Q) .normal fr h):R call n (.code (.loop a)::k) Q .normal fr h:=by
 show WP (LY n (evCode a call n) fr h) (R call n k Q);have key:∀m N,m<N->∀fr h,I m fr h->WP (LY N (evCode a call n) fr h) (R call n k Q):=by
  intro m;induction m using Nat.strongRecOn with
  |_ m ih=>
   intro N hN fr h hI;obtain⟨N,rfl⟩:∃M,N=M+1:=⟨N-1,by omega⟩
   rw[KX,vc];obtain⟨e,fr1,h1,q,hq⟩:=hstep m fr h hI;refine⟨e,fr1,h1,q,?_⟩;cases e with
   |normal=>obtain⟨j',hj,hI'⟩:=hq;exact ih j' hj N (by omega) fr1 h1 hI'
   |_=>exact hq
 exact key m n hm fr h h0
end
section
variable {tm:Tm}{h h':AH}{v w:AV}
theorem adu (x:AX):evOp (.mv x) tm h=.val (ev x tm) h:=(rfl)
theorem NF (c a b:AX):evOp (.pick c a b) tm h=nv (ev c tm) h (ev a tm) (ev b tm):=(rfl)
theorem WU (z:List AV):evOp (.new z) tm h=.val (.ptr h.z 0 0) (h.new (.box z)):=(rfl)
theorem Xd (n:Nat)(x:AX):evOp (.box n x) tm h=gU h n (ev x tm):=(rfl)
theorem Kq (z:List AV)(ps:List (Nat×Nat×AX)):evOp (.build z ps) tm h=cP h z (eW ps tm):=(rfl)
theorem WZ (frz agg:Bool)(sz:Nat)(z:List AV)(n:Nat)(ps:List (Nat×AX)):evOp (.lit frz agg sz z n ps) tm h=iS frz agg sz z n (cr ps tm sz) h:=(rfl)
theorem NJ (agg:Bool)(sz:Nat)(x:AX):evOp (.load agg sz x) tm h=okV (dH (ev x tm) h agg sz) h:=(rfl)
theorem Kg (sz:Nat)(a x:AX):evOp (.store sz a x) tm h=okH (cR (ev a tm) h sz (ev x tm)):=(rfl)
theorem DG (x:AX):evOp (.nilChk x) tm h=iN (ev x tm) h:=(rfl)
theorem Xe (op:BinOp)(e:EqK)(x y:AX):evOp (.bin op e x y) tm h=okV (mR (ev x tm) op e (ev y tm)) h:=(rfl)
theorem ads (op:UnOp)(x:AX):evOp (.un op x) tm h=okV (Fx op (ev x tm)) h:=(rfl)
theorem cJ (t:TypeId)(x:AX):evOp (.mkIface t x) tm h=.val (.ifc t (ev x tm)) h:=(rfl)
theorem NH (f:FuncId)(a b:List AX):evOp (.mkFn f a b) tm h=.val (.fn f (evs a tm) (evs b tm)) h:=(rfl)
theorem Kj:evOp .mkMap tm h=.val (.map h.z) (h.new (.map [])):=(rfl)
theorem Bk (agg:Bool)(sz bytes:Nat)(z:List AV)(l c:AX):evOp (.mkSlice agg sz bytes z l c) tm h=pJ (fq h agg sz bytes z (ev l tm) (ev c tm)):=(rfl)
theorem Kh (sz:Nat)(x:AX)(lo hi mx:Option AX):evOp (.slice false sz x lo hi mx) tm h=pJ (ix h sz (ev x tm) tm lo hi mx):=(rfl)
theorem Ko (o sz:Nat)(agg:Bool)(x:AX):evOp (.faddr o sz agg x) tm h=eM (ev x tm) h o sz agg:=(rfl)
theorem Kn (sz:Nat)(x i:AX):evOp (.iaddr sz x i) tm h=cz (ev x tm) h sz (ev i tm):=(rfl)
theorem DE (x i:AX):evOp (.strIdx x i) tm h=okV (mg (ev x tm) (ev i tm)) h:=(rfl)
theorem DK (t:Nat)(z:AV)(x i:AX)(ok:Bool):evOp (.lookup t z x i ok) tm h=okV (gZ h t z ok (ev x tm) (ev i tm)) h:=(rfl)
theorem Kk (t:Nat)(m k v:AX):evOp (.mapUp t m k v) tm h=okH (kN h t (ev m tm) (ev k tm) (ev v tm)):=(rfl)
theorem di (t:TypeId)(z:AV)(x:AX)(ok:Bool):evOp (.assert t z x ok) tm h=okV (kX (ev x tm) t z ok) h:=(rfl)
theorem Bl (x:AX)(i:Nat):evOp (.extract x i) tm h=okV (aq (ME (ev x tm)) fun l=>pK i l) h:=(rfl)
theorem Xa (k:Nat)(x:AX):evOp (.builtin (.len k) [x]) tm h=okV (aq (lenOf (ev x tm) h k) fun n=>some (.int .i64 (n:Int))) h:=(rfl)
theorem DO (sz:Nat)(agg:Bool)(z:List AV)(bytes:Nat)(s x:AX):evOp (.builtin (.append sz agg z bytes) [s,x]) tm h=pJ (dO h sz agg z bytes (ev s tm) (ev x tm)):=(rfl)
theorem cI (l:List AX):evOp (.builtin .recover l) tm h=.rcv:=(rfl)
theorem WX (l:List AX):evOp (.builtin .max l) tm h=okV (vY false (evs l tm)) h:=(rfl)
theorem WW (l:List AX):evOp (.builtin .min l) tm h=okV (vY true (evs l tm)) h:=(rfl)
theorem NO (f:AX)(args:List AX):evOp (.call f args) tm h=.call (ev f tm) (evs args tm):=(rfl)
theorem Kp (f:AX)(args:List AX):evOp (.defer f args) tm h=.dfr (ev f tm) (evs args tm):=(rfl)
theorem dT (x:AX):evOp (.panic x) tm h=jC (ev x tm):=(rfl)
theorem okV_s:okV (some v) h=.val v h:=(rfl)
theorem okH_s:okH (some h)=.val (.tup []) h:=(rfl)
theorem adD:pJ (some (v,h))=.val v h:=(rfl)
theorem aeP (i:Nat):ev (.t i) tm=nth tm i:=(rfl)
theorem ev_c:ev (.c v) tm=v:=(rfl)
theorem adm (d:Nat):fC (some d) tm v=tm.put d v:=(rfl)
theorem adn:fC none tm v=tm:=(rfl)
theorem NQ (d:Nat):nth (tm.put d v) d=v:=by rw[uP];simp
theorem Ku {d i:Nat}(hne:i≠d):nth (tm.put d v) i=nth tm i:=by rw[uP];simp[hne]
theorem AO:bn []=Tr.lf:=(rfl)
theorem JH (a:AV):bn [a]=Tr.lf.put 0 a:=(rfl)
theorem JG (a b:AV):bn [a,b]=(Tr.lf.put 0 a).put 1 b:=(rfl)
theorem JF (a b c:AV):bn [a,b,c]=((Tr.lf.put 0 a).put 1 b).put 2 c:=(rfl)
theorem JE (a b c d:AV):bn [a,b,c,d]=(((Tr.lf.put 0 a).put 1 b).put 2 c).put 3 d:=(rfl)
theorem JD (a b c d e:AV):bn [a,b,c,d,e]=((((Tr.lf.put 0 a).put 1 b).put 2 c).put 3 d).put 4 e:=(rfl)
theorem JC (a b c d e f:AV):bn [a,b,c,d,e,f]=(((((Tr.lf.put 0 a).put 1 b).put 2 c).put 3 d).put 4 e).put 5 f:=(rfl)
theorem ado (c:Bool)(a b:AV):nv (.bool c) h a b=.val (cond c a b) h:=(rfl)
theorem YB (op:BinOp)(e:EqK)(k:IntKind)(a b:Int):mR (.int k a) op e (.int k b)=mQ op k a b:=by
 show cond (or (oQ op) (LZ k k)) (mQ op k a b) none=_;rw[sP];simp
theorem YA (op:BinOp)(e:EqK)(a b:ByteArray):mR (.str a) op e (.str b)=Fj op a b:=(rfl)
theorem XA (k:IntKind)(a b:Int):mQ .add k a b=some (.int k (k.wrap (a+b))):=by show some (nB k (a+b))=_;rw[gG]
theorem Xt (k:IntKind)(a b:Int):mQ .sub k a b=some (.int k (k.wrap (a-b))):=by show some (nB k (a-b))=_;rw[gG]
theorem Xz (k:IntKind)(a b:Int):mQ .eql k a b=some (.bool (decide (a=b))):=by show some (AV.bool (BU a b))=_;rw[kP];congr 2
theorem Xu (k:IntKind)(a b:Int):mQ .neq k a b=some (.bool (!decide (a=b))):=by show some (AV.bool (!BU a b))=_;rw[kP];congr 2
theorem Xv (k:IntKind)(a b:Int):mQ .lss k a b=some (.bool (decide (a<b))):=by show some (AV.bool (!leI b a))=_;rw[uQ]
theorem Xw (k:IntKind)(a b:Int):mQ .leq k a b=some (.bool (decide (a<=b))):=by show some (AV.bool (leI a b))=_;rw[qK]
theorem Xx (k:IntKind)(a b:Int):mQ .gtr k a b=some (.bool (decide (b<a))):=by show some (AV.bool (!leI a b))=_;rw[uQ]
theorem Xy (k:IntKind)(a b:Int):mQ .geq k a b=some (.bool (decide (b<=a))):=by show some (AV.bool (leI b a))=_;rw[qK]
theorem Wi (a b:ByteArray):Fj .eql a b=some (.bool (a==b)):=by show some (AV.bool (Ds a b))=_;rw[kY]
theorem Wh (a b:ByteArray):Fj .neq a b=some (.bool (!(a==b))):=by show some (AV.bool (!Ds a b))=_;rw[kY]
theorem acP (b:Bool):Fx .not (.bool b)=some (.bool (!b)):=(rfl)
theorem Px (k:IntKind)(a:Int):Fx .neg (.int k a)=some (.int k (k.wrap (0-a))):=by show some (nB k (0-a))=_;rw[gG]
theorem Xp (s:ByteArray):lenOf (.str s) h 0=some s.size:=(rfl)
theorem dL (es:List AV):lenOf (.ls es) h 1=some es.length:=by show some (len es)=_;rw[bH]
theorem uU (k g sz off n:Nat):lenOf (.row k g sz off n) h 1=some n:=(rfl)
theorem acN (b:Bool):wantV (.tup []) b=some false:=(rfl)
theorem gN (agg:Bool)(sz:Nat)(h1:v.isAgg=agg)(h2:v.cells.length=sz):dH (.vptr v) h agg sz=some v:=by
 show cond (and (oG v.isAgg agg) (Nat.beq (len v.cells) sz)) (some v) none=_;rw[bH,h2,h1];have:Nat.beq sz sz=true:=Nat.beq_refl sz;rw[this];cases agg<;>rfl
theorem KY {es:List AV}{sz:Nat}{i:Int}{k:IntKind}{x:AV}(hi:0<=i)(hx:es[i.toNat]?=some x)(hs:x.cells.length=sz):cz (.ls es) h sz (.int k i)=.val (.vptr x) h:=by
 obtain⟨m,rfl⟩:=Int.eq_ofNat_of_zero_le hi;have hx:es[m]?=some x:=by simpa using hx
 show okV (aq (some m) fun n=>aq (pK n es) fun v=>cond (Nat.beq (len v.cells) sz) (some (.vptr v)) none) h=_;rw[aF,iQ,hx,aF,bH,hs];have:Nat.beq sz sz=true:=Nat.beq_refl sz;rw[this];rfl
end
mutual
def AV.norm:AV->AV
 |.nl=>.ls []
 |.ls es=>.ls (AV.ip es)
 |.clip es=>.ls (AV.ip es)
 |.fn f a b=>.fn f (AV.ip a) (AV.ip b)
 |.agg cs=>.agg (AV.ip cs)
 |.tup vs=>.tup (AV.ip vs)
 |.bool b=>.bool b
 |.int k n=>.int k n
 |.str s=>.str s
 |.nilp=>.nilp
 |.ptr k g o=>.ptr k g o
 |.vptr v=>.vptr v
 |.row k g sz off n=>.row k g sz off n
 |.nilm=>.nilm
 |.map k=>.map k
 |.yld l=>.yld l
 |.nilf=>.nilf
 |.ifc t v=>.ifc t v
 |.nili=>.nili
 |.any=>.any
def AV.ip:List AV->List AV
 |[]=>[]
 |a::l=>a.norm::AV.ip l
end
theorem lL (l:List AV):AV.ip l=l.map AV.norm:=by
 induction l with
 |nil=>rfl
 |cons a l ih=>simp[AV.ip,ih]
theorem iE (l:List AV):(AV.ip l).length=l.length:=by rw[lL];simp
theorem yQ (l m:List AV):AV.ip (l++m)=AV.ip l++AV.ip m:=by simp[lL]
theorem Bm (a:AV):a.norm.isCell=a.isCell:=by cases a<;>rfl
theorem uq (a:AV):a.norm.cells=AV.ip a.cells:=by cases a<;>simp[AV.norm,AV.ip,AV.cells]
theorem jX (l:List AV):aO (AV.ip l)=aO l:=by
 induction l with
 |nil=>rfl
 |cons a l ih=>simp only[AV.ip,bQ,ih,Bm]
theorem mz (l:List AV):flat (AV.ip l)=AV.ip (flat l):=by
 induction l with
 |nil=>rfl
 |cons a l ih=>simp only[AV.ip,bO,uq,ih,yQ]
theorem uo {l:List AV}{sz:Nat}(h:∀e∈l,e.cells.length=sz):∀e∈AV.ip l,e.cells.length=sz:=by
 intro e he;rw[lL]at he;obtain⟨x,hx,rfl⟩:=List.mem_map.1 he;rw[uq,iE];exact h x hx
mutual
theorem bu.norm {g:Gh}: ∀{a:AV} {u:Value},bu g a u->bu g a.norm u
 |_,_,.bool b=>.bool b
 |_,_,.int k n=>.int k n
 |_,_,.str s=>.str s
 |_,_,.nilp=>.nilp
 |_,_,.ptr h=>.ptr h
 |_,_,.vptr hc h=>.vptr hc h
 |_,_,.nl=>.lst0
 |_,_,.ls hs ha hn hl h=>.ls (uo hs) (by rw[mz,jX];exact ha) (by rw[iE];exact hn) (by rw[iE];exact hl) (by rw[mz];exact fm.norm h)
 |_,_,.lst0=>.lst0
 |_,_,.clip hs ha hn hl h=>.ls (uo hs) (by rw[mz,jX];exact ha) (by rw[iE];exact hn) (by rw[iE];omega) (by rw[mz];exact fm.norm h)
 |_,_,.clip0=>.lst0
 |_,_,.row h hs hl=>.row h hs hl
 |_,_,.row0 h hs hl=>.row0 h hs hl
 |_,_,.nilm=>.nilm
 |_,_,.map h=>.map h
 |_,_,.fn h h'=>.fn (aR.norm h) (aR.norm h')
 |_,_,.yld h=>.yld h
 |_,_,.nilf=>.nilf
 |_,_,.ifc h=>.ifc h
 |_,_,.nili=>.nili
 |_,_,.agg hc h=>.agg (by rw[jX];exact hc) (aR.norm h)
 |_,_,.tup h=>.tup (aR.norm h)
 |_,_,.any u=>.any u
theorem aR.norm {g:Gh}: ∀{a:List AV} {u:List Value},aR g a u->aR g (AV.ip a) u
 |_,_,.nil=>.nil
 |_,_,.cons h t=>.cons (bu.norm h) (aR.norm t)
theorem fm.norm {g:Gh}: ∀{b off:Nat} {l:List AV},fm g b off l->fm g b off (AV.ip l)
 |_,_,_,.nil b off=>.nil b off
 |_,_,_,.cons hu h t=>.cons hu (bu.norm h) (fm.norm t)
end
mutual
theorem oy:∀a:AV,a.norm.free=a.free
 |.bool _|.int _ _|.str _|.nilp|.ptr _ _ _|.vptr _|.row _ _ _ _ _|.nilm|.map _|.yld _|.nilf|.ifc _ _|.nili|.any=>rfl
 |.nl=>by simp[AV.norm,AV.free,AV.jp]
 |.ls es=>by simp only[AV.norm,AV.free];exact gp es
 |.clip es=>by simp only[AV.norm,AV.free];exact gp es
 |.fn f a b=>by simp only[AV.norm,AV.free,gp a,gp b]
 |.agg cs=>by simp only[AV.norm,AV.free];exact gp cs
 |.tup vs=>by simp only[AV.norm,AV.free];exact gp vs
theorem gp:∀l:List AV,AV.jp (AV.ip l)=AV.jp l
 |[]=>rfl
 |a::l=>by simp only[AV.ip,AV.jp,oy a,gp l]
end
def bI.norm:bI->bI
 |.ret v=>.ret v.norm
 |.pan v=>.pan v.norm
theorem wu (o:bI):o.norm.free=o.free:=by cases o<;>exact oy _
def Ans (C:Cx)(f:AV)(a:List AV)(o:bI):Prop:=
 f.free=true/\AV.jp a=true/\o.free=true/\∃call h' o',bM C call/\call f a .no bg=some (o',.no,h')/\o'.norm=o
def dI (K:AV->List AV->Option bI):aG:=fun f a rc h=>
 match rc with
 |.no=>match K f.norm (AV.ip a) with
  |some o=>some (o,.no,h)
  |none=>none
 |_=>none
theorem acR {C:Cx}{K:AV->List AV->Option bI}(hK:∀f a o,K f a=some o->Ans C f a o):bM C (dI K):=by
 intro f args rc h out rc' h' q g U w fv us K' kind s hf ha hr hK';cases rc with
 |no=>
  cases hkn:K f.norm (AV.ip args) with
  |none=>simp[dI,hkn]at q
  |some o=>
   have q:some (o,RC.no,h)=some (out,rc',h'):=by simpa [dI,hkn] using q
   cases q;obtain⟨k1,k2,k3,call2,h2,o2,c1,c2,c3⟩:=hK _ _ _ hkn;have hF:∀b o v,g.F b o=some v->(g.void w).F b o=some v:=fun _ _ _ e=>e
   obtain⟨d,fr0,hd,hent,g2,U2,w',x2,_,s2,_,hrc,hland⟩:=c1 _ _ .no bg o2 .no h2 c2 (g.void w) (fun _=>none) w fv us K' kind s.void
    (bu.local hF hf.norm k1) (aR.local hF ha.norm ((jZ _).1 k2)) hr hK'
   obtain⟨ex,s3,hF3⟩:=s.back x2 s2;refine⟨d,fr0,hd,hent,g.back w w',U,w',ex,.refl _ U,s3,.refl _,hr,?_⟩;have k4:o2.free=true:=by rw[<-c3,wu]at k3;exact k3
   subst c3;cases o2 with
   |ret v=>obtain⟨u,hv,st⟩:=hland;exact⟨u,(bu.local hF3 hv k4).norm,st⟩
   |pan v=>obtain⟨u,hv,st⟩:=hland;exact⟨u,(bu.local hF3 hv k4).norm,st⟩
 |_=>simp[dI]at q
structure cF where
 α:Type
 fid:FuncId
 caps:α->List AV
 args:α->List AV
 out:α->bI
 dom:α->Prop
 func:∀x y,dom x->dom y->caps x=caps y->args x=args y->out x=out y
def cF.Meets (C:Cx)(s:cF):Prop:=∀x,s.dom x->Ans C (.fn s.fid [] (s.caps x)) (s.args x) (s.out x)
def cF.Used (s:cF)(call:aG):Prop:=∀x fc a h,s.dom x->AV.ip fc=s.caps x->AV.ip a=s.args x->call (.fn s.fid [] fc) a .no h=some (s.out x,.no,h)
open Classical in
def cF.tbl (s:cF)(f:AV)(a:List AV):Option bI:=
 if h:∃x,s.dom x/\f=.fn s.fid [] (s.caps x)/\a=s.args x then some (s.out h.choose) else none
theorem cF.tbl_ans {C:Cx}{s:cF}(hm:s.Meets C){f:AV}{a:List AV}{o:bI}(e:s.tbl f a=some o):Ans C f a o:=by
 unfold cF.tbl at e;split at e
 ·rename_i h;cases e;obtain⟨h1,h2,h3⟩:=h.choose_spec;have:=hm _ h1;rw[<-h2,<-h3]at this;exact this
 ·cases e
theorem cF.tbl_at {s:cF}{x:s.α}(hx:s.dom x):s.tbl (.fn s.fid [] (s.caps x)) (s.args x)=some (s.out x):=by
 have h:∃y,s.dom y/\AV.fn s.fid [] (s.caps x)=.fn s.fid [] (s.caps y)/\s.args x=s.args y:=⟨x,hx,rfl,rfl⟩
 unfold cF.tbl;rw[dif_pos h];obtain⟨h1,h2,h3⟩:=h.choose_spec;congr 1;refine(s.func _ _ hx h1 ?_ h3).symm;injection h2
theorem cF.tbl_other {s:cF}{k:Nat}{c a:List AV}(h:k≠s.fid):s.tbl (.fn k [] c) a=none:=by
 unfold cF.tbl;rw[dif_neg];rintro⟨y,_,e,_⟩;injection e with e1;exact h e1
def fx (l:List cF)(f:AV)(a:List AV):Option bI:=
 match l with
 |[]=>none
 |s::l=>match s.tbl f a with
  |some o=>some o
  |none=>fx l f a
theorem rF {C:Cx}{E:Env}(hE:oK C E){call:aG}(hcall:bM C call)(n:Nat):bM C (fun fv args rc h=>vX fv E call n args rc h):=by
 have hdraw:=zM hcall;intro f args rc h out rc' h' q g U w fv us K kind s hf ha hr hK;replace q:vX f E call n args rc h=some (out,rc',h'):=q;cases f<;>first|(cases q;done)|skip
 case fn fi first caps=>
  obtain⟨x,y,hx,hy,rfl⟩:=hf.fn_inv;have q:dZ E call n fi (app first (app args caps)) rc h=some (out,rc',h'):=q;rw[fk,fk]at q;obtain⟨h1,h2⟩:=TG (K:=K) hcall hdraw hE q s (hx.append (ha.append hy)) hr hK;refine⟨_,Frame.enter C.P fi ⟨x++(us++y)⟩ kind,fun w=>mw (C:=C) (.fn hx hy) rfl w,.inl ⟨fi,⟨x++(us++y)⟩,?_,rfl⟩,h2⟩;have:(⟨x++us⟩:Array Value)++(⟨y⟩:Array Value)=⟨x++(us++y)⟩:=by apply Array.ext';simp
  show(callFunc fi ((⟨x++us⟩:Array Value)++(⟨y⟩:Array Value))).run C.P w=_;rw[this];exact h1
 case yld j=>
  obtain⟨lc,hl,rfl⟩:=hf.yld_inv;obtain⟨hrc,q⟩:=aH (show cond (aeM rc) (nG call n j args h) none=some (out,rc',h') from q);cases rc<;>first|(cases hrc;done)|skip
  have hk:kind=.normal:=hr;subst hk;obtain⟨ff,ts,xx,yy,h1,h2⟩:=Hy (K:=K) hcall hdraw q s hl ha hK;refine⟨{target:=.fn (.yield lc.block) #[],args:=⟨us⟩},Frame.round lc.block ff ts xx yy .normal,fun w=>by simp[Deferred.ofValue],.inr ⟨rfl,lc.block,ff,ts,xx,yy,?_,rfl⟩,h2⟩;show(Instr.yield lc.block ⟨us⟩).run C.P w=_;exact h1
def FQ (rs:List bF)(o:bI)(e:AEx)(fr:AF)(h:AH):Prop:=
 fr.cx.dfs=[]/\fr.cx.rc=.no/\match e with
 |.normal=>∃vs,fF rs fr.tm h=some vs/\bI.ret (frz 4 h 0 (one vs)).norm=o
 |.ret=>∃vs,fF rs fr.tm h=some vs/\bI.ret (frz 4 h 0 (one vs)).norm=o
 |.panic v=>bI.pan v.norm=o
 |.exit _=>False
theorem Hw {rs:List bF}{o:bI}{tm:Tm}{rnd:Option Nat}{f:FuncId}{h:AH}: FQ rs o .ret ⟨tm,⟨[],.no,rnd,f⟩⟩ h=∃vs,fF rs tm h=some vs/\bI.ret (frz 4 h 0 (one vs)).norm=o:=by
 simp[FQ]
theorem TH {E:Env}{call:aG}{n:Nat}{f:FuncId}{as:List AV}{o:bI}{nt:Nat}{rs:List bF}{body:aw}(hcf:E.cf f=some ⟨nt,rs,body⟩)(hp:E.pure f=true)
  (hR:R call n [.code body] (FQ rs o) .normal ⟨bn as,⟨[],.no,none,f⟩⟩ bg):∃h' o',dZ E call n f as .no bg=some (o',.no,h')/\o'.norm=o:=by
 obtain⟨e,⟨tm,⟨dfs,rc,rnd,fid⟩⟩,h,q,q1,q2,q3⟩:=hR;replace q1:dfs=[]:=q1;replace q2:rc=.no:=q2;subst q1 q2;have q':evCode body call n ⟨bn as,⟨[],.no,none,f⟩⟩ (lowered (E.pure f) bg)=some (e,⟨tm,⟨[],.no,rnd,fid⟩⟩,h):=by rw[hp];exact q
 unfold dZ;rw[hcf,aF];simp only[q',aF];cases e with
 |exit id=>exact q3.elim
 |normal=>
  obtain⟨vs,r1,r2⟩:=q3;refine⟨⟨h.z,0,.lf⟩,.ret (frz 4 h 0 (one vs)),?_,r2⟩;show aq (fF rs tm h) (fun vs=>qM (E.pure f) bg h .no vs)=_;rw[r1,aF,hp];rfl
 |ret=>
  obtain⟨vs,r1,r2⟩:=q3;refine⟨⟨h.z,0,.lf⟩,.ret (frz 4 h 0 (one vs)),?_,r2⟩;show aq (fF rs tm h) (fun vs=>qM (E.pure f) bg h .no vs)=_;rw[r1,aF,hp];rfl
 |panic v=>exact⟨_,.pan v,rfl,q3⟩
