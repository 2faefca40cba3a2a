/- AbsGo: one operation of the evaluator's is one of the model's: all that come to a value (no condition). -/
import Derived.Test.YtocdlbblemjabaaGreatDoorAi
namespace Go.AG
section
variable {C:Cx}{g:Gh}{U:Nat->Option (List AV)}{h h':AH}{w:World}{tm:Tm}{tmps:Array Value}{v:AV}
theorem oN {l:List AV}{k:AV->OpR}(e:Fx l OpR.bad k=.val v h'):∃ x,l=[x]/\k x=.val v h':=by
 cases l with
 |nil=>cases e
 |cons x l=>cases l with
  |nil=>exact⟨x,rfl,e⟩
  |cons y l=>cases e
theorem Ev {l:List AV}{k:AV->AV->OpR}(e:ZM l OpR.bad k=.val v h'):∃ x y,l=[x,y]/\k x y=.val v h':=by
 cases l with
 |nil=>cases e
 |cons x l=>
  obtain⟨y,rfl,e⟩:=oN (l:=l) e;exact⟨x,y,rfl,e⟩
theorem Bs {a:Array Operand}{la:List AX}{x:AV}(hc:cXs a=some la)(e:evs la tm=[x]):∃ y ay,a=#[y]/\cX y=some ay/\x=ev ay tm:=by
 cases la with
 |nil=>cases e
 |cons ay l=>
  cases l with
  |cons z l=>cases e
  |nil=>
   rw[mG,Bn]at e;cases e;obtain⟨a⟩:=a;cases a with
   |nil=>cases hc
   |cons y a=>
    obtain⟨b,r,hb,hr,q⟩:=bS (show hX cX (y::a)=_ from hc);cases q;cases a with
    |nil=>exact⟨y,ay,rfl,hb,rfl⟩
    |cons z a=>obtain⟨b,r,hb,hr,q⟩:=bS hr;cases q
theorem Pd {a:Array Operand}{la:List AX}{x x':AV}(hc:cXs a=some la)(e:evs la tm=[x,x']):
  ∃ y z ay az,a=#[y,z]/\cX y=some ay/\cX z=some az/\x=ev ay tm/\x'=ev az tm:=by
 cases la with
 |nil=>cases e
 |cons ay l=>
  cases l with
  |nil=>cases e
  |cons az l=>
   cases l with
   |cons z l=>cases e
   |nil=>
    rw[mG,mG,Bn]at e;cases e;obtain⟨a⟩:=a;cases a with
    |nil=>cases hc
    |cons y a=>
     obtain⟨b,r,hb,hr,q⟩:=bS (show hX cX (y::a)=_ from hc);cases q;cases a with
     |nil=>cases hr
     |cons z a=>
      obtain⟨b,r,hb',hr,q⟩:=bS hr;cases q;cases a with
      |nil=>exact⟨y,z,ay,az,rfl,hb,hb',rfl,rfl⟩
      |cons z a=>obtain⟨b,r,hb,hr,q⟩:=bS hr;cases q
theorem UW {o:Oper}{t:TypeId}{x:Operand}{lo hi mx:Option Operand}{ax:AX}{alo ahi amx:Option AX}{d:TypeDesc}{aop:AOp}(s:Sim C g U h w)(ht:ep g tm tmps)(ho:o.op=.slice t x lo hi mx)
  (hx:cX x=some ax) (hlo:oA lo=some alo) (hhi:oA hi=some ahi) (hmx:oA mx=some amx) (hd:und C.T t=some d) (hc:DE d C.T ax alo ahi amx=some aop) (e:evOp aop tm h=.val v h') :
  gG C g U h ((execOp (alc tmps) o).run C.P w) v h':=by
 cases d with
 |string=>
  cases amx with
  |some m=>cases hc
  |none=>
   cases hc;have e:okV (gQ (ev ax tm) tm alo ahi) h=.val v h':=e;cases mx with
   |some m=>
    obtain⟨am,_,q⟩:=aA (show aD (cX m) (fun a=>some (some a))=_ from hmx);cases q
   |none=>exact Cr s ht ho hd hx hlo hhi e
 |slice el=>
  obtain⟨n,hn,hc⟩:=aA (show aD (szT C.T el) (fun n=>bif Nat.blt 0 n then some (AOp.slice false n ax alo ahi amx) else none)=_ from hc);obtain⟨hp,hc⟩:=aN hc;cases hc;have hp:0<n:=iF hp;have e:qG (fq h n (ev ax tm) tm alo ahi amx)=.val v h':=e;have e:=oO e;obtain⟨m,e1,e⟩:=aA (show aD (BV (ev ax tm)) _=_ from e);obtain⟨hb,e2,e⟩:=aA e;obtain⟨l,e3,e⟩:=aA e;cases mx with
  |none=>
   cases hmx;exact zH s ht ho hd hn hx hlo hhi e1 e2 e3 e
  |some m'=>
   obtain⟨am,hm,q⟩:=aA (show aD (cX m') (fun a=>some (some a))=_ from hmx);cases q;obtain⟨yy,hy,e⟩:=aA (show aD ahi _=_ from e);obtain⟨m2,e4,e⟩:=aA e;obtain⟨hm2,e⟩:=aN e;have hm2:=beq_eq hm2;subst hm2;exact xD s ht ho hd hn hp hx hlo hhi hm hy e1 e2 e3 e4 e
 |_=>cases hc
theorem FX {o:Oper}{c:Call}{b:Builtin}{args:List AX}{aop:AOp}(s:Sim C g U h w)(ht:ep g tm tmps)(ho:o.op=.call c)(hb:c.callee=.builtin b)(ha:cXs c.args=some args)
  (hc:rW b C.T c.argTypes args=some aop) (e:evOp aop tm h=.val v h'):gG C g U h ((execOp (alc tmps) o).run C.P w) v h':=by
 cases b with
 |len=>
  obtain⟨t,h1,hc⟩:=aA (show aD c.argTypes.toList[0]? _=_ from hc);obtain⟨d,h2,hc⟩:=aA hc;obtain⟨k,h3,hc⟩:=aA hc;cases hc;obtain⟨x,h4,e⟩:=oN (show Fx (evs args tm) OpR.bad _=_ from e);obtain⟨y,ay,h5,h6,rfl⟩:=Bs ha h4;exact aij s ht ho hb h5 h1 h2 h3 h6 e
 |cap=>
  obtain⟨el,h1,hc⟩:=aA (show aD (iD C.T c.argTypes 0) _=_ from hc);cases hc;obtain⟨x,h4,e⟩:=oN (show Fx (evs args tm) OpR.bad _=_ from e);obtain⟨y,ay,h5,h6,rfl⟩:=Bs ha h4;exact aik s ht ho hb h5 h1 h6 e
 |append=>
  obtain⟨el,h1,hc⟩:=aA (show aD (iD C.T c.argTypes 0) _=_ from hc);obtain⟨el',h2,hc⟩:=aA hc;obtain⟨n,h3,hc⟩:=aA hc;obtain⟨z,h4,hc⟩:=aA hc;obtain⟨i,h5,hc⟩:=aA hc;obtain⟨hp,hc⟩:=aN hc;cases hc;obtain⟨x,x',h6,e⟩:=Ev (show ZM (evs args tm) OpR.bad _=_ from e);obtain⟨y,y',ay,ay',h7,h8,h9,rfl,rfl⟩:=Pd ha h6;exact RO s ht ho hb h7 h1 h2 h3 h4 h5 (iF hp) h8 h9 e
 |copy=>
  obtain⟨el,h1,hc⟩:=aA (show aD (iD C.T c.argTypes 0) _=_ from hc);obtain⟨el',h2,hc⟩:=aA hc;obtain⟨n,h3,hc⟩:=aA hc;obtain⟨hp,hc⟩:=aN hc;cases hc;obtain⟨x,x',h6,e⟩:=Ev (show ZM (evs args tm) OpR.bad _=_ from e);obtain⟨y,y',ay,ay',h7,h8,h9,rfl,rfl⟩:=Pd ha h6;exact aci s ht ho hb h7 h1 h3 h8 h9 e
 |clear=>
  obtain⟨el,h1,hc⟩:=aA (show aD (iD C.T c.argTypes 0) _=_ from hc);obtain⟨n,h3,hc⟩:=aA hc;obtain⟨z,h4,hc⟩:=aA hc;obtain⟨hp,hc⟩:=aN hc;cases hc;obtain⟨x,h6,e⟩:=oN (show Fx (evs args tm) OpR.bad _=_ from e);obtain⟨y,ay,h7,h8,rfl⟩:=Bs ha h6;exact Vf s ht ho hb h7 h1 h3 h4 h8 e
 |max=>cases hc;exact aih s ht ho hb ha e
 |min=>cases hc;exact aif s ht ho hb ha e
 |recover=>cases hc;cases e
 |_=>cases hc
theorem aib {o:Oper}{aop:AOp}(s:Sim C g U h w)(ht:ep g tm tmps)(hc:cOp o.op C.P C.T C.kw=some aop)(e:evOp aop tm h=.val v h'):
  gG C g U h ((execOp (alc tmps) o).run C.P w) v h':=by
 cases ho:o.op with
 |move x=>
  rw[ho]at hc;obtain⟨ax,h1,hc⟩:=aA (show aD (cX x) _=_ from hc);cases hc;cases e;exact afm s ht (.inl ho) h1
 |assign x=>
  rw[ho]at hc;obtain⟨ax,h1,hc⟩:=aA (show aD (cX x) _=_ from hc);cases hc;cases e;exact afm s ht (.inr ho) h1
 |pick x y z=>
  rw[ho]at hc;obtain⟨ax,h1,hc⟩:=aA (show aD (cX x) _=_ from hc);obtain⟨ay,h2,hc⟩:=aA hc;obtain⟨az,h3,hc⟩:=aA hc;cases hc;exact aca s ht ho h1 h2 h3 e
 |alloc t=>
  rw[ho]at hc;obtain⟨z,h1,hc⟩:=aA (show aD (jN C.T t) _=_ from hc);cases hc;cases e;exact aid s ho h1
 |box t x=>
  rw[ho]at hc;obtain⟨n,h1,hc⟩:=aA (show aD (szT C.T t) _=_ from hc);obtain⟨ax,h2,hc⟩:=aA hc;cases hc;exact ail s ht ho h2 e
 |build t ps=>rw[ho]at hc;exact Vh s ht ho hc e
 |buildSlice t n ps=>rw[ho]at hc;exact aii s ht ho hc e
 |load t x=>
  rw[ho]at hc;obtain⟨n,h1,hc⟩:=aA (show aD (szT C.T t) _=_ from hc);obtain⟨ax,h2,hc⟩:=aA hc;obtain⟨_,hc⟩:=aN hc;cases hc;exact acf s ht ho h1 h2 e
 |store t x y=>
  rw[ho]at hc;obtain⟨n,h1,hc⟩:=aA (show aD (szT C.T t) _=_ from hc);obtain⟨ax,h2,hc⟩:=aA hc;obtain⟨ay,h3,hc⟩:=aA hc;cases hc;exact UU s ht ho h1 h2 h3 e
 |nilCheck x=>
  rw[ho]at hc;obtain⟨ax,h1,hc⟩:=aA (show aD (cX x) _=_ from hc);cases hc;exact RB s ht ho h1 e
 |binOp op t x y t'=>
  rw[ho]at hc;obtain⟨k,h1,hc⟩:=aA (show aD (eqK C.P C.T t (isC x||isC y)) _=_ from hc);obtain⟨ax,h2,hc⟩:=aA hc;obtain⟨ay,h3,hc⟩:=aA hc;cases hc;exact aim s ht ho h1 h2 h3 e
 |unOp op t x=>
  rw[ho]at hc;obtain⟨ax,h1,hc⟩:=aA (show aD (cX x) _=_ from hc);cases hc;exact op_un s ht ho h1 e
 |convert t t' x=>
  rw[ho]at hc;obtain⟨d,h1,hc⟩:=aA (show aD (und C.T t) _=_ from hc);obtain⟨d',h2,hc⟩:=aA hc;obtain⟨ax,h3,hc⟩:=aA hc;exact acj s ht ho h1 h2 h3 hc e
 |makeInterface t x=>
  rw[ho]at hc;obtain⟨d,h1,hc⟩:=aA (show aD (und C.T t) _=_ from hc);obtain⟨h2,hc⟩:=fO hc;obtain⟨ax,h3,hc⟩:=aA hc;cases hc;cases e;exact FU s ht ho h1 h2 h3
 |makeFunc f a b=>
  rw[ho]at hc;cases f with
  |func f=>
   obtain⟨la,h1,hc⟩:=aA (show aD (cXs a) _=_ from hc);obtain⟨lb,h2,hc⟩:=aA hc;cases hc;cases e;exact acd s ht ho h1 h2
  |_=>cases hc
 |makeMap t r=>
  rw[ho]at hc;cases r with
  |none=>cases hc;cases e;exact UY s ho
  |some r=>cases hc
 |makeSlice t l c=>
  rw[ho]at hc;obtain⟨el,h1,hc⟩:=aA (show aD (pF C.T t) _=_ from hc);obtain⟨n,h2,hc⟩:=aA hc;obtain⟨z,h3,hc⟩:=aA hc;obtain⟨i,h4,hc⟩:=aA hc;obtain⟨al,h5,hc⟩:=aA hc;obtain⟨ac,h6,hc⟩:=aA hc;obtain⟨hp,hc⟩:=aN hc;cases hc;exact FP s ht ho h1 h2 h3 h4 h5 h6 (iF hp) e
 |slice t x lo hi mx=>
  rw[ho]at hc;obtain⟨ax,h1,hc⟩:=aA (show aD (cX x) _=_ from hc);obtain⟨alo,h2,hc⟩:=aA hc;obtain⟨ahi,h3,hc⟩:=aA hc;obtain⟨amx,h4,hc⟩:=aA hc;obtain⟨d,h5,hc⟩:=aA hc;exact UW s ht ho h1 h2 h3 h4 h5 hc e
 |fieldAddr t x f=>
  rw[ho]at hc;obtain⟨p,h1,hc⟩:=aA (show aD (nT C.T t f) _=_ from hc);obtain⟨ax,h2,hc⟩:=aA hc;cases hc;exact Ve s ht ho h1 h2 e
 |field t x f=>
  rw[ho]at hc;obtain⟨p,h1,hc⟩:=aA (show aD (nT C.T t f) _=_ from hc);obtain⟨ax,h2,hc⟩:=aA hc;cases hc;exact Vd s ht ho h1 h2 e
 |indexAddr t x i=>
  rw[ho]at hc;obtain⟨ax,h1,hc⟩:=aA (show aD (cX x) _=_ from hc);obtain⟨ai,h2,hc⟩:=aA hc;obtain⟨d,h3,hc⟩:=aA hc;cases d with
  |slice el=>
   obtain⟨n,h4,hc⟩:=aA (show aD (szT C.T el) _=_ from hc);cases hc;exact Vc s ht ho h3 h4 h1 h2 e
  |array len el=>
   obtain⟨n,h4,hc⟩:=aA (show aD (szT C.T el) _=_ from hc);cases hc;exact RH s ht ho h3 h4 h1 h2 e
  |_=>cases hc
 |index t x i=>
  rw[ho]at hc;obtain⟨ax,h1,hc⟩:=aA (show aD (cX x) _=_ from hc);obtain⟨ai,h2,hc⟩:=aA hc;obtain⟨d,h3,hc⟩:=aA hc;cases d with
  |string=>cases hc;exact Rx s ht ho h3 h1 h2 e
  |array len el=>
   obtain⟨n,h4,hc⟩:=aA (show aD (szT C.T el) _=_ from hc);cases hc;exact RN s ht ho h3 h4 h1 h2 e
  |_=>cases hc
 |lookup t x i ok=>
  rw[ho]at hc;obtain⟨p,h1,hc⟩:=aA (show aD (lv C.P C.T t) _=_ from hc);obtain⟨z,h2,hc⟩:=aA hc;obtain⟨ax,h3,hc⟩:=aA hc;obtain⟨ai,h4,hc⟩:=aA hc;cases hc;exact RG s ht ho h1 h2 h3 h4 e
 |mapUpdate t m k x=>
  rw[ho]at hc;obtain⟨p,h1,hc⟩:=aA (show aD (lv C.P C.T t) _=_ from hc);obtain⟨am,h2,hc⟩:=aA hc;obtain⟨ak,h3,hc⟩:=aA hc;obtain⟨ax,h4,hc⟩:=aA hc;cases hc;exact Va s ht ho h1 h2 h3 h4 e
 |typeAssert x t t' ok=>
  rw[ho]at hc;obtain⟨d,h1,hc⟩:=aA (show aD (und C.T t') _=_ from hc);obtain⟨h2,hc⟩:=fO hc;obtain⟨ax,h3,hc⟩:=aA hc;obtain⟨z,h4,hc⟩:=aA hc;cases hc;exact RM s ht ho h1 h2 h3 h4 e
 |extract x i=>
  rw[ho]at hc;obtain⟨ax,h1,hc⟩:=aA (show aD (cX x) _=_ from hc);cases hc;exact FW s ht ho h1 e
 |call c=>
  rw[ho]at hc;obtain⟨args,h1,hc⟩:=aA (show aD (cXs c.args) _=_ from hc);cases hcc:c.callee with
  |value f=>
   rw[hcc]at hc;obtain⟨af,h2,hc⟩:=aA (show aD (cX f) _=_ from hc);cases hc;cases e
  |invoke a b=>rw[hcc]at hc;cases hc
  |builtin b=>rw[hcc]at hc;exact FX s ht ho hcc h1 hc e
 |defer c=>
  rw[ho]at hc;obtain⟨args,h1,hc⟩:=aA (show aD (cXs c.args) _=_ from hc);cases hcc:c.callee with
  |value f=>
   rw[hcc]at hc;obtain⟨af,h2,hc⟩:=aA (show aD (cX f) _=_ from hc);cases hc;cases e
  |invoke a b=>rw[hcc]at hc;cases hc
  |builtin b=>rw[hcc]at hc;cases hc
 |panic x=>
  rw[ho]at hc;obtain⟨ax,h1,hc⟩:=aA (show aD (cX x) _=_ from hc);cases hc;have e:jv (ev ax tm)=.val v h':=e;generalize ev ax tm=y at e;cases y<;>cases e
 |_=>rw[ho]at hc;cases hc
end
def stF (b:Frame)(tmps:Array Value)(ds:List Deferred)(todo:List Item):Frame:={b with tmps:=tmps,defers:=ds,todo:=todo,mode:=.run}
structure KK where
 c0:Frame
 rest:List Frame
 pv:Value
 cs:List Frame
def ent (v:Value)(r:Bool):PanicEntry:={v:=v,recovered:=r,goexit:=false}
def ei (K:KK):RC->List Frame
 |.no=>K.cs
 |.ret=>{K.c0 with mode:=.returning} :: K.rest
 |.pend _=>{K.c0 with mode:=.panicking [ent K.pv false]} :: K.rest
 |.done=>{K.c0 with mode:=.panicking [ent K.pv true]} :: K.rest
def xi (K:KK)(u:Value):RC->Frame
 |.no=>K.c0.finish u
 |.ret=>{K.c0 with mode:=.returning}
 |.pend _=>{K.c0 with mode:=.panicking [ent K.pv false]}
 |.done=>{K.c0 with mode:=.returning}
def ub (g:Gh)(K:KK)(kind:CallKind):RC->Prop
 |.no=>kind=.normal
 |.ret=>kind=.deferred
 |.pend v=>kind=.deferred/\bA g v K.pv
 |.done=>kind=.deferred
inductive Dr (g:Gh):List DF->List Deferred->Prop
 |nil:Dr g [] []
 |fn {f:FuncId} {a b as:List AV} {x y us:List Value} {l:List DF} {ds:List Deferred} (ha:aY g a x) (hb:aY g b y) (hs:aY g as us) (t:Dr g l ds) :
   Dr g (.call (.fn f a b) as::l) ({target:=.fn (.func f) ⟨y⟩,args:=⟨x++us⟩} :: ds)
 |mark {k:Nat} {lc:Loc} {l:List DF} {ds:List Deferred} (h:g.ρ k 0=some lc) (t:Dr g l ds):Dr g (.mark k::l) ({target:=.collected lc.block,args:=#[]} :: ds)
inductive zo (g:Gh):Option Nat->Option Nat->Prop
 |none:zo g none none
 |some {k:Nat} {l:Loc} (h:g.ρ k 0=some l):zo g (some k) (some l.block)
theorem Dr.mono {g g':Gh}(x:Ext g g'){l:List DF}{ds:List Deferred}(h:Dr g l ds):Dr g' l ds:=by
 induction h with
 |nil=>exact .nil
 |fn ha hb hs _ ih=>exact .fn (ha.mono x) (hb.mono x) (hs.mono x) ih
 |mark h _ ih=>exact .mark (x.ρ _ _ _ h) ih
theorem zo.mono {g g':Gh}(x:Ext g g'){a b:Option Nat}(h:zo g a b):zo g' a b:=by
 cases h with
 |none=>exact .none
 |some h=>exact .some (x.ρ _ _ _ h)
theorem ub.mono {g g':Gh}(x:Ext g g'){K:KK}{kd:CallKind}{r:RC}(h:ub g K kd r):ub g' K kd r:=by
 cases r with
 |pend v=>exact⟨h.1,h.2.mono x⟩
 |_=>exact h
structure FR (g:Gh)(b:Frame)(K:KK)(nt:Nat)(fr:AF)(tmps:Array Value)(ds:List Deferred):Prop where
 ht:ep g fr.tm tmps
 hd:Dr g fr.cx.dfs ds
 hr:ub g K b.kind fr.cx.rc
 hn:nt<=tmps.size
 hf:fr.cx.fid=b.fn
 ho:zo g fr.cx.rnd b.roundOf
theorem FR.mono {g g':Gh}(x:Ext g g'){b:Frame}{K:KK}{nt:Nat}{fr:AF}{tmps:Array Value}{ds:List Deferred}(f:FR g b K nt fr tmps ds):FR g' b K nt fr tmps ds:=
 ⟨f.ht.mono x,f.hd.mono x,f.hr.mono x,f.hn,f.hf,f.ho.mono x⟩
def xM:List Item->Prop
 |.call _ _ _ _::_=>False
 |_=>True
def Out (P:Program)(b:Frame)(K:KK)(k:List Item)(m:Machine)(g:Gh)(fr:AF)(tmps:Array Value)(ds:List Deferred)(w:World):AEx->Prop
 |.normal=>Steps P m (lone (stF b tmps ds k) (ei K fr.cx.rc) w)
 |.exit id=>∃ k1,exitTo id k1=exitTo id k/\Steps P m (lone (stF b tmps ds (.code (.exit id)::k1)) (ei K fr.cx.rc) w)
 |.ret=>∃ k1,Steps P m (lone (stF b tmps ds (.code .ret::k1)) (ei K fr.cx.rc) w)
 |.panic v=>∃ k1 pv,xM k1/\bA g v pv/\Steps P m (lone {stF b tmps ds k1 with mode:=.panicking [ent pv false]} (ei K fr.cx.rc) w)
def fC (C:Cx)(b:Frame)(K:KK)(nt:Nat)(k:List Item)(m:Machine)(g:Gh)(U:Nat->Option (List AV))(h:AH)(e:AEx)(fr:AF)(h':AH):Prop:=
 ∃ g' U' w' tmps ds,Ext g g'/\nX h.z U U'/\Sim C g' U' h' w'/\Low h h'/\FR g' b K nt fr tmps ds/\Out C.P b K k m g' fr tmps ds w' e
section
variable {C:Cx}{b:Frame}{K:KK}{nt:Nat}{k:List Item}{m m1:Machine}{g g1:Gh}{U U1:Nat->Option (List AV)}{h h1 h':AH}{e:AEx}{fr fr':AF}
theorem Out.of_steps {P:Program}{tmps:Array Value}{ds:List Deferred}{w:World}(s:Steps P m m1)(o:Out P b K k m1 g fr tmps ds w e):Out P b K k m g fr tmps ds w e:=by
 cases e with
 |normal=>exact s.trans o
 |exit id=>obtain⟨k1,x,y⟩:=o;exact⟨k1,x,s.trans y⟩
 |ret=>obtain⟨k1,y⟩:=o;exact⟨k1,s.trans y⟩
 |panic v=>obtain⟨k1,pv,x,y,z⟩:=o;exact⟨k1,pv,x,y,s.trans z⟩
theorem fC.of_steps (s:Steps C.P m m1)(o:fC C b K nt k m1 g U h e fr h'):fC C b K nt k m g U h e fr h':=by
 obtain⟨g',U',w',tmps,ds,a1,a2,a3,a4,a5,a6⟩:=o;exact⟨g',U',w',tmps,ds,a1,a2,a3,a4,a5,a6.of_steps s⟩
theorem fC.after (x:Ext g g1)(u:nX h.z U U1)(l:Low h h1)(o:fC C b K nt k m g1 U1 h1 e fr h'):fC C b K nt k m g U h e fr h':=by
 obtain⟨g',U',w',tmps,ds,a1,a2,a3,a4,a5,a6⟩:=o;exact⟨g',U',w',tmps,ds,x.trans a1,u.trans a2 l.z,a3,l.trans a4,a5,a6⟩
theorem fC.then (o:fC C b K nt k m g U h .normal fr h1){k':List Item}{e':AEx}
  (n:∀ g1 U1 w1 tmps ds,Sim C g1 U1 h1 w1->FR g1 b K nt fr tmps ds->fC C b K nt k' (lone (stF b tmps ds k) (ei K fr.cx.rc) w1) g1 U1 h1 e' fr' h'):fC C b K nt k' m g U h e' fr' h':=by
 obtain⟨g1,U1,w1,tmps,ds,a1,a2,a3,a4,a5,a6⟩:=o;exact fC.after a1 a2 a4 (fC.of_steps a6 (n g1 U1 w1 tmps ds a3 a5))
theorem fC.pass {x:List Item}(o:fC C b K nt (x++k) m g U h e fr h')(hx:∀ id,exitTo id (x++k)=exitTo id k)(hn:∀ (_:e=.normal),False):fC C b K nt k m g U h e fr h':=by
 obtain⟨g1,U1,w1,tmps,ds,a1,a2,a3,a4,a5,a6⟩:=o;refine⟨g1,U1,w1,tmps,ds,a1,a2,a3,a4,a5,?_⟩;cases e with
 |normal=>exact(hn rfl).elim
 |exit id=>obtain⟨k1,p,q⟩:=a6;exact⟨k1,p.trans (hx id),q⟩
 |ret=>exact a6
 |panic v=>exact a6
theorem exBy_some {fr1:AF}{h1:AH}{e1 e':AEx}{kk:AF->AH->RX}(q:exBy e1 fr1 h1 kk=some (e',fr',h')):
  (e1=.normal/\kk fr1 h1=some (e',fr',h'))∨(e1≠.normal/\e'=e1/\fr'=fr1/\h'=h1):=by
 cases e1 with
 |normal=>exact .inl ⟨rfl,by cases fr1;cases h1;exact q⟩
 |_=>cases q;exact .inr ⟨by simp,rfl,rfl,rfl⟩
theorem andThen_some {r:RX}{kk:AF->AH->RX}{e':AEx}(q:andThen r kk=some (e',fr',h')):
  (∃ fr1 h1,r=some (.normal,fr1,h1)/\kk fr1 h1=some (e',fr',h'))∨(r=some (e',fr',h')/\e'≠.normal):=by
 obtain⟨⟨e1,fr1,h1⟩,hr,q⟩:=aA (show aD r _=_ from q);rcases exBy_some q with⟨rfl,q⟩|⟨hn,rfl,rfl,rfl⟩
 ·exact .inl ⟨fr1,h1,hr,q⟩
 ·exact .inr ⟨hr,hn⟩
end
section steps
variable {P:Program}{b:Frame}{tmps:Array Value}{ds:List Deferred}{k:List Item}{cs:List Frame}{w:World}
theorem wb (b:Frame)(tmps:Array Value)(ds:List Deferred)(k:List Item):(stF b tmps ds k).eval=alc tmps:=CF _
theorem abB:step P (lone (stF b tmps ds (.code .skip::k)) cs w)=.next (lone (stF b tmps ds k) cs w):=step_lone_go (by simp[stepG,stepG.exec,stF])
theorem Ut {l:Nat}: step P (lone (stF b tmps ds (.code (.label l)::k)) cs w)=.next (lone (stF b tmps ds k) cs w):=step_lone_go (by simp[stepG,stepG.exec,stF])
theorem FC {id:Nat}: step P (lone (stF b tmps ds (.inBlock id::k)) cs w)=.next (lone (stF b tmps ds k) cs w):=step_lone_go (by simp[stepG,stepG.exec,stF])
theorem FB {c:Code}: step P (lone (stF b tmps ds (.inScope c::k)) cs w)=.next (lone (stF b tmps ds k) cs w):=step_lone_go (by simp[stepG,stepG.exec,stF])
theorem ahT {x y:Code}: step P (lone (stF b tmps ds (.code (.seq x y)::k)) cs w)=.next (lone (stF b tmps ds (.code x :: .code y::k)) cs w):=step_lone_go (by simp[stepG,stepG.exec,stF])
theorem abF {c:Operand}{x y:Code}{t:Bool}(h:alc tmps c=.bool t):
  step P (lone (stF b tmps ds (.code (.cond c x y)::k)) cs w)=.next (lone (stF b tmps ds (.code (if t then x else y)::k)) cs w):=
 step_lone_go (by
  have:=congrFun (wb b tmps ds (.code (.cond c x y)::k)) c;simp only[stF]at this;simp[stepG,stepG.exec,stF,this,h])
theorem Uw {id:Nat}{c:Code}: step P (lone (stF b tmps ds (.code (.block id c)::k)) cs w)=.next (lone (stF b tmps ds (.code c :: .inBlock id::k)) cs w):=step_lone_go (by simp[stepG,stepG.exec,stF])
theorem abC {c:Code}: step P (lone (stF b tmps ds (.code (.loop c)::k)) cs w)=.next (lone (stF b tmps ds (.code c :: .inLoop c::k)) cs w):=step_lone_go (by simp[stepG,stepG.exec,stF])
theorem QS {c:Code}: step P (lone (stF b tmps ds (.inLoop c::k)) cs w)=.next (lone (stF b tmps ds (.code c :: .inLoop c::k)) cs w):=step_lone_go (by simp[stepG,stepG.exec,stF])
theorem Up {c:Code}: step P (lone (stF b tmps ds (.code (.scope c)::k)) cs w)=.next (lone (stF b tmps ds (.code c :: .inScope c::k)) cs w):=step_lone_go (by simp[stepG,stepG.exec,stF])
theorem abD {id:Nat}{k':List Item}(h:exitTo id k=some k'):step P (lone (stF b tmps ds (.code (.exit id)::k)) cs w)=.next (lone (stF b tmps ds k') cs w):=
 step_lone_go (by simp[stepG,stepG.exec,stF,h])
theorem QR {id:Nat}{ops:Array Oper}: step P (lone (stF b tmps ds (.code (.region id ops false)::k)) cs w)=.next (lone (stF b tmps ds (.inRegion ops (List.range ops.size)::k)) cs w):=
 step_lone_go (by simp[stepG,stepG.exec,stF])
theorem qN {ops:Array Oper}: step P (lone (stF b tmps ds (.inRegion ops []::k)) cs w)=.next (lone (stF b tmps ds k) cs w):=
 step_lone_go (by simp[stepG,stepG.exec,stF])
def rf (d:Option Tmp)(tmps:Array Value)(v:Value):Array Value:=match d with
 |some d=>tmps.setIfInBounds d v
 |none=>tmps
theorem mh {ops:Array Oper}{i:Nat}{is:List Nat}{o:Oper}(ho:ops[i]?=some o)(v:Value):
  (stF b tmps ds (.inRegion ops (i::is)::k)).finish v=stF b (rf o.dst tmps v) ds (.inRegion ops is::k):=by
 simp only[Frame.finish,stF,ho,Option.bind_some,rf];cases o.dst<;>rfl
theorem BQ {ops:Array Oper}{i:Nat}{is:List Nat}{o:Oper}(ho:ops[i]?=some o)(hw:Region.wanted o (yielded ops tmps)=false):
  step P (lone (stF b tmps ds (.inRegion ops (i::is)::k)) cs w)=.next (lone (stF b (rf o.dst tmps undef) ds (.inRegion ops is::k)) cs w):=by
 refine step_lone_go ?_;have:=mh (b:=b) (tmps:=tmps) (ds:=ds) (k:=k) (is:=is) ho undef;rw[<- this];simp[stepG,stepG.exec,stF,ho,hw]
section wanted
variable {ops:Array Oper}{i:Nat}{is:List Nat}{o:Oper}
theorem pE (ho:ops[i]?=some o)(hw:Region.wanted o (yielded ops tmps)=true)(hd:(∀ c,o.op≠.defer c)∨b.roundOf=none):
  stepG P true {frame:=stF b tmps ds (.inRegion ops (i::is)::k),callers:=cs,status:=.running,dying:=none} w =
   stepG.apply P true (stF b tmps ds (.inRegion ops (i::is)::k)) cs none (execOp (alc tmps) o) w:=by
 have e:=wb b tmps ds (.inRegion ops (i::is)::k);simp only[stF]at e;simp only[stepG,stepG.exec,stF,ho,Option.map_some,Option.getD_some,hw,if_true,stepG.oper,Frame.oper?];split
 ·rename_i l c h1 h2;rcases hd with hd|hd
  ·exact absurd h2 (hd c)
  ·rw[hd]at h1;cases h1
 ·rw[e]
theorem DA (ho:ops[i]?=some o)(hw:Region.wanted o (yielded ops tmps)=true)(hd:(∀ c,o.op≠.defer c)∨b.roundOf=none){u:Value}{w':World}
  (hr:(execOp (alc tmps) o).run P w=.ok (.value u) w'∨((execOp (alc tmps) o).run P w=.ok .skip w'/\u=undef)) :
  step P (lone (stF b tmps ds (.inRegion ops (i::is)::k)) cs w)=.next (lone (stF b (rf o.dst tmps u) ds (.inRegion ops is::k)) cs w'):=by
 refine step_lone_go ?_;rw[pE ho hw hd,<- mh ho u];rcases hr with hr|⟨hr,rfl⟩<;>simp[stepG.apply,hr]
theorem Us (ho:ops[i]?=some o)(hw:Region.wanted o (yielded ops tmps)=true)(hd:(∀ c,o.op≠.defer c)∨b.roundOf=none){u:Value}{w':World}
  (hr:(execOp (alc tmps) o).run P w=.halt (.panic u) w') :
  step P (lone (stF b tmps ds (.inRegion ops (i::is)::k)) cs w)=.next (lone {stF b tmps ds (.inRegion ops (i::is)::k) with mode:=.panicking [ent u false]} cs w'):=by
 refine step_lone_go ?_;rw[pE ho hw hd];simp[stepG.apply,hr,Frame.raise,stF,ent]
theorem Uu (ho:ops[i]?=some o)(hw:Region.wanted o (yielded ops tmps)=true)(hd:(∀ c,o.op≠.defer c)∨b.roundOf=none){f:FuncId}{args:Array Value}{w':World}
  (hr:(execOp (alc tmps) o).run P w=.ok (.enter f args) w') :
  step P (lone (stF b tmps ds (.inRegion ops (i::is)::k)) cs w)=.next (lone (Frame.enter P f args .normal) (stF b tmps ds (.inRegion ops (i::is)::k)::cs) w'):=by
 refine step_lone_go ?_;rw[pE ho hw hd];simp[stepG.apply,hr,stF]
theorem Uq (ho:ops[i]?=some o)(hw:Region.wanted o (yielded ops tmps)=true)(hd:(∀ c,o.op≠.defer c)∨b.roundOf=none){l:Nat}{f:FuncId}{ts:Array Value}{x y:Code}{w':World}
  (hr:(execOp (alc tmps) o).run P w=.ok (.round l f ts x y) w') :
  step P (lone (stF b tmps ds (.inRegion ops (i::is)::k)) cs w)=.next (lone (Frame.round l f ts x y .normal) (stF b tmps ds (.inRegion ops (i::is)::k)::cs) w'):=by
 refine step_lone_go ?_;rw[pE ho hw hd];simp[stepG.apply,hr]
theorem Uv (ho:ops[i]?=some o)(hw:Region.wanted o (yielded ops tmps)=true)(hd:b.roundOf=none){d:Deferred}{w':World}
  (hr:(execOp (alc tmps) o).run P w=.ok (.defer d) w') :
  step P (lone (stF b tmps ds (.inRegion ops (i::is)::k)) cs w)=.next (lone (stF b (rf o.dst tmps undef) (d::ds) (.inRegion ops is::k)) cs w'):=by
 refine step_lone_go ?_;rw[pE ho hw (.inr hd),<- mh ho undef];simp[stepG.apply,hr,stF]
theorem qh (ho:ops[i]?=some o)(hw:Region.wanted o (yielded ops tmps)=true)(hd:b.roundOf=none){w':World}{u:Value}{cs':List Frame}
  (hr:(execOp (alc tmps) o).run P w=.ok .recover w') (ht:(tryRecover (stF b tmps ds (.inRegion ops (i::is)::k)) cs=some (u,cs'))∨(tryRecover (stF b tmps ds (.inRegion ops (i::is)::k)) cs=none/\u=.nilIface/\cs'=cs)) :
  step P (lone (stF b tmps ds (.inRegion ops (i::is)::k)) cs w)=.next (lone (stF b (rf o.dst tmps u) ds (.inRegion ops is::k)) cs' w'):=by
 refine step_lone_go ?_;rw[pE ho hw (.inr hd),<- mh ho u];have hro:(stF b tmps ds (.inRegion ops (i::is)::k)).roundOf=none:=hd;rcases ht with ht|⟨ht,rfl,rfl⟩<;>simp[stepG.apply,hr,hro,ht]
end wanted
end steps
