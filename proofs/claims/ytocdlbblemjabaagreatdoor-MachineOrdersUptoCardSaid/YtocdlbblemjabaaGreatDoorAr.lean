/- Lemmas for MachineOrders (no condition). -/
import Derived.Test.YtocdlbblemjabaaGreatDoorAq
set_option linter.defProp false
namespace Go.AG
variable {a b:Type}{Q:AEx->AF->AH->Prop}{c:Bool}{C:Cx}{g:Gh}{args:List AV}{sz id n:Nat}{I:Nat->AF->AH->Prop}{f:a->AV}
inductive It where
 |code (c:bu)
 |out (id:Nat)
 |ops (l:List aX)
def WP (r:RX)(Q:AEx->AF->AH->Prop):Prop:=∃e fr h,r=some (e,fr,h)/\Q e fr h
theorem hJ {e:AEx}{fr:AF}{h:AH}: WP (some (e,fr,h)) Q<->Q e fr h:=by
 constructor
 ·rintro⟨b,a,h',q,r⟩;grind
 intro r;exact⟨e,fr,h,rfl,r⟩
theorem js: WP none Q<->False:=by
 constructor
 ·rintro⟨b,a,h',q,r⟩;grind
 grind
section
variable (call:aN)(n:Nat)
def R:List It->(AEx->AF->AH->Prop)->AEx->AF->AH->Prop
 |[],Q=>Q
 |.code c::k,Q=>λe fr h=>match e with
  |.normal=>WP (dY c call n fr h) (R k Q)
  |e=>R k Q e fr h
 |.ops l::k,Q=>λe fr h=>match e with
  |.normal=>WP (wc l call fr h) (R k Q)
  |e=>R k Q e fr h
 |.out id::k,Q=>λe fr h=>R k Q (WC e id) fr h
def sC (r:Option (ep×RC×AH))(d:Option Nat)(l:List aX)(k:List It)(Q:AEx->AF->AH->Prop)(tm:Tm)(cx:AC):Prop:=
 match r with
 |some (.ret v,_,h1)=>R call n (.ops l::k) Q .normal ⟨fI d tm v,cx⟩ h1
 |some (.pan v,_,h1)=>R call n k Q (.panic v) ⟨tm,cx⟩ h1
 |none=>False
def sX (r:RX)(l:List aX)(k:List It)(Q:AEx->AF->AH->Prop):Prop:=
 match r with
 |some (e,fr,h)=>R call n (.ops l::k) Q e fr h
 |none=>False
def sR (r:OpR)(d:Option Nat)(l:List aX)(k:List It)(Q:AEx->AF->AH->Prop)(tm:Tm)(cx:AC)(h:AH):Prop:=
 match r with
 |.val v h1=>R call n (.ops l::k) Q .normal ⟨fI d tm v,cx⟩ h1
 |.call f args=>sC call n (call f args .no h) d l k Q tm cx
 |.pan v=>R call n k Q (.panic v) ⟨tm,cx⟩ h
 |.rcv=>sX call n (JO d ⟨tm,cx⟩ h) l k Q
 |.dfr f args=>sX call n (QT d f args ⟨tm,cx⟩ h) l k Q
 |.bad=>False
def sG (w:Option Bool)(d:Option Nat)(op:AOp)(l:List aX)(k:List It)(Q:AEx->AF->AH->Prop)(tm:Tm)(cx:AC)(h:AH):Prop:=
 match w with
 |some true=>sR call n (da op tm h) d l k Q tm cx h
 |some false=>R call n (.ops l::k) Q .normal ⟨fI d tm (.tup []),cx⟩ h
 |none=>False
def sB (v:AV)(a b:bu)(k:List It)(Q:AEx->AF->AH->Prop)(fr:AF)(h:AH):Prop:=
 match v with
 |.bool true=>R call n (.code a::k) Q .normal fr h
 |.bool false=>R call n (.code b::k) Q .normal fr h
 |_=>False
end
section
variable {call:aN}{n:Nat}{k:List It}{Q:AEx->AF->AH->Prop}{e:AEx}{fr:AF}{h h1:AH}{tm:Tm}{cx:AC}{a b c:bu}{id j:Nat}{l:List aX}{d:Option Nat}{op:AOp}{v:AV}{rc:RC}
theorem zP {r:RX}{f:AF->AH->RX}: WP (kQ r f) Q<->WP r (λe fr h=>match e with|.normal=>WP (f fr h) Q|e=>Q e fr h):=by
 unfold kQ;cases r with
 |none=>grind [yZ,js]
 |some p=>
  obtain⟨e,⟨tm,cx⟩,⟨x,y⟩⟩:=p;rw[aK,hJ];cases e with
  |normal=>exact Iff.rfl
  |_=>exact hJ
def R_nil:R call n [] Q e fr h=Q e fr h:=(rfl)
def agq:R call n (.code .skip::k) Q .normal fr h=R call n k Q .normal fr h:=propext hJ
def R_seq:R call n (.code (.seq a b)::k) Q .normal fr h=R call n (.code a :: .code b::k) Q .normal fr h:=propext zP
def Uc:R call n (.code (.region l)::k) Q .normal fr h=R call n (.ops l::k) Q .normal fr h:=(rfl)
def agr:R call n (.code (.exit id)::k) Q .normal fr h=R call n k Q (.exit id) fr h:=propext hJ
def R_ret:R call n (.code .ret::k) Q .normal fr h=R call n k Q .ret fr h:=propext hJ
theorem ZN:R call n (.code (.block id a)::k) Q .normal fr h=R call n (.code a :: .out id::k) Q .normal fr h:=by
 apply propext;show WP (WB id (dY a call n fr h)) (R call n k Q)<->WP (dY a call n fr h) λe fr h=>R call n k Q (WC e id) fr h;unfold WB;cases dY a call n fr h with
 |none=>grind [yZ,js]
 |some p=>grind [aK,hJ]
def agt {x:AX}: R call n (.code (.cond x a b)::k) Q .normal ⟨tm,cx⟩ h=sB call n (ev x tm) a b k Q ⟨tm,cx⟩ h:=by
 apply propext;show WP (BA (ev x tm) (dY a call n) (dY b call n) ⟨tm,cx⟩ h) (R call n k Q)<->_;cases ev x tm<;>first|exact js|skip
 rename_i t;cases t<;>exact Iff.rfl
def XL:sB call n (.bool true) a b k Q fr h=R call n (.code a::k) Q .normal fr h:=(rfl)
def Sc:sB call n (.bool false) a b k Q fr h=R call n (.code b::k) Q .normal fr h:=(rfl)
def FV:R call n (.code c::k) Q (.exit id) fr h=R call n k Q (.exit id) fr h:=(rfl)
def Jy:R call n (.code c::k) Q .ret fr h=R call n k Q .ret fr h:=(rfl)
def DA:R call n (.code c::k) Q (.panic v) fr h=R call n k Q (.panic v) fr h:=(rfl)
def Dz:R call n (.out id::k) Q .normal fr h=R call n k Q .normal fr h:=(rfl)
def Qc:R call n (.out id::k) Q .ret fr h=R call n k Q .ret fr h:=(rfl)
def FQ:R call n (.out id::k) Q (.panic v) fr h=R call n k Q (.panic v) fr h:=(rfl)
theorem zd:R call n (.out id::k) Q (.exit j) fr h=R call n k Q (cond (Nat.beq j id) .normal (.exit j)) fr h:=(rfl)
def Qd:R call n (.ops []::k) Q .normal fr h=R call n k Q .normal fr h:=propext hJ
theorem Lg {r:OpR}: WP (ly r call d ⟨tm,cx⟩ h) (λe fr h=>match e with|.normal=>WP (wc l call fr h) (R call n k Q)|e=>R call n k Q e fr h)<->sR call n r d l k Q tm cx h:=by
 have hx:∀r:RX,WP r (λe fr h=>match e with|.normal=>WP (wc l call fr h) (R call n k Q)|e=>R call n k Q e fr h)<->sX call n r l k Q:=by
  intro r;cases r with
  |none=>exact js
  |some p=>obtain⟨e,fr,h⟩:=p;rw[hJ];cases e<;>exact Iff.rfl
 cases r with
 |val v h1=>exact hJ
 |call f args=>
  show WP (QS d ⟨tm,cx⟩ (call f args .no h)) _<->sC call n (call f args .no h) d l k Q tm cx;unfold QS;cases call f args .no h with
  |none=>exact js
  |some p=>
   obtain⟨o,rc,h1⟩:=p;cases o<;>exact hJ
 |rcv=>exact hx _
 |dfr f args=>exact hx _
 |pan v=>exact hJ
 |bad=>exact js
theorem R_op:R call n (.ops (⟨d,op,none⟩::l)::k) Q .normal ⟨tm,cx⟩ h=sR call n (da op tm h) d l k Q tm cx h:=by
 apply propext;exact(zP (r:=eO ⟨d,op,none⟩ call ⟨tm,cx⟩ h) (f:=wc l call)).trans Lg
theorem R_opg {g:Nat×Bool}: R call n (.ops (⟨d,op,some g⟩::l)::k) Q .normal ⟨tm,cx⟩ h=sG call n (wantV (nth tm g.1) g.2) d op l k Q tm cx h:=by
 apply propext;refine(zP (r:=eO ⟨d,op,some g⟩ call ⟨tm,cx⟩ h) (f:=wc l call)).trans ?_;show WP (aI (wantV (nth tm g.1) g.2) λw=>cond w (ly (da op tm h) call d ⟨tm,cx⟩ h) (some (.normal,(AF.mk tm cx).put d (.tup []),h))) _<->_;cases wantV (nth tm g.1) g.2 with
 |none=>exact js
 |some w=>cases w with
  |true=>exact Lg
  |false=>exact hJ
def XK:sG call n (some true) d op l k Q tm cx h=sR call n (da op tm h) d l k Q tm cx h:=(rfl)
def Sb:sG call n (some false) d op l k Q tm cx h=R call n (.ops l::k) Q .normal ⟨fI d tm (.tup []),cx⟩ h:=(rfl)
def adf:sR call n (.val v h1) d l k Q tm cx h=R call n (.ops l::k) Q .normal ⟨fI d tm v,cx⟩ h1:=(rfl)
def XJ {f:AV}: sR call n (.call f args) d l k Q tm cx h=sC call n (call f args .no h) d l k Q tm cx:=(rfl)
def adh:sR call n (.pan v) d l k Q tm cx h=R call n k Q (.panic v) ⟨tm,cx⟩ h:=(rfl)
def adj:sC call n (some (.ret v,rc,h1)) d l k Q tm cx=R call n (.ops l::k) Q .normal ⟨fI d tm v,cx⟩ h1:=(rfl)
def adk:sC call n (some (.pan v,rc,h1)) d l k Q tm cx=R call n k Q (.panic v) ⟨tm,cx⟩ h1:=(rfl)
def adi {f:AV}: sR call n (.dfr f args) d l k Q tm cx h=sX call n (QT d f args ⟨tm,cx⟩ h) l k Q:=(rfl)
def adg:sR call n .rcv d l k Q tm cx h=sX call n (JO d ⟨tm,cx⟩ h) l k Q:=(rfl)
def XI:sX call n (some (e,fr,h)) l k Q=R call n (.ops l::k) Q e fr h:=(rfl)
def LQ (call:aN)(n:Nat)(I:Nat->AF->AH->Prop)(j:Nat)(k:List It)(Q:AEx->AF->AH->Prop)(e:AEx)(fr:AF)(h:AH):Prop:=
 match e with
 |.normal=>∃a,a<j/\I a fr h
 |e=>R call n k Q e fr h
def Qe: LQ call n I j k Q .normal fr h=∃a,a<j/\I a fr h:=(rfl)
def ZS: LQ call n I j k Q (.exit id) fr h=R call n k Q (.exit id) fr h:=(rfl)
def agw: LQ call n I j k Q .ret fr h=R call n k Q .ret fr h:=(rfl)
def Ue: LQ call n I j k Q (.panic v) fr h=R call n k Q (.panic v) fr h:=(rfl)
theorem bo (I:Nat->AF->AH->Prop)(m:Nat)(hm:m<n)(l:I m fr h)
  (b:∀j fr h,I j fr h->R call n [.code a] (LQ call n I j k Q) .normal fr h):R call n (.code (.loop a)::k) Q .normal fr h:=by
 show WP (Io n (dY a call n) fr h) (R call n k Q);have g:∀m N,m<N->∀fr h,I m fr h->WP (Io N (dY a call n) fr h) (R call n k Q):=by
  intro m;induction m using Nat.strongRecOn with
  |_ m o=>
   intro N s fr h i;obtain⟨N,rfl⟩:∃M,N=M+1:=⟨N-1,o_⟩;rw[OU,zP];obtain⟨e,c,h1,q,d⟩:=b m fr h i;refine⟨e,c,h1,q,?_⟩;cases e with
   |normal=>obtain⟨r,p,f⟩:=d;grind
   |_=>exact d
 grind
end
section
variable {tm:Tm}{h h':AH}{v w:AV}
def op_r:(∀x,da (.mv x) tm h=.val (ev x tm) h)/\
  (∀c a b,da (.pick c a b) tm h=okV (EL (ev c tm) (ev a tm) (ev b tm)) h)/\
  (∀z,da (.new z) tm h=.val (.ptr h.z 0 0) (h.new (.box z)))/\
  (∀n x,da (.box n x) tm h=uk h n (ev x tm))/\
  (∀z d,da (.build z d) tm h=okV (lT z (kv d tm)) h)/\
  (∀a s z n d,da (.lit a s z n d) tm h=okV (we a s z n (fJ d tm s)) h)/\
  (∀a s x,da (.load a s x) tm h=okV (cC (ev x tm) h a s) h)/\
  (∀s a x,da (.store s a x) tm h=okH (cY (ev a tm) h s (ev x tm)))/\
  (∀x,da (.nilChk x) tm h=okV (vj (ev x tm)) h)/\
  (∀o e x y,da (.bin o e x y) tm h=okV (rj (ev x tm) o e (ev y tm)) h)/\
  (∀x,da (.un x) tm h=okV (aI (AU (ev x tm)) λb=>some (.bool (!b))) h)/\
  (∀t x,da (.mkIface t x) tm h=.val (.ifc t (ev x tm)) h)/\
  (∀f a b,da (.mkFn f a b) tm h=.val (.fn f (evs a tm) (evs b tm)) h)/\
  (da .mkMap tm h=.val (.map h.z) (h.new (.map [])))/\
  (∀a s b z l c,da (.mkSlice a s b z l c) tm h=Kc (jJ h a s b z (ev l tm) (ev c tm)))/\
  (∀s x l i,da (.slice s x l i) tm h=okV (fb s (ev x tm) tm l i) h)/\
  (∀o s a x,da (.faddr o s a x) tm h=okV (cy (ev x tm) o s a) h)/\
  (∀s x i,da (.iaddr s x i) tm h=okV (bW (ev x tm) s (ev i tm)) h)/\
  (∀x i,da (.strIdx x i) tm h=okV (vg (ev x tm) (ev i tm)) h)/\
  (∀t z x i o,da (.lookup t z x i o) tm h=okV (iq h t z o (ev x tm) (ev i tm)) h)/\
  (∀t m k v,da (.mapUp t m k v) tm h=okH (iR h t (ev m tm) (ev k tm) (ev v tm)))/\
  (∀t z x,da (.assert t z x) tm h=okV (rV (ev x tm) t z) h)/\
  (∀x i,da (.extract x i) tm h=okV (aI (ZX (ev x tm)) λl=>xF i l) h)/\
  (∀k x,da (.builtin (.len k) [x]) tm h=okV (aI (lenOf (ev x tm) h k) λn=>some (.int .i64 (n:Int))) h)/\
  (∀s a z b y x,da (.builtin (.append s a z b) [y,x]) tm h=Kc (cI h s a z b (ev y tm) (ev x tm)))/\
  (∀l,da (.builtin .recover l) tm h=.rcv)/\
  (∀l,da (.builtin .max l) tm h=okV (AR false (evs l tm)) h)/\
  (∀l,da (.builtin .min l) tm h=okV (AR true (evs l tm)) h)/\
  (∀f l,da (.call f l) tm h=.call (ev f tm) (evs l tm))/\
  (∀f l,da (.defer f l) tm h=.dfr (ev f tm) (evs l tm))/\
  (∀x,da (.panic x) tm h=tE (ev x tm)):=by
 and_intros<;>intros<;>rfl
def okV_s:okV (some v) h=.val v h:=(rfl)
def okH_s:okH (some h)=.val (.tup []) h:=(rfl)
def adE:Kc (some (v,h))=.val v h:=(rfl)
def ev_t (i:Nat):ev (.t i) tm=nth tm i:=(rfl)
def ev_c:ev (.c v) tm=v:=(rfl)
def adp (d:Nat):fI (some d) tm v=tm.put d v:=(rfl)
def adq:fI none tm v=tm:=(rfl)
def SL (d:Nat):nth (tm.put d v) d=v:=by rw[zu];simp
def OM {d i:Nat}(a:i≠d):nth (tm.put d v) i=nth tm i:=by grind [zu]
def OL (l:List AV)(i:Nat):nth (cU l) i=(l[i]?).getD (.tup []):=by
 unfold nth cU;rw[Tr.get_ofList];cases l[i]?<;>rfl
def adt (c:Bool)(a b:AV):EL (.bool c) a b=some (cond c a b):=(rfl)
def ZJ (op:BinOp)(e:EqK)(k:IntKind)(a b:Int):rj (.int k a) op e (.int k b)=qy op k a b:=by
 show cond (Rh k k) (qy op k a b) none=_;rw[CV];rfl
def ZI (op:BinOp)(e:EqK)(a b:ByteArray):rj (.str a) op e (.str b)=FE op a b:=(rfl)
def YX (k:IntKind)(a b:Int):qy .add k a b=some (.int k (k.wrap (a+b))):=by show some (Dc k (a+b))=_;rw[rG]
def YQ (k:IntKind)(a b:Int):qy .sub k a b=some (.int k (k.wrap (a-b))):=by show some (Dc k (a-b))=_;rw[rG]
def YW (k:IntKind)(a b:Int):qy .eql k a b=some (.bool (decide (a=b))):=by show some (AV.bool (Ri a b))=_;grind [tH]
def YR (k:IntKind)(a b:Int):qy .neq k a b=some (.bool (!decide (a=b))):=by show some (AV.bool (!Ri a b))=_;grind [tH]
def YS (k:IntKind)(a b:Int):qy .lss k a b=some (.bool (decide (a<b))):=by show some (AV.bool (!leI b a))=_;rw[zw]
def YT (k:IntKind)(a b:Int):qy .leq k a b=some (.bool (decide (a<=b))):=by show some (AV.bool (leI a b))=_;rw[uP]
def YU (k:IntKind)(a b:Int):qy .gtr k a b=some (.bool (decide (b<a))):=by show some (AV.bool (!leI a b))=_;rw[zw]
def YV (k:IntKind)(a b:Int):qy .geq k a b=some (.bool (decide (b<=a))):=by show some (AV.bool (leI b a))=_;rw[uP]
def Xv (a b:ByteArray):FE .eql a b=some (.bool (a==b)):=by show some (AV.bool (Kd a b))=_;rw[nj]
def Xu (a b:ByteArray):FE .neq a b=some (.bool (!(a==b))):=by show some (AV.bool (!Kd a b))=_;rw[nj]
def agn (b:Bool):AU (.bool b)=some b:=(rfl)
def YE (s:ByteArray):lenOf (.str s) h 0=some s.size:=(rfl)
def SZ:lenOf .nl h 1=some 0:=(rfl)
def YF (es:List AV):lenOf (.ls es) h 1=some es.length:=by show some (len es)=_;rw[bT]
def zH (k g sz a n:Nat):lenOf (.row k g sz a n) h 1=some n:=(rfl)
def ac3 (b:Bool):wantV (.tup []) b=some false:=(rfl)
def my (agg:Bool)(sz:Nat)(h1:v.isAgg=agg)(a:v.cells.length=sz):cC (.vp v) h agg sz=some v:=by
 show cond (and (nJ v.isAgg agg) (Nat.beq (len v.cells) sz)) (some v) none=_;rw[bT,a,h1];have:=Nat.beq_refl sz;rw[this];cases agg<;>rfl
theorem OW {es:List AV}{i:Int}{k:IntKind}{x:AV}(hi:0<=i)(hx:es[i.toNat]?=some x)(hs:x.cells.length=sz):bW (.ls es) sz (.int k i)=some (.vp x):=by
 obtain⟨m,rfl⟩:=Int.eq_ofNat_of_zero_le hi;have hx:es[m]?=some x:=by grind
 show(aI (some m) λn=>aI (xF n es) λv=>cond (Nat.beq (len v.cells) sz) (some (AV.vp v)) none)=_;rw[aK,jQ,hx,aK,bT,hs];have:=Nat.beq_refl sz;rw[this];rfl
end
mutual
def AV.norm:AV->AV
 |.nl=>.ls []
 |.ls es=>.ls (AV.norms es)
 |.clip es=>.ls (AV.norms es)
 |.fn f a b=>.fn f (AV.norms a) (AV.norms b)
 |.agg e=>.agg (AV.norms e)
 |.tup d=>.tup (AV.norms d)
 |.bool b=>.bool b
 |.int k n=>.int k n
 |.str s=>.str s
 |.nilp=>.nilp
 |.ptr k g o=>.ptr k g o
 |.vp v=>.vp v
 |.row k g sz c n=>.row k g sz c n
 |.nilm=>.nilm
 |.map k=>.map k
 |.yld l=>.yld l
 |.nilf=>.nilf
 |.ifc t v=>.ifc t v
 |.nili=>.nili
 |.any=>.any
def AV.norms:List AV->List AV
 |[]=>[]
 |a::l=>a.norm::AV.norms l
end
theorem sA (l:List AV):AV.norms l=l.map AV.norm:=by
 induction l with
 |nil=>rfl
 |cons a l b=>grind [AV.norms]
theorem jU (l:List AV):(AV.norms l).length=l.length:=by rw[sA];simp
theorem pJ (l m:List AV):AV.norms (l++m)=AV.norms l++AV.norms m:=by simp[sA]
theorem Fx (a:AV):a.norm.isCell=a.isCell:=by cases a<;>rfl
theorem yM (a:AV):a.norm.cells=AV.norms a.cells:=by cases a<;>simp[AV.norm,AV.norms,AV.cells]
theorem mo (l:List AV):aZ (AV.norms l)=aZ l:=by
 induction l with
 |nil=>rfl
 |cons a l b=>grind [AV.norms,dG,Fx]
theorem pX (l:List AV):bJ (AV.norms l)=AV.norms (bJ l):=by
 induction l with
 |nil=>rfl
 |cons a l b=>grind [AV.norms,cK,yM,pJ]
def yL {l:List AV}(h:∀e∈l,e.cells.length=sz):∀e∈AV.norms l,e.cells.length=sz:=by
 grind [sA,yM,jU]
mutual
theorem bR.norm: ∀{a:AV} {u:Value},bR g a u->bR g a.norm u
 |_,_,.bool b=>.bool b
 |_,_,.int k n=>.int k n
 |_,_,.str s=>.str s
 |_,_,.nilp=>.nilp
 |_,_,.ptr h=>.ptr h
 |_,_,.vp d h=>.vp d h
 |_,_,.nl=>.lst0
 |_,_,.ls hs e f c h=>.ls (yL hs) (by grind [pX,mo]) (by grind [jU]) (by grind [jU]) (by rw[pX];exact fO.norm h)
 |_,_,.lst0=>.lst0
 |_,_,.clip hs e f c h=>.ls (yL hs) (by grind [pX,mo]) (by grind [jU]) (by rw[jU];omega) (by rw[pX];exact fO.norm h)
 |_,_,.clip0=>.lst0
 |_,_,.row h hs c=>.row h hs c
 |_,_,.row0 h hs c=>.row0 h hs c
 |_,_,.nilm=>.nilm
 |_,_,.map h=>.map h
 |_,_,.fn h h'=>.fn (bD.norm h) (bD.norm h')
 |_,_,.yld h=>.yld h
 |_,_,.nilf=>.nilf
 |_,_,.ifc h=>.ifc h
 |_,_,.nili=>.nili
 |_,_,.agg d h=>.agg (by grind [mo]) (bD.norm h)
 |_,_,.tup h=>.tup (bD.norm h)
 |_,_,.any u=>.any u
theorem bD.norm: ∀{a:List AV} {u:List Value},bD g a u->bD g (AV.norms a) u
 |_,_,.nil=>.nil
 |_,_,.cons h t=>.cons (bR.norm h) (bD.norm t)
theorem fO.norm: ∀{b a:Nat} {l:List AV},fO g b a l->fO g b a (AV.norms l)
 |_,_,_,.nil b a=>.nil b a
 |_,_,_,.cons c h t=>.cons c (bR.norm h) (fO.norm t)
end
mutual
theorem wC:∀a:AV,a.norm.free=a.free
 |.bool _|.int _ _|.str _|.nilp|.ptr _ _ _|.vp _|.row _ _ _ _ _|.nilm|.map _|.yld _|.nilf|.ifc _ _|.nili|.any=>rfl
 |.nl=>by simp[AV.norm,AV.free,AV.frees]
 |.ls es=>by exact iZ es
 |.clip es=>by exact iZ es
 |.fn f a b=>by simp only[AV.norm,AV.free,iZ a,iZ b]
 |.agg d=>by exact iZ d
 |.tup c=>by exact iZ c
theorem iZ:∀l:List AV,AV.frees (AV.norms l)=AV.frees l
 |[]=>rfl
 |a::l=>by simp only[AV.norms,AV.frees,wC a,iZ l]
end
def ep.norm:ep->ep
 |.ret v=>.ret v.norm
 |.pan v=>.pan v.norm
theorem Bk (o:ep):o.norm.free=o.free:=by cases o<;>exact wC _
def Ans (C:Cx)(f:AV)(a:List AV)(o:ep):Prop:=
 f.free=true/\AV.frees a=true/\o.free=true/\∃call h' o',dD C call/\call f a .no uS=some (o',.no,h')/\o'.norm=o
def jO (K:AV->List AV->Option ep):aN:=λf a rc h=>
 match rc with
 |.no=>match K f.norm (AV.norms a) with
  |some o=>some (o,.no,h)
  |none=>none
 |_=>none
def ac6 {K:AV->List AV->Option ep}(J:∀f a o,K f a=some o->Ans C f a o):dD C (jO K):=by
 intro f args rc h out n h' q g U w O G H j s F M y l;cases rc with
 |no=>
  cases k:K f.norm (AV.norms args) with
  |none=>grind [jO]
  |some o=>
   have q:some (o,RC.no,h)=some (out,n,h'):=by grind [jO]
   cases q;obtain⟨I,P,V,r,T,t,R,Q,c3⟩:=J _ _ _ k;have z:∀b o v,g.F b o=some v->(g.void w).F b o=some v:=λ_ _ _ e=>e;obtain⟨d,m,D,A,W,X,x,E,_,L,_,S,c⟩:=R _ _ .no uS t .no T Q (g.void w) (λ_=>none) w O G H j s.void
    (bR.local z F.norm I) (bD.local z M.norm ((jI _).1 P)) y l
   obtain⟨ex,N,i⟩:=s.back E L;refine⟨d,m,D,o_,g.back w x,U,x,ex,.refl _ U,N,.refl _,y,?_⟩;have B:t.free=true:=by grind [Bk]
   subst c3;cases t with
   |ret v=>obtain⟨u,p,st⟩:=c;exact⟨u,(bR.local i p B).norm,st⟩
   |pan v=>obtain⟨u,p,st⟩:=c;exact⟨u,(bR.local i p B).norm,st⟩
 |_=>grind [jO]
structure Spec where
 α:Type
 fid:FuncId
 caps:α->List AV
 args:α->List AV
 out:α->ep
 dom:α->Prop
 func:∀x y,dom x->dom y->caps x=caps y->args x=args y->out x=out y
def Spec.below (s:Spec)(p:s.α->Prop):Spec:={s with dom:=λx=>s.dom x/\p x,func:=λx y hx a=>s.func x y hx.1 a.1}
open Classical in
def Xx {E:Env}(B:AZ C E){call:aN}(k:dD C call)(n:Nat):dD C (λz args rc h=>xK z E call n args rc h):=by
 have l:=MW o_;intro f args rc h out b h' q g U w z d K a s p u t r;replace q:xK f E call n args rc h=some (out,b,h'):=q;cases f<;>first|(cases q;done)|skip
 case fn e first c=>
  obtain⟨x,y,hx,F,rfl⟩:=p.fn_inv;have q:qw E call n e (app first (app args c)) rc h=some (out,b,h'):=q;rw[lY,lY]at q;obtain⟨h1,o⟩:=adR (K:=K) o_ o_ B q s (hx.append (u.append F)) t r;refine⟨_,Frame.enter C.P e ⟨x++(d++y)⟩ a,λw=>tP (C:=C) o_ rfl w,.inl ⟨e,⟨x++(d++y)⟩,?_,rfl⟩,o⟩;show(callFunc e ((⟨x++d⟩:Array Value)++(⟨y⟩:Array Value))).run C.P w=_;grind
 case yld j=>
  obtain⟨i,D,rfl⟩:=p.yld_inv;obtain⟨m,q⟩:=bj (show cond (isNo rc) (AQ call n j args h) none=some (out,b,h') from q);cases rc<;>first|(cases m;done)|skip
  have hk:=t;subst hk;obtain⟨A,ts,xx,v,h1,o⟩:=Xi (K:=K) o_ o_ q s D u r;refine⟨{target:=.fn (.yield i.block) #[],args:=⟨d⟩},Frame.round i.block A ts xx v .normal,λw=>by simp[Deferred.ofValue],.inr ⟨rfl,i.block,A,ts,xx,v,?_,rfl⟩,o⟩;show(Instr.yield i.block ⟨d⟩).run C.P w=_;omega
section
variable {call:aN}{n:Nat}{k:List It}{Q:AEx->AF->AH->Prop}{fr:AF}{h:AH}{tm:Tm}{cx:AC}{a b:bu}{l:List aX}{d:Option Nat}{op:AOp}
def Jw: R call n (.out id::k) Q (.exit id) fr h=R call n k Q .normal fr h:=by
 rw[zd];have:=Nat.beq_refl id;rw[this];rfl
def FU {j:Nat}(a:j≠id):R call n (.out id::k) Q (.exit j) fr h=R call n k Q (.exit j) fr h:=by
 rw[zd,Gg a];rfl
def Xn (c:Bool):wantV (.bool c) true=some c:=by cases c<;>rfl
def Xo (c:Bool):wantV (.bool c) false=some (!c):=by cases c<;>rfl
def qE (h1:c=true->sG call n (some true) d op l k Q tm cx h)(a:c=false->sG call n (some false) d op l k Q tm cx h):sG call n (some c) d op l k Q tm cx h:=by
 cases c with
 |true=>grind
 |false=>grind
def pC (h1:c=false->sG call n (some true) d op l k Q tm cx h)(a:c=true->sG call n (some false) d op l k Q tm cx h):sG call n (some (!c)) d op l k Q tm cx h:=by
 cases c with
 |true=>grind
 |false=>grind
def aU {p:Prop}[Decidable p](h1:p->R call n (.code a::k) Q .normal fr h)(d:¬p->R call n (.code b::k) Q .normal fr h):sB call n (.bool (decide p)) a b k Q fr h:=by
 by_cases c:p
 ·rw[T_ c];exact h1 c
 rw[D_ c];exact d c
def pD (h1:c=false->R call n (.code a::k) Q .normal fr h)(d:c=true->R call n (.code b::k) Q .normal fr h):sB call n (.bool (!c)) a b k Q fr h:=by
 cases c with
 |true=>exact d rfl
 |false=>exact h1 rfl
def tn (h1:c=true->R call n (.code a::k) Q .normal fr h)(d:c=false->R call n (.code b::k) Q .normal fr h):sB call n (.bool c) a b k Q fr h:=by
 cases c with
 |true=>exact h1 rfl
 |false=>exact d rfl
end
section
variable {h:AH}{v:AV}
def Pa (k g a o sz:Nat)(agg:Bool):cy (.ptr k g a) o sz agg=some (.ptr k g (a+o)):=(rfl)
theorem fE (k g a:Nat)(agg:Bool)(sz:Nat):cC (.ptr k g a) h agg sz=aI (h.get k) λo=>loadAt o agg sz g a:=(rfl)
theorem fh (b:List AV)(agg:Bool)(sz a:Nat):loadAt (.box b) agg sz 0 a=xG agg sz a b:=(rfl)
theorem EJ (a:Nat)(b:List AV):xG false 1 a b=b[a]?:=by
 show cond (Nat.beq 1 1) (xF a b) none=_;rw[jQ];rfl
def lv (sz a:Nat)(b:List AV)(c:a+sz<=b.length):xG true sz a b=some (.agg ((b.drop a).take sz)):=by
 show cond (Nat.ble (a+sz) (len b)) (some (AV.agg (tke sz (drp a b)))) none=_;rw[bT,lu,iC,Nat.ble_eq_true_of_le c];rfl
def ab6 (h1:v.cells.length=n)(a:v.lies=true):uk h n v=.val (.ptr h.z 0 0) (h.new (.box v.cells)):=by
 show cond (and (Nat.beq (len v.cells) n) v.lies) _ _=_;rw[bT,h1,a,Nat.beq_refl];rfl
def vW (a:List AV)(n:Nat)(b:a.length=n):uk h n (.agg a)=.val (.ptr h.z 0 0) (h.new (.box a)):=ab6 b rfl
def jF (k g a sz:Nat)(b:v.lies=true)(hs:v.cells.length=sz):cY (.ptr k g a) h sz v=aI (h.get k) λo=>aI (storeAt o g a v.cells) λo=>some (h.set k o):=by
 show cond (and (Nat.beq (len v.cells) sz) v.lies) _ _=_;rw[bT,hs,b];have:=Nat.beq_refl sz;rw[this];rfl
def qW (c b:List AV)(a:Nat)(d:a+b.length<=c.length):storeAt (.box c) 0 a b=some (.box (setR a b c)):=by
 show cond (and (Nat.beq 0 0) (Nat.ble (a+len b) (len c))) _ _=_;rw[bT,bT,Nat.ble_eq_true_of_le d];rfl
theorem CO (a:List AV):(AV.agg a).cells=a:=(rfl)
def PB (k:IntKind)(n:Int):(AV.int k n).cells=[.int k n]:=(rfl)
def Jn (b:Bool):(AV.bool b).cells=[.bool b]:=(rfl)
def Pw (s:ByteArray):(AV.str s).cells=[.str s]:=(rfl)
def PA (es:List AV):(AV.ls es).cells=[.ls es]:=(rfl)
def Jm:AV.nl.cells=[.nl]:=(rfl)
def Py (k g sz a n:Nat):(AV.row k g sz a n).cells=[.row k g sz a n]:=(rfl)
def Ho (a:List AV):(AV.agg a).lies=true:=(rfl)
def SY (k:IntKind)(n:Int):(AV.int k n).lies=true:=(rfl)
def OR (b:Bool):(AV.bool b).lies=true:=(rfl)
def SU (s:ByteArray):(AV.str s).lies=true:=(rfl)
def SX (es:List AV):(AV.ls es).lies=true:=(rfl)
def OQ:AV.nl.lies=true:=(rfl)
def SV (k g sz a n:Nat):(AV.row k g sz a n).lies=true:=(rfl)
theorem mQ (tm:Tm):fH [] tm h=some []:=(rfl)
theorem jP (t:Nat)(l:List bG)(tm:Tm):fH (.tmp t::l) tm h=aI (fH l tm h) λa=>some (nth tm t::a):=(rfl)
theorem jv (a:Nat)(agg:Bool)(sz:Nat)(l:List bG)(tm:Tm):fH (.cell a agg sz::l) tm h=aI (cC (nth tm a) h agg sz) λv=>aI (fH l tm h) λb=>some (v::b):=(rfl)
theorem oW:AV.norms []=[]:=by simp[AV.norms]
theorem mF (a:AV)(l:List AV):AV.norms (a::l)=a.norm::AV.norms l:=by simp[AV.norms]
theorem max2 (k:IntKind)(a b:Int):AR false [.int k a,.int k b]=some (.int k (max a b)):=by
 show some (AV.int k (QO false a b))=_;grind [Cg]
end
structure LV where
 X:Int
 P:Int
structure LL where
 c:Int
 V:List LV
inductive T where
 |mk (kind idx:Int) (name:ByteArray) (levels:List LL) (kids:List T)
def T.D:T->Int|.mk k _ _ _ _=>k
def T.X:T->Int|.mk _ i _ _ _=>i
def T.N:T->ByteArray|.mk _ _ n _ _=>n
def T.L:T->List LL|.mk _ _ _ l _=>l
def T.K:T->List T|.mk _ _ _ _ ks=>ks
def cQ (x:LV):AV:=.agg [.int .i64 x.X,.int .i64 x.P]
def cB (x:LL):AV:=.agg [.int .i64 x.c,.ls (x.V.map cQ)]
mutual
def enc:T->AV
 |.mk k i nm ls a=>.agg [.int .i64 k,.int .i64 i,.str nm,.ls (ls.map cB),.ls (DB a)]
def DB:List T->List AV
 |[]=>[]
 |t::l=>enc t::DB l
end
def bh (i:Int):AV:=.int .i64 i
abbrev AV.eI (l:List Int):AV:=.ls (l.map bh)
abbrev AV.eL (l:List LL):AV:=.ls (l.map cB)
abbrev AV.eV (l:List LV):AV:=.ls (l.map cQ)
abbrev AV.eT (l:List T):AV:=.ls (l.map enc)
theorem Tz (l:List T):DB l=l.map enc:=by
 induction l with
 |nil=>simp[DB]
 |cons t l a=>grind [DB]
theorem pQ (k i:Int)(nm:ByteArray)(ls:List LL)(a:List T):enc (.mk k i nm ls a)=.agg [.int .i64 k,.int .i64 i,.str nm,.ls (ls.map cB),.ls (a.map enc)]:=by
 rw[enc,Tz]
theorem TC {x y:LV}(h:cQ x=cQ y):x=y:=by
 cases x;cases y;grind [cQ]
theorem zy (b:∀x y,f x=f y->x=y):∀{l m:List a},l.map f=m.map f->l=m
 |[],[],_=>rfl
 |[],_::_,h=>by grind
 |_::_,[],h=>by grind
 |x::l,y::m,h=>by
  simp only[List.map_cons,List.cons.injEq]at h;rw[b _ _ h.1,zy b h.2]
def TF {x y:LL}(h:cB x=cB y):x=y:=by
 cases x;cases y;grind [cB,AV.agg.injEq,List.cons.injEq,AV.int.injEq,AV.ls.injEq,zy,TC]
def TG {x y:Int}(h:bh x=bh y):x=y:=by grind [bh]
theorem bY {f:b->AV}(d:∀x,(f x).free=true)(l:List b):AV.frees (l.map f)=true:=by
 induction l with
 |nil=>simp[AV.frees]
 |cons a l c=>grind [AV.frees]
theorem mA (x:Int):(bh x).free=true:=by simp[bh,AV.free]
def wK (x:LV):(cQ x).free=true:=by simp[cQ,AV.free,AV.frees]
theorem jK (x:LL):(cB x).free=true:=by simp[cB,AV.free,AV.frees,bY wK]
mutual
def mY:∀x:T,(enc x).free=true
 |.mk k i nm ls a=>by simp[enc,AV.free,AV.frees,bY jK,CM a]
def CM:∀x:List T,AV.frees (DB x)=true
 |[]=>by simp[DB,AV.frees]
 |a::l=>by simp[DB,AV.frees,mY a,CM l]
end
theorem bB (b:∀x,(f x).norm=f x)(l:List a):AV.norms (l.map f)=l.map f:=by
 grind [sA,List.map_map,List.map_congr_left]
theorem ik (x:Int):(bh x).norm=bh x:=by simp[bh,AV.norm]
theorem sL (x:LV):(cQ x).norm=cQ x:=by simp[cQ,AV.norm,AV.norms]
theorem iS (x:LL):(cB x).norm=cB x:=by simp[cB,AV.norm,AV.norms,bB sL]
mutual
theorem iU:∀x:T,(enc x).norm=enc x
 |.mk k i nm ls a=>by simp[enc,AV.norm,AV.norms,bB iS,CL a]
theorem CL:∀x:List T,AV.norms (DB x)=DB x
 |[]=>by simp[DB,AV.norms]
 |a::l=>by simp[DB,AV.norms,iU a,CL l]
end
def IZ (l:List T):AV.frees (l.map enc)=true:=bY mY l
theorem yU (l:List T):AV.norms (l.map enc)=l.map enc:=bB iU l
def Ja (l:List LL):AV.norms (l.map cB)=l.map cB:=bB iS l
theorem bH (t:T):(enc t).cells.length=5:=by cases t;simp[enc,AV.cells]
theorem jo (t:T):(enc t).isAgg=true:=by cases t;simp[enc,AV.isAgg]
def aR (c:∀x,(f x).cells.length=sz){ks:List a}{m:Nat}{t:a}(b:ks[m]?=some t)(k:IntKind):
  bW (.ls (ks.map f)) sz (.int k (m:Int))=some (.vp (f t)):=by
 refine OW o_ ?_ g_;rw[G_,List.getElem?_map,b];rfl
def rT (t:T):(enc t).lies=true:=by cases t;simp[enc,AV.lies]
def adJ:(∀l,(cB l).lies=true)/\(∀v,(cQ v).lies=true)/\(∀n,(bh n).lies=true)/\(∀k g o,(AV.ptr k g o).lies=true)/\(∀l,(AV.clip l).lies=true):=by
 and_intros<;>intros<;>rfl
def Zp:(∀k g o,(AV.ptr k g o).cells=[.ptr k g o])/\(∀l,(AV.clip l).cells=[.clip l]):=by
 and_intros<;>intros<;>rfl
def Hn (t:T)(h:AH):cC (.vp (enc t)) h true 5=some (enc t):=my true 5 (jo t) (bH t)
def OP (t:Int)(h:AH):cC (.vp (bh t)) h false 1=some (.int .i64 t):=my false 1 rfl rfl
def aW (n:Int)(h1 : -9223372036854775808<=n)(a:n<9223372036854775808):IntKind.wrap .i64 n=n:=nQ n o_ o_
def aP (i:Nat)(h:i<9223372036854775807):IntKind.wrap .i64 ((i:Int)+1)=((i+1:Nat):Int):=by rw[aW _ o_ o_];omega
noncomputable def agK (v:AV)(sz:Nat):Option AV:=cond (Nat.beq (len v.cells) sz) (some (.vp v)) none
section
variable {v:AV}{sz:Nat}{es:List AV}{k:IntKind}
def adr (c:v.cells.length=sz):agK v sz=some (.vp v):=by
 show cond (Nat.beq (len v.cells) sz) _ _=_;rw[bT,c,Nat.beq_refl];rfl
def YZ (m:Nat):bW (.ls es) sz (.int k (m:Int))=aI es[m]? λx=>agK x sz:=by
 show(aI (xF m es) λx=>agK x sz)=_;rw[jQ]
def YP:(∀a,(AV.agg a).isAgg=true)/\(∀k n,(AV.int k n).isAgg=false)/\(∀b,(AV.str b).isAgg=false)/\(∀l,(AV.ls l).isAgg=false)/\(∀l,(AV.clip l).isAgg=false)/\(∀l,(cB l).isAgg=true)/\(∀v,(cQ v).isAgg=true)/\∀t,(enc t).isAgg=true:=by
 and_intros<;>intros<;>first|rfl|exact jo _
def Jc (n:Int):(bh n).cells.length=1:=(rfl)
def Ze (c:AV)(a:List AV)(o sz:Nat)(agg:Bool):cy (.vp (.agg (c::a))) o sz agg=aI (xG agg sz o (c::a)) λv=>some (.vp v):=(rfl)
def ZG (z:List AV)(a:List (Nat×Nat×AV)):lT z a=aI (AO a z) λb=>some (.agg b):=(rfl)
def adT (a:List AV):AO [] a=some a:=(rfl)
def UT {o:Nat}{b:List (Nat×Nat×AV)}{a:List AV}(h1:v.cells.length=n)(c:o+n<=a.length)(d:v.lies=true):AO ((o,n,v)::b) a=AO b (setR o v.cells a):=by
 show cond (and (Nat.beq (len v.cells) n) (and (Nat.ble (o+n) (len a)) v.lies)) _ _=_;rw[bT,bT,h1,d,Nat.beq_refl,Nat.ble_eq_true_of_le c];rfl
def IN (tm:Tm):fJ [] tm sz=[]:=(rfl)
def IP (i:Nat)(x:AX)(l:List (Nat×AX))(tm:Tm):fJ ((i,x)::l) tm sz=(i*sz,sz,ev x tm)::fJ l tm sz:=(rfl)
end
def fj (t:LL):(cB t).cells.length=2:=by simp[cB,AV.cells]
def gG (t:LV):(cQ t).cells.length=2:=by simp[cQ,AV.cells]
