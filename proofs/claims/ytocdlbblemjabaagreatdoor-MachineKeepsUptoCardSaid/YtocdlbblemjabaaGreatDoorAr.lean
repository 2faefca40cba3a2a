/- AbsGo: symbolic runs of compiled code: one rule for each step (no condition). -/
import Derived.Test.YtocdlbblemjabaaGreatDoorAq
namespace Go.AG
inductive It where
 |code (c:aF)
 |out (id:Nat)
 |ops (l:List aV)
def WP (r:RX)(Q:AEx->AF->AH->Prop):Prop:=∃ e fr h,r=some (e,fr,h)/\Q e fr h
theorem eH {e:AEx}{fr:AF}{h:AH}{Q:AEx->AF->AH->Prop}: WP (some (e,fr,h)) Q↔Q e fr h:=by
 constructor
 ·rintro⟨e',fr',h',q,r⟩;cases q;exact r
 ·intro r;exact⟨e,fr,h,rfl,r⟩
theorem gD {Q:AEx->AF->AH->Prop}: WP none Q↔False:=by
 constructor
 ·rintro⟨e',fr',h',q,r⟩;cases q
 ·intro r;exact r.elim
section
variable (call:aQ)(n:Nat)
def R:List It->(AEx->AF->AH->Prop)->AEx->AF->AH->Prop
 |[],Q=>Q
 |.code c::k,Q=>fun e fr h=>match e with
  |.normal=>WP (evCode c call n fr h) (R k Q)
  |e=>R k Q e fr h
 |.ops l::k,Q=>fun e fr h=>match e with
  |.normal=>WP (sQ l call fr h) (R k Q)
  |e=>R k Q e fr h
 |.out id::k,Q=>fun e fr h=>R k Q (aaT e id) fr h
def sC (r:Option (dH×RC×AH))(d:Option Nat)(l:List aV)(k:List It)(Q:AEx->AF->AH->Prop)(tm:Tm)(cx:AC):Prop:=
 match r with
 |some (.ret v,_,h1)=>R call n (.ops l::k) Q .normal ⟨ez d tm v,cx⟩ h1
 |some (.pan v,_,h1)=>R call n k Q (.panic v) ⟨tm,cx⟩ h1
 |none=>False
def sX (r:RX)(l:List aV)(k:List It)(Q:AEx->AF->AH->Prop):Prop:=
 match r with
 |some (e,fr,h)=>R call n (.ops l::k) Q e fr h
 |none=>False
def sR (r:OpR)(d:Option Nat)(l:List aV)(k:List It)(Q:AEx->AF->AH->Prop)(tm:Tm)(cx:AC)(h:AH):Prop:=
 match r with
 |.val v h1=>R call n (.ops l::k) Q .normal ⟨ez d tm v,cx⟩ h1
 |.call f args=>sC call n (call f args .no h) d l k Q tm cx
 |.pan v=>R call n k Q (.panic v) ⟨tm,cx⟩ h
 |.rcv=>sX call n (Hn d ⟨tm,cx⟩ h) l k Q
 |.dfr f args=>sX call n (TN d f args ⟨tm,cx⟩ h) l k Q
 |.bad=>False
def sG (w:Option Bool)(d:Option Nat)(op:AOp)(l:List aV)(k:List It)(Q:AEx->AF->AH->Prop)(tm:Tm)(cx:AC)(h:AH):Prop:=
 match w with
 |some true=>sR call n (evOp op tm h) d l k Q tm cx h
 |some false=>R call n (.ops l::k) Q .normal ⟨ez d tm (.tup []),cx⟩ h
 |none=>False
def sB (v:AV)(a b:aF)(k:List It)(Q:AEx->AF->AH->Prop)(fr:AF)(h:AH):Prop:=
 match v with
 |.bool true=>R call n (.code a::k) Q .normal fr h
 |.bool false=>R call n (.code b::k) Q .normal fr h
 |_=>False
end
section
variable {call:aQ}{n:Nat}{k:List It}{Q:AEx->AF->AH->Prop}{e:AEx}{fr:AF}{h h1:AH}{tm:Tm}{cx:AC}{a b c:aF}{id j:Nat}{l:List aV}{d:Option Nat}{op:AOp}{v:AV}{rc:RC}
theorem vX {r:RX}{f:AF->AH->RX}{Q:AEx->AF->AH->Prop}: WP (andThen r f) Q↔WP r (fun e fr h=>match e with|.normal=>WP (f fr h) Q|e=>Q e fr h):=by
 unfold andThen;cases r with
 |none=>simp only[qD,gD]
 |some p=>
  obtain⟨e,⟨tm,cx⟩,⟨x,y,z⟩⟩:=p;rw[aI,eH];cases e with
  |normal=>exact Iff.rfl
  |_=>exact eH
theorem R_nil:R call n [] Q e fr h=Q e fr h:=(rfl)
theorem aks:R call n (.code .skip::k) Q .normal fr h=R call n k Q .normal fr h:=propext eH
theorem R_seq:R call n (.code (.seq a b)::k) Q .normal fr h=R call n (.code a :: .code b::k) Q .normal fr h:=propext vX
theorem WM:R call n (.code (.region l)::k) Q .normal fr h=R call n (.ops l::k) Q .normal fr h:=(rfl)
theorem akt:R call n (.code (.exit id)::k) Q .normal fr h=R call n k Q (.exit id) fr h:=propext eH
theorem R_ret:R call n (.code .ret::k) Q .normal fr h=R call n k Q .ret fr h:=propext eH
theorem ads:R call n (.code (.block id a)::k) Q .normal fr h=R call n (.code a :: .out id::k) Q .normal fr h:=by
 apply propext;show WP (aaS id (evCode a call n fr h)) (R call n k Q)↔WP (evCode a call n fr h) fun e fr h=>R call n k Q (aaT e id) fr h
 unfold aaS;cases evCode a call n fr h with
 |none=>simp only[qD,gD]
 |some p=>obtain⟨e,fr,h⟩:=p;rw[aI,eH,eH]
theorem akv {x:AX}: R call n (.code (.cond x a b)::k) Q .normal ⟨tm,cx⟩ h=sB call n (ev x tm) a b k Q ⟨tm,cx⟩ h:=by
 apply propext;show WP (Iy (ev x tm) (evCode a call n) (evCode b call n) ⟨tm,cx⟩ h) (R call n k Q)↔_;cases ev x tm<;>first|exact gD|skip
 rename_i t;cases t<;>exact Iff.rfl
theorem abN:sB call n (.bool true) a b k Q fr h=R call n (.code a::k) Q .normal fr h:=(rfl)
theorem UD:sB call n (.bool false) a b k Q fr h=R call n (.code b::k) Q .normal fr h:=(rfl)
theorem Di:R call n (.code c::k) Q (.exit id) fr h=R call n k Q (.exit id) fr h:=(rfl)
theorem GR:R call n (.code c::k) Q .ret fr h=R call n k Q .ret fr h:=(rfl)
theorem zU:R call n (.code c::k) Q (.panic v) fr h=R call n k Q (.panic v) fr h:=(rfl)
theorem zR:R call n (.out id::k) Q .normal fr h=R call n k Q .normal fr h:=(rfl)
theorem SZ:R call n (.out id::k) Q .ret fr h=R call n k Q .ret fr h:=(rfl)
theorem Df:R call n (.out id::k) Q (.panic v) fr h=R call n k Q (.panic v) fr h:=(rfl)
theorem vj:R call n (.out id::k) Q (.exit j) fr h=R call n k Q (cond (Nat.beq j id) .normal (.exit j)) fr h:=(rfl)
theorem Ta:R call n (.ops []::k) Q .normal fr h=R call n k Q .normal fr h:=propext eH
theorem IG {r:OpR}: WP (jh r call d ⟨tm,cx⟩ h) (fun e fr h=>match e with|.normal=>WP (sQ l call fr h) (R call n k Q)|e=>R call n k Q e fr h)↔sR call n r d l k Q tm cx h:=by
 have hx:∀ r:RX,WP r (fun e fr h=>match e with|.normal=>WP (sQ l call fr h) (R call n k Q)|e=>R call n k Q e fr h)↔sX call n r l k Q:=by
  intro r;cases r with
  |none=>exact gD
  |some p=>obtain⟨e,fr,h⟩:=p;rw[eH];cases e<;>exact Iff.rfl
 cases r with
 |val v h1=>exact eH
 |call f args=>
  show WP (TL d ⟨tm,cx⟩ (call f args .no h)) _↔sC call n (call f args .no h) d l k Q tm cx;unfold TL;cases call f args .no h with
  |none=>rw[qD];exact gD
  |some p=>
   obtain⟨o,rc,h1⟩:=p;rw[aI];cases o<;>exact eH
 |rcv=>exact hx _
 |dfr f args=>exact hx _
 |pan v=>exact eH
 |bad=>exact gD
theorem R_op:R call n (.ops (⟨d,op,none⟩::l)::k) Q .normal ⟨tm,cx⟩ h=sR call n (evOp op tm h) d l k Q tm cx h:=by
 apply propext;exact(vX (r:=dL ⟨d,op,none⟩ call ⟨tm,cx⟩ h) (f:=sQ l call)).trans IG
theorem R_opg {g:Nat×Bool}: R call n (.ops (⟨d,op,some g⟩::l)::k) Q .normal ⟨tm,cx⟩ h=sG call n (wantV (nth tm g.1) g.2) d op l k Q tm cx h:=by
 apply propext;refine(vX (r:=dL ⟨d,op,some g⟩ call ⟨tm,cx⟩ h) (f:=sQ l call)).trans ?_;show WP (aD (wantV (nth tm g.1) g.2) fun w=>cond w (jh (evOp op tm h) call d ⟨tm,cx⟩ h) (some (.normal,(AF.mk tm cx).put d (.tup []),h))) _↔_;cases wantV (nth tm g.1) g.2 with
 |none=>exact gD
 |some w=>cases w with
  |true=>exact IG
  |false=>exact eH
theorem abM:sG call n (some true) d op l k Q tm cx h=sR call n (evOp op tm h) d l k Q tm cx h:=(rfl)
theorem UC:sG call n (some false) d op l k Q tm cx h=R call n (.ops l::k) Q .normal ⟨ez d tm (.tup []),cx⟩ h:=(rfl)
theorem ahV:sR call n (.val v h1) d l k Q tm cx h=R call n (.ops l::k) Q .normal ⟨ez d tm v,cx⟩ h1:=(rfl)
theorem abL {f:AV}{args:List AV}: sR call n (.call f args) d l k Q tm cx h=sC call n (call f args .no h) d l k Q tm cx:=(rfl)
theorem ahX:sR call n (.pan v) d l k Q tm cx h=R call n k Q (.panic v) ⟨tm,cx⟩ h:=(rfl)
theorem ahZ:sC call n (some (.ret v,rc,h1)) d l k Q tm cx=R call n (.ops l::k) Q .normal ⟨ez d tm v,cx⟩ h1:=(rfl)
theorem ah0:sC call n (some (.pan v,rc,h1)) d l k Q tm cx=R call n k Q (.panic v) ⟨tm,cx⟩ h1:=(rfl)
theorem ahY {f:AV}{args:List AV}: sR call n (.dfr f args) d l k Q tm cx h=sX call n (TN d f args ⟨tm,cx⟩ h) l k Q:=(rfl)
theorem ahW:sR call n .rcv d l k Q tm cx h=sX call n (Hn d ⟨tm,cx⟩ h) l k Q:=(rfl)
theorem abK:sX call n (some (e,fr,h)) l k Q=R call n (.ops l::k) Q e fr h:=(rfl)
def LQ (call:aQ)(n:Nat)(I:Nat->AF->AH->Prop)(j:Nat)(k:List It)(Q:AEx->AF->AH->Prop)(e:AEx)(fr:AF)(h:AH):Prop:=
 match e with
 |.normal=>∃ j',j'<j/\I j' fr h
 |e=>R call n k Q e fr h
theorem Te {I:Nat->AF->AH->Prop}: LQ call n I j k Q .normal fr h=∃ j',j'<j/\I j' fr h:=(rfl)
theorem adA {I:Nat->AF->AH->Prop}: LQ call n I j k Q (.exit id) fr h=R call n k Q (.exit id) fr h:=(rfl)
theorem akC {I:Nat->AF->AH->Prop}: LQ call n I j k Q .ret fr h=R call n k Q .ret fr h:=(rfl)
theorem WU {I:Nat->AF->AH->Prop}: LQ call n I j k Q (.panic v) fr h=R call n k Q (.panic v) fr h:=(rfl)
theorem bB (I:Nat->AF->AH->Prop)(m:Nat)(hm:m<n)(h0:I m fr h)
  (hstep:∀ j fr h,I j fr h->R call n [.code a] (LQ call n I j k Q) .normal fr h):R call n (.code (.loop a)::k) Q .normal fr h:=by
 show WP (Tj n (evCode a call n) fr h) (R call n k Q);have key:∀ m N,m<N->∀ fr h,I m fr h->WP (Tj N (evCode a call n) fr h) (R call n k Q):=by
  intro m;induction m using Nat.strongRecOn with
  |_ m ih=>
   intro N hN fr h hI;obtain⟨N,rfl⟩:∃ M,N=M+1:=⟨N-1,o_⟩
   rw[RW,vX];obtain⟨e,fr1,h1,q,hq⟩:=hstep m fr h hI;refine⟨e,fr1,h1,q,?_⟩;cases e with
   |normal=>obtain⟨j',hj,hI'⟩:=hq;exact ih j' hj N o_ fr1 h1 hI'
   |_=>exact hq
 exact key m n hm fr h h0
end
section
variable {tm:Tm}{h h':AH}{v w:AV}
theorem aie (x:AX):evOp (.mv x) tm h=.val (ev x tm) h:=(rfl)
theorem UX (c a b:AX):evOp (.pick c a b) tm h=oe (ev c tm) h (ev a tm) (ev b tm):=(rfl)
theorem acb (z:List AV):evOp (.new z) tm h=.val (.ptr h.z 0 0) (h.new (.box z)):=(rfl)
theorem ack (n:Nat)(x:AX):evOp (.box n x) tm h=dB h n (ev x tm):=(rfl)
theorem RL (z:List AV)(ps:List (Nat×Nat×AX)):evOp (.build z ps) tm h=bT h z (eO ps tm):=(rfl)
theorem acg (frz agg:Bool)(sz:Nat)(z:List AV)(n:Nat)(ps:List (Nat×AX)):evOp (.lit frz agg sz z n ps) tm h=fY frz agg sz z n (cD ps tm sz) h:=(rfl)
theorem Vb (agg:Bool)(sz:Nat)(x:AX):evOp (.load agg sz x) tm h=okV (cj (ev x tm) h agg sz) h:=(rfl)
theorem Ry (sz:Nat)(a x:AX):evOp (.store sz a x) tm h=okH (dQ (ev a tm) h sz (ev x tm)):=(rfl)
theorem FO (x:AX):evOp (.nilChk x) tm h=iK (ev x tm) h:=(rfl)
theorem acm (op:BinOp)(e:EqK)(x y:AX):evOp (.bin op e x y) tm h=okV (qJ (ev x tm) op e (ev y tm)) h:=(rfl)
theorem aic (op:UnOp)(x:AX):evOp (.un op x) tm h=okV (ZR op (ev x tm)) h:=(rfl)
theorem Cv (t:TypeId)(x:AX):evOp (.mkIface t x) tm h=.val (.ifc t (ev x tm)) h:=(rfl)
theorem UZ (f:FuncId)(a b:List AX):evOp (.mkFn f a b) tm h=.val (.fn f (evs a tm) (evs b tm)) h:=(rfl)
theorem RE:evOp .mkMap tm h=.val (.map h.z) (h.new (.map [])):=(rfl)
theorem Cu (agg:Bool)(sz bytes:Nat)(z:List AV)(l c:AX):evOp (.mkSlice agg sz bytes z l c) tm h=qG (fJ h agg sz bytes z (ev l tm) (ev c tm)):=(rfl)
theorem Rz (sz:Nat)(x:AX)(lo hi mx:Option AX):evOp (.slice false sz x lo hi mx) tm h=qG (fq h sz (ev x tm) tm lo hi mx):=(rfl)
theorem RJ (o sz:Nat)(agg:Bool)(x:AX):evOp (.faddr o sz agg x) tm h=cp (ev x tm) h o sz agg:=(rfl)
theorem RI (sz:Nat)(x i:AX):evOp (.iaddr sz x i) tm h=cz (ev x tm) h sz (ev i tm):=(rfl)
theorem FN (x i:AX):evOp (.strIdx x i) tm h=okV (mH (ev x tm) (ev i tm)) h:=(rfl)
theorem FV (t:Nat)(z:AV)(x i:AX)(ok:Bool):evOp (.lookup t z x i ok) tm h=okV (fm h t z ok (ev x tm) (ev i tm)) h:=(rfl)
theorem RF (t:Nat)(m k v:AX):evOp (.mapUp t m k v) tm h=okH (fK h t (ev m tm) (ev k tm) (ev v tm)):=(rfl)
theorem FY (t:TypeId)(z:AV)(x:AX)(ok:Bool):evOp (.assert t z x ok) tm h=okV (lh (ev x tm) t z ok) h:=(rfl)
theorem Cw (x:AX)(i:Nat):evOp (.extract x i) tm h=okV (aD (TV (ev x tm)) fun l=>pT i l) h:=(rfl)
theorem ach (k:Nat)(x:AX):evOp (.builtin (.len k) [x]) tm h=okV (aD (lenOf (ev x tm) h k) fun n=>some (.int .i64 (n:Int))) h:=(rfl)
theorem FZ (sz:Nat)(agg:Bool)(z:List AV)(bytes:Nat)(s x:AX):evOp (.builtin (.append sz agg z bytes) [s,x]) tm h=qG (cU h sz agg z bytes (ev s tm) (ev x tm)):=(rfl)
theorem Cs (l:List AX):evOp (.builtin .recover l) tm h=.rcv:=(rfl)
theorem ace (l:List AX):evOp (.builtin .max l) tm h=okV (CJ false (evs l tm)) h:=(rfl)
theorem Vg (f:AX)(args:List AX):evOp (.call f args) tm h=.call (ev f tm) (evs args tm):=(rfl)
theorem RK (f:AX)(args:List AX):evOp (.defer f args) tm h=.dfr (ev f tm) (evs args tm):=(rfl)
theorem RA (x:AX):evOp (.panic x) tm h=jv (ev x tm):=(rfl)
theorem okV_s:okV (some v) h=.val v h:=(rfl)
theorem okH_s:okH (some h)=.val (.tup []) h:=(rfl)
theorem ain:qG (some (v,h))=.val v h:=(rfl)
theorem ev_t (i:Nat):ev (.t i) tm=nth tm i:=(rfl)
theorem ev_c:ev (.c v) tm=v:=(rfl)
theorem ah7 (d:Nat):ez (some d) tm v=tm.put d v:=(rfl)
theorem ah8:ez none tm v=tm:=(rfl)
theorem Vi (d:Nat):nth (tm.put d v) d=v:=by rw[vM];simp
theorem RQ {d i:Nat}(hne:i≠d):nth (tm.put d v) i=nth tm i:=by rw[vM];simp[hne]
theorem BP:cT []=Tr.lf:=(rfl)
theorem QP (a:AV):cT [a]=Tr.lf.put 0 a:=(rfl)
theorem QO (a b:AV):cT [a,b]=(Tr.lf.put 0 a).put 1 b:=(rfl)
theorem QN (a b c:AV):cT [a,b,c]=((Tr.lf.put 0 a).put 1 b).put 2 c:=(rfl)
theorem QM (a b c d:AV):cT [a,b,c,d]=(((Tr.lf.put 0 a).put 1 b).put 2 c).put 3 d:=(rfl)
theorem QL (a b c d e:AV):cT [a,b,c,d,e]=((((Tr.lf.put 0 a).put 1 b).put 2 c).put 3 d).put 4 e:=(rfl)
theorem QK (a b c d e f:AV):cT [a,b,c,d,e,f]=(((((Tr.lf.put 0 a).put 1 b).put 2 c).put 3 d).put 4 e).put 5 f:=(rfl)
theorem aia (c:Bool)(a b:AV):oe (.bool c) h a b=.val (cond c a b) h:=(rfl)
theorem ado (op:BinOp)(e:EqK)(k:IntKind)(a b:Int):qJ (.int k a) op e (.int k b)=pA op k a b:=by
 show cond (or (pP op) (TZ k k)) (pA op k a b) none=_;rw[yZ];simp
theorem adn (op:BinOp)(e:EqK)(a b:ByteArray):qJ (.str a) op e (.str b)=CG op a b:=(rfl)
theorem acU (k:IntKind)(a b:Int):pA .add k a b=some (.int k (k.wrap (a+b))):=by show some (sO k (a+b))=_;rw[jt]
theorem acN (k:IntKind)(a b:Int):pA .sub k a b=some (.int k (k.wrap (a-b))):=by show some (sO k (a-b))=_;rw[jt]
theorem acT (k:IntKind)(a b:Int):pA .eql k a b=some (.bool (decide (a=b))):=by show some (AV.bool (Dq a b))=_;rw[lX];congr 2
theorem acO (k:IntKind)(a b:Int):pA .neq k a b=some (.bool (!decide (a=b))):=by show some (AV.bool (!Dq a b))=_;rw[lX];congr 2
theorem acP (k:IntKind)(a b:Int):pA .lss k a b=some (.bool (decide (a<b))):=by show some (AV.bool (!leI b a))=_;rw[vN]
theorem acQ (k:IntKind)(a b:Int):pA .leq k a b=some (.bool (decide (a<=b))):=by show some (AV.bool (leI a b))=_;rw[rA]
theorem acR (k:IntKind)(a b:Int):pA .gtr k a b=some (.bool (decide (b<a))):=by show some (AV.bool (!leI a b))=_;rw[vN]
theorem acS (k:IntKind)(a b:Int):pA .geq k a b=some (.bool (decide (b<=a))):=by show some (AV.bool (leI b a))=_;rw[rA]
theorem abv (a b:ByteArray):CG .eql a b=some (.bool (a==b)):=by show some (AV.bool (Dp a b))=_;rw[lu]
theorem abu (a b:ByteArray):CG .neq a b=some (.bool (!(a==b))):=by show some (AV.bool (!Dp a b))=_;rw[lu]
theorem ahO (b:Bool):ZR .not (.bool b)=some (.bool (!b)):=(rfl)
theorem acA (s:ByteArray):lenOf (.str s) h 0=some s.size:=(rfl)
theorem Vx:lenOf .nl h 1=some 0:=(rfl)
theorem acC (es:List AV):lenOf (.ls es) h 1=some es.length:=by show some (len es)=_;rw[bH]
theorem acB (k g sz off n:Nat):lenOf (.row k g sz off n) h 1=some n:=(rfl)
theorem ahM (b:Bool):wantV (.tup []) b=some false:=(rfl)
theorem fI (agg:Bool)(sz:Nat)(h1:v.isAgg=agg)(h2:v.cells.length=sz):cj (.vptr v) h agg sz=some v:=by
 show cond (and (mq v.isAgg agg) (Nat.beq (len v.cells) sz)) (some v) none=_;rw[bH,h2,h1];have:Nat.beq sz sz=true:=Nat.beq_refl sz;rw[this];cases agg<;>rfl
theorem RY {es:List AV}{sz:Nat}{i:Int}{k:IntKind}{x:AV}(hi:0<=i)(hx:es[i.toNat]?=some x)(hs:x.cells.length=sz):cz (.ls es) h sz (.int k i)=.val (.vptr x) h:=by
 obtain⟨m,rfl⟩:=Int.eq_ofNat_of_zero_le hi;have hx:es[m]?=some x:=by simpa using hx
 show okV (aD (some m) fun n=>aD (pT n es) fun v=>cond (Nat.beq (len v.cells) sz) (some (.vptr v)) none) h=_;rw[aI,ie,hx,aI,bH,hs];have:Nat.beq sz sz=true:=Nat.beq_refl sz;rw[this];rfl
end
mutual
def AV.norm:AV->AV
 |.nl=>.ls []
 |.ls es=>.ls (AV.ald es)
 |.clip es=>.ls (AV.ald es)
 |.fn f a b=>.fn f (AV.ald a) (AV.ald b)
 |.agg cs=>.agg (AV.ald cs)
 |.tup vs=>.tup (AV.ald vs)
 |.bool b=>.bool b
 |.int k n=>.int k n
 |.str s=>.str s
 |.nilp=>.nilp
 |.ptr k g o=>.ptr k g o
 |.vptr v=>.vptr v
 |.row k g sz off n=>.row k g sz off n
 |.nilm=>.nilm
 |.map k=>.map k
 |.yld l=>.yld l
 |.nilf=>.nilf
 |.ifc t v=>.ifc t v
 |.nili=>.nili
 |.any=>.any
def AV.ald:List AV->List AV
 |[]=>[]
 |a::l=>a.norm::AV.ald l
end
theorem oX (l:List AV):AV.ald l=l.map AV.norm:=by
 induction l with
 |nil=>rfl
 |cons a l ih=>simp[AV.ald,ih]
theorem iq (l:List AV):(AV.ald l).length=l.length:=by rw[oX];simp
theorem mM (l m:List AV):AV.ald (l++m)=AV.ald l++AV.ald m:=by simp[oX]
theorem Cy (a:AV):a.norm.isCell=a.isCell:=by cases a<;>rfl
theorem uN (a:AV):a.norm.cells=AV.ald a.cells:=by cases a<;>simp[AV.norm,AV.ald,AV.cells]
theorem jR (l:List AV):aR (AV.ald l)=aR l:=by
 induction l with
 |nil=>rfl
 |cons a l ih=>simp only[AV.ald,bX,ih,Cy]
theorem ng (l:List AV):flat (AV.ald l)=AV.ald (flat l):=by
 induction l with
 |nil=>rfl
 |cons a l ih=>simp only[AV.ald,cw,uN,ih,mM]
theorem uM {l:List AV}{sz:Nat}(h:∀ e∈l,e.cells.length=sz):∀ e∈AV.ald l,e.cells.length=sz:=by
 intro e he;rw[oX]at he;obtain⟨x,hx,rfl⟩:=List.mem_map.1 he;rw[uN,iq];exact h x hx
mutual
theorem bA.norm {g:Gh}: ∀ {a:AV} {u:Value},bA g a u->bA g a.norm u
 |_,_,.bool b=>.bool b
 |_,_,.int k n=>.int k n
 |_,_,.str s=>.str s
 |_,_,.nilp=>.nilp
 |_,_,.ptr h=>.ptr h
 |_,_,.vptr hc h=>.vptr hc h
 |_,_,.nl=>.lst0
 |_,_,.ls hs ha hn hl h=>.ls (uM hs) (by rw[ng,jR];exact ha) (by rw[iq];exact hn) (by rw[iq];exact hl) (by rw[ng];exact eu.norm h)
 |_,_,.lst0=>.lst0
 |_,_,.clip hs ha hn hl h=>.ls (uM hs) (by rw[ng,jR];exact ha) (by rw[iq];exact hn) (by rw[iq];omega) (by rw[ng];exact eu.norm h)
 |_,_,.clip0=>.lst0
 |_,_,.row h hs hl=>.row h hs hl
 |_,_,.row0 h hs hl=>.row0 h hs hl
 |_,_,.nilm=>.nilm
 |_,_,.map h=>.map h
 |_,_,.fn h h'=>.fn (aY.norm h) (aY.norm h')
 |_,_,.yld h=>.yld h
 |_,_,.nilf=>.nilf
 |_,_,.ifc h=>.ifc h
 |_,_,.nili=>.nili
 |_,_,.agg hc h=>.agg (by rw[jR];exact hc) (aY.norm h)
 |_,_,.tup h=>.tup (aY.norm h)
 |_,_,.any u=>.any u
theorem aY.norm {g:Gh}: ∀ {a:List AV} {u:List Value},aY g a u->aY g (AV.ald a) u
 |_,_,.nil=>.nil
 |_,_,.cons h t=>.cons (bA.norm h) (aY.norm t)
theorem eu.norm {g:Gh}: ∀ {b off:Nat} {l:List AV},eu g b off l->eu g b off (AV.ald l)
 |_,_,_,.nil b off=>.nil b off
 |_,_,_,.cons hu h t=>.cons hu (bA.norm h) (eu.norm t)
end
mutual
theorem tj:∀ a:AV,a.norm.free=a.free
 |.bool _|.int _ _|.str _|.nilp|.ptr _ _ _|.vptr _|.row _ _ _ _ _|.nilm|.map _|.yld _|.nilf|.ifc _ _|.nili|.any=>rfl
 |.nl=>by simp[AV.norm,AV.free,AV.ale]
 |.ls es=>by simp only[AV.norm,AV.free];exact fS es
 |.clip es=>by simp only[AV.norm,AV.free];exact fS es
 |.fn f a b=>by simp only[AV.norm,AV.free,fS a,fS b]
 |.agg cs=>by simp only[AV.norm,AV.free];exact fS cs
 |.tup vs=>by simp only[AV.norm,AV.free];exact fS vs
theorem fS:∀ l:List AV,AV.ale (AV.ald l)=AV.ale l
 |[]=>rfl
 |a::l=>by simp only[AV.ald,AV.ale,tj a,fS l]
end
def dH.norm:dH->dH
 |.ret v=>.ret v.norm
 |.pan v=>.pan v.norm
theorem xC (o:dH):o.norm.free=o.free:=by cases o<;>exact tj _
def Ans (C:Cx)(f:AV)(a:List AV)(o:dH):Prop:=
 f.free=true/\AV.ale a=true/\o.free=true/\∃ call h' o',cK C call/\call f a .no rF=some (o',.no,h')/\o'.norm=o
def ic (K:AV->List AV->Option dH):aQ:=fun f a rc h=>
 match rc with
 |.no=>match K f.norm (AV.ald a) with
  |some o=>some (o,.no,h)
  |none=>none
 |_=>none
theorem ahQ {C:Cx}{K:AV->List AV->Option dH}(hK:∀ f a o,K f a=some o->Ans C f a o):cK C (ic K):=by
 intro f args rc h out rc' h' q g U w fv us K' kind s hf ha hr hK';cases rc with
 |no=>
  cases hkn:K f.norm (AV.ald args) with
  |none=>simp[ic,hkn]at q
  |some o=>
   have q:some (o,RC.no,h)=some (out,rc',h'):=by simpa [ic,hkn] using q
   cases q;obtain⟨k1,k2,k3,call2,h2,o2,c1,c2,c3⟩:=hK _ _ _ hkn;have hF:∀ b o v,g.F b o=some v->(g.void w).F b o=some v:=fun _ _ _ e=>e
   obtain⟨d,fr0,hd,hent,g2,U2,w',x2,_,s2,_,hrc,hland⟩:=c1 _ _ .no rF o2 .no h2 c2 (g.void w) (fun _=>none) w fv us K' kind s.void
    (bA.local hF hf.norm k1) (aY.local hF ha.norm ((gZ _).1 k2)) hr hK'
   obtain⟨ex,s3,hF3⟩:=s.back x2 s2;refine⟨d,fr0,hd,hent,g.back w w',U,w',ex,.refl _ U,s3,.refl _,hr,?_⟩;have k4:o2.free=true:=by rw[<- c3,xC]at k3;exact k3
   subst c3;cases o2 with
   |ret v=>obtain⟨u,hv,st⟩:=hland;exact⟨u,(bA.local hF3 hv k4).norm,st⟩
   |pan v=>obtain⟨u,hv,st⟩:=hland;exact⟨u,(bA.local hF3 hv k4).norm,st⟩
 |_=>simp[ic]at q
structure Spec where
 α:Type
 fid:FuncId
 caps:α->List AV
 args:α->List AV
 out:α->dH
 dom:α->Prop
 func:∀ x y,dom x->dom y->caps x=caps y->args x=args y->out x=out y
def Spec.below (s:Spec)(p:s.α->Prop):Spec:={s with dom:=fun x=>s.dom x/\p x,func:=fun x y hx hy=>s.func x y hx.1 hy.1}
open Classical in
theorem abx {C:Cx}{E:Env}(hE:Dk C E){call:aQ}(hcall:cK C call)(n:Nat):cK C (fun fv args rc h=>wZ fv E call n args rc h):=by
 have hdraw:=OZ hcall;intro f args rc h out rc' h' q g U w fv us K kind s hf ha hr hK;replace q:wZ f E call n args rc h=some (out,rc',h'):=q;cases f<;>first|(cases q;done)|skip
 case fn fi first caps=>
  obtain⟨x,y,hx,hy,rfl⟩:=hf.fn_inv;have q:lE E call n fi (app first (app args caps)) rc h=some (out,rc',h'):=q;rw[gT,gT]at q;obtain⟨h1,h2⟩:=aiA (K:=K) hcall hdraw hE q s (hx.append (ha.append hy)) hr hK;refine⟨_,Frame.enter C.P fi ⟨x++(us++y)⟩ kind,fun w=>qj (C:=C) (.fn hx hy) rfl w,.inl ⟨fi,⟨x++(us++y)⟩,?_,rfl⟩,h2⟩;have:(⟨x++us⟩:Array Value)++(⟨y⟩:Array Value)=⟨x++(us++y)⟩:=by apply Array.ext';simp
  show(callFunc fi ((⟨x++us⟩:Array Value)++(⟨y⟩:Array Value))).run C.P w=_;rw[this];exact h1
 case yld j=>
  obtain⟨lc,hl,rfl⟩:=hf.yld_inv;obtain⟨hrc,q⟩:=aN (show cond (isNo rc) (zh call n j args h) none=some (out,rc',h') from q);cases rc<;>first|(cases hrc;done)|skip
  have hk:kind=.normal:=hr;subst hk;obtain⟨ff,ts,xx,yy,h1,h2⟩:=abk (K:=K) hcall hdraw q s hl ha hK;refine⟨{target:=.fn (.yield lc.block) #[],args:=⟨us⟩},Frame.round lc.block ff ts xx yy .normal,fun w=>by simp[Deferred.ofValue],.inr ⟨rfl,lc.block,ff,ts,xx,yy,?_,rfl⟩,h2⟩;show(Instr.yield lc.block ⟨us⟩).run C.P w=_;exact h1
section
variable {call:aQ}{n:Nat}{k:List It}{Q:AEx->AF->AH->Prop}{fr:AF}{h:AH}{tm:Tm}{cx:AC}{a b:aF}{l:List aV}{d:Option Nat}{op:AOp}
theorem GQ {id:Nat}: R call n (.out id::k) Q (.exit id) fr h=R call n k Q .normal fr h:=by
 rw[vj];have:Nat.beq id id=true:=Nat.beq_refl id;rw[this];rfl
theorem Dh {id j:Nat}(hne:j≠id):R call n (.out id::k) Q (.exit j) fr h=R call n k Q (.exit j) fr h:=by
 rw[vj,Dn hne];rfl
theorem abp (c:Bool):wantV (.bool c) true=some c:=by cases c<;>rfl
theorem abq (c:Bool):wantV (.bool c) false=some (!c):=by cases c<;>rfl
theorem pI {c:Bool}(h1:c=true->sG call n (some true) d op l k Q tm cx h)(h2:c=false->sG call n (some false) d op l k Q tm cx h):sG call n (some c) d op l k Q tm cx h:=by
 cases c with
 |true=>exact h1 rfl
 |false=>exact h2 rfl
theorem mC {c:Bool}(h1:c=false->sG call n (some true) d op l k Q tm cx h)(h2:c=true->sG call n (some false) d op l k Q tm cx h):sG call n (some (!c)) d op l k Q tm cx h:=by
 cases c with
 |true=>exact h2 rfl
 |false=>exact h1 rfl
theorem aX {p:Prop}[Decidable p](h1:p->R call n (.code a::k) Q .normal fr h)(h2:¬ p->R call n (.code b::k) Q .normal fr h):sB call n (.bool (decide p)) a b k Q fr h:=by
 by_cases hp:p
 ·rw[T_ hp];exact h1 hp
 ·rw[D_ hp];exact h2 hp
theorem pJ {c:Bool}(h1:c=true->R call n (.code a::k) Q .normal fr h)(h2:c=false->R call n (.code b::k) Q .normal fr h):sB call n (.bool c) a b k Q fr h:=by
 cases c with
 |true=>exact h1 rfl
 |false=>exact h2 rfl
end
section
variable {h:AH}{v:AV}
theorem Sd (k g off o sz:Nat)(agg:Bool):cp (.ptr k g off) h o sz agg=.val (.ptr k g (off+o)) h:=(rfl)
theorem CE (cs:List AV)(o:Nat):cp (.vptr (.agg cs)) h o 1 false=okV (aD (cs[o]?) fun v=>some (.vptr v)) h:=by
 show okV (aD (pT o cs) fun v=>some (.vptr v)) h=_;rw[ie]
theorem eV (k g off:Nat)(agg:Bool)(sz:Nat):cj (.ptr k g off) h agg sz=aD (h.get k) fun o=>loadAt o agg sz g off:=(rfl)
theorem qt (hv:v.isAgg=false):cj (.vptr v) h false 1=some v:=fI false 1 hv (by rw[je hv];rfl)
theorem kq (k:IntKind)(n:Int):cj (.vptr (.int k n)) h false 1=some (.int k n):=qt rfl
theorem eB (s:ByteArray):cj (.vptr (.str s)) h false 1=some (.str s):=qt rfl
theorem uP (es:List AV):cj (.vptr (.ls es)) h false 1=some (.ls es):=qt rfl
theorem Ge (cs:List AV)(sz:Nat)(hl:cs.length=sz):cj (.vptr (.agg cs)) h true sz=some (.agg cs):=fI true sz rfl hl
theorem eU (cs:List AV)(agg:Bool)(sz off:Nat):loadAt (.box cs) agg sz 0 off=rj agg sz off cs:=(rfl)
theorem BE (off:Nat)(cs:List AV):rj false 1 off cs=cs[off]?:=by
 show cond (Nat.beq 1 1) (pT off cs) none=_;rw[ie];rfl
theorem lK (sz off:Nat)(cs:List AV)(hl:off+sz<=cs.length):rj true sz off cs=some (.agg ((cs.drop off).take sz)):=by
 show cond (Nat.ble (off+sz) (len cs)) (some (AV.agg (tke sz (drp off cs)))) none=_;rw[bH,iB,fa,Nat.ble_eq_true_of_le hl];rfl
theorem bN (cs:List AV)(n:Nat)(hl:cs.length=n):dB h n (.agg cs)=.val (.ptr h.z 0 0) (h.new (.box cs)):=by
 show cond (and (Nat.beq (len cs) n) true) _ _=_;rw[bH,hl];have:Nat.beq n n=true:=Nat.beq_refl n;rw[this];rfl
theorem gU (k g off sz:Nat)(hl:v.lies=true)(hs:v.cells.length=sz):dQ (.ptr k g off) h sz v=aD (h.get k) fun o=>aD (storeAt o g off v.cells) fun o=>some (h.set k o):=by
 show cond (and (Nat.beq (len v.cells) sz) v.lies) _ _=_;rw[bH,hs,hl];have:Nat.beq sz sz=true:=Nat.beq_refl sz;rw[this];rfl
theorem om (cs vs:List AV)(off:Nat)(hl:off+vs.length<=cs.length):storeAt (.box cs) 0 off vs=some (.box (setR off vs cs)):=by
 show cond (and (Nat.beq 0 0) (Nat.ble (off+len vs) (len cs))) _ _=_;rw[bH,bH,Nat.ble_eq_true_of_le hl];rfl
theorem yU (cs:List AV):(AV.agg cs).cells=cs:=(rfl)
theorem SD (k:IntKind)(n:Int):(AV.int k n).cells=[.int k n]:=(rfl)
theorem SB (es:List AV):(AV.ls es).cells=[.ls es]:=(rfl)
theorem GD:AV.nl.cells=[.nl]:=(rfl)
theorem Sz (k g sz off n:Nat):(AV.row k g sz off n).cells=[.row k g sz off n]:=(rfl)
theorem EI (cs:List AV):(AV.agg cs).lies=true:=(rfl)
theorem Vw (k:IntKind)(n:Int):(AV.int k n).lies=true:=(rfl)
theorem Vv (es:List AV):(AV.ls es).lies=true:=(rfl)
theorem RT:AV.nl.lies=true:=(rfl)
theorem Vt (k g sz off n:Nat):(AV.row k g sz off n).lies=true:=(rfl)
theorem pL (tm:Tm):hO [] tm h=some []:=(rfl)
theorem lS (t:Nat)(l:List bK)(tm:Tm):hO (.tmp t::l) tm h=aD (hO l tm h) fun vs=>some (nth tm t::vs):=(rfl)
theorem kV (a:Nat)(agg:Bool)(sz:Nat)(l:List bK)(tm:Tm):hO (.cell a agg sz::l) tm h=aD (cj (nth tm a) h agg sz) fun v=>aD (hO l tm h) fun vs=>some (v::vs):=(rfl)
theorem max2 (k:IntKind)(a b:Int):CJ false [.int k a,.int k b]=some (.int k (max a b)):=by
 show some (AV.int k (Hi false a b))=_;rw[yB];congr 2;by_cases h:b > a
 ·rw[P_ h];omega
 ·rw[N_ h];omega
end
structure LV where
 idx:Int
 plus:Int
structure LL where
 c:Int
 vars:List LV
inductive T where
 |mk (kind idx:Int) (name:ByteArray) (levels:List LL) (kids:List T)
def T.kind:T->Int|.mk k _ _ _ _=>k
def T.idx:T->Int|.mk _ i _ _ _=>i
def T.name:T->ByteArray|.mk _ _ n _ _=>n
def T.L:T->List LL|.mk _ _ _ l _=>l
def T.K:T->List T|.mk _ _ _ _ ks=>ks
def bV (x:LV):AV:=.agg [.int .i64 x.idx,.int .i64 x.plus]
def ba (x:LL):AV:=.agg [.int .i64 x.c,.ls (x.vars.map bV)]
mutual
def enc:T->AV
 |.mk k i nm ls ks=>.agg [.int .i64 k,.int .i64 i,.str nm,.ls (ls.map ba),.ls (zY ks)]
def zY:List T->List AV
 |[]=>[]
 |t::l=>enc t::zY l
end
def aO (i:Int):AV:=.int .i64 i
theorem VY (l:List T):zY l=l.map enc:=by
 induction l with
 |nil=>simp[zY]
 |cons t l ih=>simp[zY,ih]
theorem BI (k i:Int)(nm:ByteArray)(ls:List LL)(ks:List T):enc (.mk k i nm ls ks)=.agg [.int .i64 k,.int .i64 i,.str nm,.ls (ls.map ba),.ls (ks.map enc)]:=by
 rw[enc,VY]
theorem Wa {x y:LV}(h:bV x=bV y):x=y:=by
 cases x;cases y;simp[bV]at h;simp[h]
theorem vP {α:Type}{f:α->AV}(hf:∀ x y,f x=f y->x=y):∀ {l m:List α},l.map f=m.map f->l=m
 |[],[],_=>rfl
 |[],_::_,h=>by simp at h
 |_::_,[],h=>by simp at h
 |x::l,y::m,h=>by
  simp only[List.map_cons,List.cons.injEq]at h;rw[hf _ _ h.1,vP hf h.2]
theorem Wd {x y:LL}(h:ba x=ba y):x=y:=by
 cases x;cases y;simp only[ba,AV.agg.injEq,List.cons.injEq,AV.int.injEq,AV.ls.injEq,and_true,true_and]at h;rw[h.1,vP (fun _ _=>Wa) h.2]
theorem We {x y:Int}(h:aO x=aO y):x=y:=by simpa [aO] using h
theorem bE {α:Type}{f:α->AV}(hf:∀ x,(f x).free=true)(l:List α):AV.ale (l.map f)=true:=by
 induction l with
 |nil=>simp[AV.ale]
 |cons a l ih=>simp[AV.ale,hf,ih]
theorem jc (x:Int):(aO x).free=true:=by simp[aO,AV.free]
theorem tC (x:LV):(bV x).free=true:=by simp[bV,AV.free,AV.ale]
theorem hJ (x:LL):(ba x).free=true:=by simp[ba,AV.free,AV.ale,bE tC]
mutual
theorem fW:∀ x:T,(enc x).free=true
 |.mk k i nm ls ks=>by simp[enc,AV.free,AV.ale,bE hJ,yT ks]
theorem yT:∀ x:List T,AV.ale (zY x)=true
 |[]=>by simp[zY,AV.ale]
 |a::l=>by simp[zY,AV.ale,fW a,yT l]
end
theorem bw {α:Type}{f:α->AV}(hf:∀ x,(f x).norm=f x)(l:List α):AV.ald (l.map f)=l.map f:=by
 rw[oX,List.map_map];exact List.map_congr_left fun x _=>hf x
theorem fb (x:Int):(aO x).norm=aO x:=by simp[aO,AV.norm]
theorem ph (x:LV):(bV x).norm=bV x:=by simp[bV,AV.norm,AV.ald]
theorem fL (x:LL):(ba x).norm=ba x:=by simp[ba,AV.norm,AV.ald,bw ph]
mutual
theorem iL:∀ x:T,(enc x).norm=enc x
 |.mk k i nm ls ks=>by simp[enc,AV.norm,AV.ald,bw fL,yS ks]
theorem yS:∀ x:List T,AV.ald (zY x)=zY x
 |[]=>by simp[zY,AV.ald]
 |a::l=>by simp[zY,AV.ald,iL a,yS l]
end
theorem uZ (l:List T):AV.ale (l.map enc)=true:=bE fW l
theorem uY (l:List T):AV.ald (l.map enc)=l.map enc:=bw iL l
theorem Gu (l:List LL):AV.ald (l.map ba)=l.map ba:=bw fL l
theorem bJ (t:T):(enc t).cells.length=5:=by cases t;simp[enc,AV.cells]
theorem hG (t:T):(enc t).isAgg=true:=by cases t;simp[enc,AV.isAgg]
theorem aK {α:Type}{f:α->AV}{sz:Nat}(hf:∀ x,(f x).cells.length=sz){ks:List α}{m:Nat}{t:α}(ht:ks[m]?=some t)(k:IntKind)(h:AH):
  cz (.ls (ks.map f)) h sz (.int k (m:Int))=.val (.vptr (f t)) h:=by
 refine RY (Int.natCast_nonneg m) ?_ (hf t);rw[Int.toNat_natCast,List.getElem?_map,ht];rfl
theorem dN (t:T)(h:AH):cj (.vptr (enc t)) h true 5=some (enc t):=fI true 5 (hG t) (bJ t)
theorem jb (t:LL)(h:AH):cj (.vptr (ba t)) h true 2=some (ba t):=fI true 2 rfl (by simp[ba,AV.cells])
theorem gi (t:LV)(h:AH):cj (.vptr (bV t)) h true 2=some (bV t):=fI true 2 rfl (by simp[bV,AV.cells])
theorem cu (t:Int)(h:AH):cj (.vptr (aO t)) h false 1=some (.int .i64 t):=fI false 1 rfl rfl
theorem bI (n:Int)(h1 : -9223372036854775808<=n)(h2:n<9223372036854775808):IntKind.wrap .i64 n=n:=lC n o_ o_
theorem aP (i:Nat)(h:i<9223372036854775807):IntKind.wrap .i64 ((i:Int)+1)=((i+1:Nat):Int):=by rw[bI _ o_ o_];omega
theorem eC (t:LL):(ba t).cells.length=2:=by simp[ba,AV.cells]
theorem cV (t:LV):(bV t).cells.length=2:=by simp[bV,AV.cells]
