/- AbsGo: more rules for symbolic runs (no condition). -/
import Derived.Test.YtnacljdablhbgaaGreatAk
noncomputable section
namespace Go.AG
section
variable {call:aG}{n:Nat}{k:List It}{Q:AEx->AF->AH->Prop}{fr:AF}{h:AH}{tm:Tm}{cx:AC}{a b:aw}{l:List aX}{d:Option Nat}{op:AOp}
theorem EH {id:Nat}: R call n (.out id::k) Q (.exit id) fr h=R call n k Q .normal fr h:=by
 rw[EJ];have:Nat.beq id id=true:=Nat.beq_refl id;rw[this];rfl
theorem We (c:Bool):wantV (.bool c) true=some c:=by cases c<;>rfl
theorem Wf (c:Bool):wantV (.bool c) false=some (!c):=by cases c<;>rfl
theorem cO {c:Bool}(h1:c=true->sG call n (some true) d op l k Q tm cx h)(h2:c=false->sG call n (some false) d op l k Q tm cx h):sG call n (some c) d op l k Q tm cx h:=by
 cases c with
 |true=>exact h1 rfl
 |false=>exact h2 rfl
theorem bV {c:Bool}(h1:c=false->sG call n (some true) d op l k Q tm cx h)(h2:c=true->sG call n (some false) d op l k Q tm cx h):sG call n (some (!c)) d op l k Q tm cx h:=by
 cases c with
 |true=>exact h2 rfl
 |false=>exact h1 rfl
theorem bj {p:Prop}[Decidable p](h1:p->R call n (.code a::k) Q .normal fr h)(h2:¬p->R call n (.code b::k) Q .normal fr h):sB call n (.bool (decide p)) a b k Q fr h:=by
 by_cases hp:p
 ·rw[HE hp];exact h1 hp
 ·rw[HD hp];exact h2 hp
theorem bP {c:Bool}(h1:c=false->R call n (.code a::k) Q .normal fr h)(h2:c=true->R call n (.code b::k) Q .normal fr h):sB call n (.bool (!c)) a b k Q fr h:=by
 cases c with
 |true=>exact h2 rfl
 |false=>exact h1 rfl
theorem bX {c:Bool}(h1:c=true->R call n (.code a::k) Q .normal fr h)(h2:c=false->R call n (.code b::k) Q .normal fr h):sB call n (.bool c) a b k Q fr h:=by
 cases c with
 |true=>exact h1 rfl
 |false=>exact h2 rfl
end
section
variable {h:AH}{v:AV}
theorem adF (n l:Nat)(o:Tr eI)(x:eI):AH.new ⟨n,l,o⟩ x=⟨n+1,l,o.put n x⟩:=(rfl)
theorem acX (n l:Nat)(o:Tr eI)(k:Nat)(x:eI):AH.set ⟨n,l,o⟩ k x=⟨n,gz k l,o.put k x⟩:=(rfl)
theorem cp (n l:Nat)(o:Tr eI)(k:Nat):AH.get ⟨n,l,o⟩ k=o.get k:=(rfl)
theorem Le (k g off o sz:Nat)(agg:Bool):eM (.ptr k g off) h o sz agg=.val (.ptr k g (off+o)) h:=(rfl)
theorem Bt (cs:List AV)(o:Nat):eM (.vptr (.agg cs)) h o 1 false=okV (aq (cs[o]?) fun v=>some (.vptr v)) h:=by
 show okV (aq (pK o cs) fun v=>some (.vptr v)) h=_;rw[iQ]
theorem jz (k g off:Nat)(agg:Bool)(sz:Nat):dH (.ptr k g off) h agg sz=aq (h.get k) fun o=>loadAt o agg sz g off:=(rfl)
theorem pj (hv:v.isAgg=false):dH (.vptr v) h false 1=some v:=gN false 1 hv (by rw[jc hv];rfl)
theorem DW (k:IntKind)(n:Int):dH (.vptr (.int k n)) h false 1=some (.int k n):=pj rfl
theorem DV (es:List AV):dH (.vptr (.ls es)) h false 1=some (.ls es):=pj rfl
theorem DX (cs:List AV)(sz:Nat)(hl:cs.length=sz):dH (.vptr (.agg cs)) h true sz=some (.agg cs):=gN true sz rfl hl
theorem DZ (cs:List AV)(agg:Bool)(sz off:Nat):loadAt (.box cs) agg sz 0 off=pN agg sz off cs:=(rfl)
theorem po (g sz':Nat)(ag:Bool)(cs:List AV)(fz:Nat)(agg:Bool)(sz off:Nat):loadAt (.row g sz' ag cs fz) agg sz g off=pN agg sz off cs:=by
 show cond (Nat.beq g g) _ _=_;have:Nat.beq g g=true:=Nat.beq_refl g;rw[this];rfl
theorem wN (off:Nat)(cs:List AV):pN false 1 off cs=cs[off]?:=by
 show cond (Nat.beq 1 1) (pK off cs) none=_;rw[iQ];rfl
theorem tN (sz off:Nat)(cs:List AV)(hl:off+sz<=cs.length):pN true sz off cs=some (.agg ((cs.drop off).take sz)):=by
 show cond (Nat.ble (off+sz) (len cs)) (some (AV.agg (tke sz (drp off cs)))) none=_;rw[bH,lz,fM,Nat.ble_eq_true_of_le hl];rfl
theorem zP (cs:List AV)(n:Nat)(hl:cs.length=n):gU h n (.agg cs)=.val (.ptr h.z 0 0) (h.new (.box cs)):=by
 show cond (and (Nat.beq (len cs) n) true) _ _=_;rw[bH,hl];have:Nat.beq n n=true:=Nat.beq_refl n;rw[this];rfl
theorem jE (hv:v.isCell=true):gU h 1 v=.val (.ptr h.z 0 0) (h.new (.box [v])):=by
 cases v<;>first|rfl|(simp[AV.isCell]at hv)
theorem eF (k g off sz:Nat)(hl:v.lies=true)(hs:v.cells.length=sz):cR (.ptr k g off) h sz v=aq (h.get k) fun o=>aq (storeAt o g off v.cells) fun o=>some (h.set k o):=by
 show cond (and (Nat.beq (len v.cells) sz) v.lies) _ _=_;rw[bH,hs,hl];have:Nat.beq sz sz=true:=Nat.beq_refl sz;rw[this];rfl
theorem AN (cs vs:List AV)(off:Nat)(hl:off+vs.length<=cs.length):storeAt (.box cs) 0 off vs=some (.box (setR off vs cs)):=by
 show cond (and (Nat.beq 0 0) (Nat.ble (off+len vs) (len cs))) _ _=_;rw[bH,bH,Nat.ble_eq_true_of_le hl];rfl
theorem Lx (cs:List AV):(AV.agg cs).cells=cs:=(rfl)
theorem Lw (k:IntKind)(n:Int):(AV.int k n).cells=[.int k n]:=(rfl)
theorem Eo (b:Bool):(AV.bool b).cells=[.bool b]:=(rfl)
theorem En:AV.nl.cells=[.nl]:=(rfl)
theorem Lt (k g sz off n:Nat):(AV.row k g sz off n).cells=[.row k g sz off n]:=(rfl)
theorem On (cs:List AV):(AV.agg cs).lies=true:=(rfl)
theorem Om (k:IntKind)(n:Int):(AV.int k n).lies=true:=(rfl)
theorem KQ (b:Bool):(AV.bool b).lies=true:=(rfl)
theorem KO:AV.nl.lies=true:=(rfl)
theorem Oj (k g sz off n:Nat):(AV.row k g sz off n).lies=true:=(rfl)
theorem WC (tm:Tm):fF [] tm h=some []:=(rfl)
theorem WB (t:Nat)(l:List bF)(tm:Tm):fF (.tmp t::l) tm h=aq (fF l tm h) fun vs=>some (nth tm t::vs):=(rfl)
theorem Ns (a:Nat)(agg:Bool)(sz:Nat)(l:List bF)(tm:Tm):fF (.cell a agg sz::l) tm h=aq (dH (nth tm a) h agg sz) fun v=>aq (fF l tm h) fun vs=>some (v::vs):=(rfl)
theorem gP:one [v]=v:=(rfl)
theorem jW (a b:AV):one [a,b]=.tup [a,b]:=(rfl)
theorem bY (m base:Nat)(k:IntKind)(n:Int):frz m h base (.int k n)=.int k n:=by cases m<;>rfl
theorem eN (m base:Nat)(b:Bool):frz m h base (.bool b)=.bool b:=by cases m<;>rfl
theorem XF (m base:Nat)(s:ByteArray):frz m h base (.str s)=.str s:=by cases m<;>rfl
theorem zH (m base:Nat)(es:List AV):frz m h base (.ls es)=.ls es:=by cases m<;>rfl
theorem qX (m base:Nat)(es:List AV):frz m h base (.clip es)=.clip es:=by cases m<;>rfl
theorem fH (m base:Nat):frz m h base .nl=.nl:=by cases m<;>rfl
theorem cZ (m base:Nat)(l:List AV):frz (m+1) h base (.tup l)=.tup (l.map (frz m h base)):=by
 show AV.tup (we (frz m h base) l)=_;congr 1;induction l with
 |nil=>rfl
 |cons a l ih=>show frz m h base a::we (frz m h base) l=_;rw[ih];rfl
theorem cw (m base:Nat)(l:List AV):frz (m+1) h base (.agg l)=.agg (l.map (frz m h base)):=by
 show AV.agg (we (frz m h base) l)=_;congr 1;induction l with
 |nil=>rfl
 |cons a l ih=>show frz m h base a::we (frz m h base) l=_;rw[ih];rfl
theorem Cu (k:IntKind)(n:Int):(AV.int k n).norm=.int k n:=by simp[AV.norm]
theorem Kx (b:Bool):(AV.bool b).norm=.bool b:=by simp[AV.norm]
theorem NR (s:ByteArray):(AV.str s).norm=.str s:=by simp[AV.norm]
theorem Kw:AV.nl.norm=.ls []:=by simp[AV.norm]
theorem Cv (es:List AV):(AV.agg es).norm=.agg (AV.ip es):=by simp[AV.norm]
theorem sy:AV.ip []=[]:=by simp[AV.ip]
theorem pe (a:AV)(l:List AV):AV.ip (a::l)=a.norm::AV.ip l:=by simp[AV.ip]
theorem max2 (k:IntKind)(a b:Int):vY false [.int k a,.int k b]=some (.int k (max a b)):=by
 show some (AV.int k (Fb false a b))=_;rw[xE];congr 2;by_cases h:b > a
 ·rw[wae h];omega
 ·rw[wad h];omega
end
structure LV where
 i:Int
 p:Int
structure LL where
 c:Int
 v:List LV
inductive T where
 |mk (kind idx:Int) (name:ByteArray) (levels:List LL) (kids:List T)
def T.kind:T->Int|.mk k _ _ _ _=>k
def T.i:T->Int|.mk _ i _ _ _=>i
def T.name:T->ByteArray|.mk _ _ n _ _=>n
def T.L:T->List LL|.mk _ _ _ l _=>l
def T.K:T->List T|.mk _ _ _ _ ks=>ks
def encV (x:LV):AV:=.agg [.int .i64 x.i,.int .i64 x.p]
def aK (x:LL):AV:=.agg [.int .i64 x.c,.ls (x.v.map encV)]
mutual
def enc:T->AV
 |.mk k i nm ls ks=>.agg [.int .i64 k,.int .i64 i,.str nm,.ls (ls.map aK),.ls (qB ks)]
def qB:List T->List AV
 |[]=>[]
 |t::l=>enc t::qB l
end
def dF (i:Int):AV:=.int .i64 i
theorem OH (l:List T):qB l=l.map enc:=by
 induction l with
 |nil=>simp[qB]
 |cons t l ih=>simp[qB,ih]
theorem ei (k i:Int)(nm:ByteArray)(ls:List LL)(ks:List T):enc (.mk k i nm ls ks)=.agg [.int .i64 k,.int .i64 i,.str nm,.ls (ls.map aK),.ls (ks.map enc)]:=by
 rw[enc,OH]
theorem vI {x y:LV}(h:encV x=encV y):x=y:=by
 cases x;cases y;simp[encV]at h;simp[h]
theorem eB {α:Type}{f:α->AV}(hf:∀x y,f x=f y->x=y):∀{l m:List α},l.map f=m.map f->l=m
 |[],[],_=>rfl
 |[],_::_,h=>by simp at h
 |_::_,[],h=>by simp at h
 |x::l,y::m,h=>by
  simp only[List.map_cons,List.cons.injEq]at h;rw[hf _ _ h.1,eB hf h.2]
theorem hO {x y:LL}(h:aK x=aK y):x=y:=by
 cases x;cases y;simp only[aK,AV.agg.injEq,List.cons.injEq,AV.int.injEq,AV.ls.injEq,and_true,true_and]at h;rw[h.1,eB (fun _ _=>vI) h.2]
mutual
theorem fp:∀{x y:T},enc x=enc y->x=y
 |.mk k i nm ls ks,.mk k' i' nm' ls' ks',h=>by
  simp only[enc,AV.agg.injEq,List.cons.injEq,AV.int.injEq,AV.ls.injEq,AV.str.injEq,and_true,true_and]at h;obtain⟨h1,h2,h3,h4,h5⟩:=h;rw[h1,h2,h3,eB (fun _ _=>hO) h4,CO h5]
theorem CO:∀{x y:List T},qB x=qB y->x=y
 |[],[],_=>rfl
 |[],_::_,h=>by simp[qB]at h
 |_::_,[],h=>by simp[qB]at h
 |a::l,b::m,h=>by
  simp only[qB,List.cons.injEq]at h;rw[fp h.1,CO h.2]
end
theorem cL {α:Type}{f:α->AV}(hf:∀x,(f x).free=true)(l:List α):AV.jp (l.map f)=true:=by
 induction l with
 |nil=>simp[AV.jp]
 |cons a l ih=>simp[AV.jp,hf,ih]
theorem lT (x:LV):(encV x).free=true:=by simp[encV,AV.free,AV.jp]
theorem de (x:LL):(aK x).free=true:=by simp[aK,AV.free,AV.jp,cL lT]
mutual
theorem cH:∀x:T,(enc x).free=true
 |.mk k i nm ls ks=>by simp[enc,AV.free,AV.jp,cL de,ya ks]
theorem ya:∀x:List T,AV.jp (qB x)=true
 |[]=>by simp[qB,AV.jp]
 |a::l=>by simp[qB,AV.jp,cH a,ya l]
end
theorem dN {α:Type}{f:α->AV}(hf:∀x,(f x).norm=f x)(l:List α):AV.ip (l.map f)=l.map f:=by
 rw[lL,List.map_map];exact List.map_congr_left fun x _=>hf x
theorem Lm (x:Int):(dF x).norm=dF x:=by simp[dF,AV.norm]
theorem oB (x:LV):(encV x).norm=encV x:=by simp[encV,AV.norm,AV.ip]
theorem fY (x:LL):(aK x).norm=aK x:=by simp[aK,AV.norm,AV.ip,dN oB]
mutual
theorem bL:∀x:T,(enc x).norm=enc x
 |.mk k i nm ls ks=>by simp[enc,AV.norm,AV.ip,dN fY,xZ ks]
theorem xZ:∀x:List T,AV.ip (qB x)=qB x
 |[]=>by simp[qB,AV.ip]
 |a::l=>by simp[qB,AV.ip,bL a,xZ l]
end
theorem eE (l:List T):AV.jp (l.map enc)=true:=cL cH l
theorem cu (l:List T):AV.ip (l.map enc)=l.map enc:=dN bL l
theorem fB (l:List LL):AV.ip (l.map aK)=l.map aK:=dN fY l
theorem mE (l:List LV):AV.ip (l.map encV)=l.map encV:=dN oB l
theorem El (l:List Int):AV.ip (l.map dF)=l.map dF:=dN Lm l
theorem aZ (t:T):(enc t).cells.length=5:=by cases t;simp[enc,AV.cells]
theorem fu (t:T):(enc t).isAgg=true:=by cases t;simp[enc,AV.isAgg]
theorem aN {α:Type}{f:α->AV}{sz:Nat}(hf:∀x,(f x).cells.length=sz){ks:List α}{m:Nat}{t:α}(ht:ks[m]?=some t)(k:IntKind)(h:AH):
  cz (.ls (ks.map f)) h sz (.int k (m:Int))=.val (.vptr (f t)) h:=by
 refine KY (Int.natCast_nonneg m) ?_ (hf t);rw[Int.toNat_natCast,List.getElem?_map,ht];rfl
theorem Oe (t:T)(h:AH):dH (.vptr (enc t)) h true 5=some (enc t):=gN true 5 (fu t) (aZ t)
theorem KJ (t:LL)(h:AH):dH (.vptr (aK t)) h true 2=some (aK t):=gN true 2 rfl (by simp[aK,AV.cells])
theorem KI (t:LV)(h:AH):dH (.vptr (encV t)) h true 2=some (encV t):=gN true 2 rfl (by simp[encV,AV.cells])
theorem KM (t:Int)(h:AH):dH (.vptr (dF t)) h false 1=some (.int .i64 t):=gN false 1 rfl rfl
theorem br (n:Int)(h1 : -9223372036854775808<=n)(h2:n<9223372036854775808):IntKind.wrap .i64 n=n:=lj n (by omega) (by omega)
theorem aM (i:Nat)(h:i<9223372036854775807):IntKind.wrap .i64 ((i:Int)+1)=((i+1:Nat):Int):=by rw[br _ (by omega) (by omega)];omega
theorem dj (t:LL):(aK t).cells.length=2:=by simp[aK,AV.cells]
theorem ct (t:LV):(encV t).cells.length=2:=by simp[encV,AV.cells]
section
variable (call:aG)(n:Nat)
def RD (l all:List (aX×DI))(tm:Tm)(cx:AC)(h:AH)(nk:Nat)(hs:List AH)(rds:List Rd)(k:List It)(Q:AEx->AF->AH->Prop):Prop:=
 WP (ji l call all ⟨⟨tm,cx⟩,h,nk,hs,rds⟩) (R call n k Q)
def dE (ok:Bool)(tm:Tm)(cx:AC)(h:AH)(k:List It)(Q:AEx->AF->AH->Prop):Prop:=ok=true/\R call n k Q .normal ⟨tm,cx⟩ h
def dS (r:OpR)(d:Option Nat)(l all:List (aX×DI))(tm:Tm)(cx:AC)(h:AH)(nk:Nat)(hs:List AH)(rds:List Rd)(k:List It)(Q:AEx->AF->AH->Prop):Prop:=
 WP (aq (kF r call d ⟨tm,cx⟩ h) fun p=>sM p.1 ⟨⟨tm,cx⟩,h,nk,hs,rds⟩ p.2.1 (ji l call all)) (R call n k Q)
def dV (r:OpR)(d:Option Nat)(op:AOp)(lo hi:Nat)(l all:List (aX×DI))(tm:Tm)(cx:AC)(h:AH)(nk:Nat)(hs:List AH)(rds:List Rd)(k:List It)(Q:AEx->AF->AH->Prop):Prop:=
 WP (rT r ⟨⟨tm,cx⟩,h,nk,hs,rds⟩ ⟨d,op,none⟩ ⟨lo,hi,false⟩ (ji l call all)) (R call n k Q)
def dK (r:Option (bI×RC×AH))(fin:Bool)(d:Option Nat)(l all:List (aX×DI))(tm:Tm)(cx:AC)(h:AH)(nk:Nat)(hs:List AH)(rds:List Rd)(k:List It)(Q:AEx->AF->AH->Prop):Prop:=
 WP (aq (Mv d ⟨tm,cx⟩ r) fun p=>uX p.1 all fin ⟨⟨tm,cx⟩,h,nk,hs,rds⟩ p.2.1 p.2.2 (ji l call all)) (R call n k Q)
def dA (r:OpR)(fin:Bool)(d:Option Nat)(l all:List (aX×DI))(tm:Tm)(cx:AC)(h:AH)(nk:Nat)(hs:List AH)(rds:List Rd)(k:List It)(Q:AEx->AF->AH->Prop):Prop:=
 WP (aq (kF r call d ⟨tm,cx⟩ h) fun p=>uX p.1 all fin ⟨⟨tm,cx⟩,h,nk,hs,rds⟩ p.2.1 p.2.2 (ji l call all)) (R call n k Q)
def dC (c:Cls)(w:Option Bool)(d:Option Nat)(op:AOp)(lo hi:Nat)(fin:Bool)(l all:List (aX×DI))(tm:Tm)(cx:AC)(h:AH)(nk:Nat)(hs:List AH)(rds:List Rd)(k:List It)(Q:AEx->AF->AH->Prop):Prop:=
 match c,w with
 |.still,some true=>dS call n (evOp op tm h) d l all tm cx h nk hs rds k Q
 |.still,some false=>RD call n l all (fC d tm (.tup [])) cx h nk hs rds k Q
 |.reads,some true=>dV call n (evOp op tm h) d op lo hi l all tm cx h nk hs rds k Q
 |.reads,some false=>RD call n l all (fC d tm (.tup [])) cx h nk hs rds k Q
 |.acts,some true=>dA call n (evOp op tm h) fin d l all tm cx h nk hs rds k Q
 |.acts,some false=>RD call n l all (fC d tm (.tup [])) cx h nk (hs++[h]) rds k Q
 |.born,some true=>RD call n l all (fC d tm (.ptr nk 0 0)) cx h (nk+1) hs rds k Q
 |_,_=>False
end
section
variable {call:aG}{n:Nat}{l all:List (aX×DI)}{tm:Tm}{cx:AC}{h h1:AH}{nk lo hi:Nat}{hs:List AH}{rds:List Rd}{k:List It}{Q:AEx->AF->AH->Prop}{d:Option Nat}{op:AOp}{fin:Bool}{v:AV}{rc:RC}
theorem aeh {ops:List (aX×DI)}: R call n (.code (.draw ops)::k) Q .normal ⟨tm,cx⟩ h=RD call n ops ops tm cx (kI ops h) h.z [kI ops h] [] k Q:=(rfl)
theorem aej:RD call n [] all tm cx h nk hs rds k Q=dE call n (rdsOk rds hs) tm cx h k Q:=by
 apply propext;show WP (cond (rdsOk rds hs) (some (.normal,⟨tm,cx⟩,h)) none) _↔(rdsOk rds hs=true/\_);cases rdsOk rds hs with
 |true=>simp only[cond_true,fK,true_and]
 |false=>simp only[cond_false,iy,Bool.false_eq_true,false_and]
theorem eD {c:Cls}{g:Option (Nat×Bool)}(hc:op.cls=c)(hb:c=.born->g=none):
  RD call n ((⟨d,op,g⟩,⟨lo,hi,fin⟩)::l) all tm cx h nk hs rds k Q=dC call n c (wants g tm) d op lo hi fin l all tm cx h nk hs rds k Q:=by
 apply propext;show WP (rj op.cls call all ⟨d,op,g⟩ ⟨lo,hi,fin⟩ ⟨⟨tm,cx⟩,h,nk,hs,rds⟩ (ji l call all)) (R call n k Q)↔_;rw[hc];have eo:fA ⟨d,op,g⟩ call ⟨tm,cx⟩ h=aq (wants g tm) fun w=>cond w (kF (evOp op tm h) call d ⟨tm,cx⟩ h) (some (.normal,(AF.mk tm cx).put d (.tup []),h)):=(rfl)
 cases c with
 |born=>rw[hb rfl];exact Iff.rfl
 |still=>
  show WP (aq (fA ⟨d,op,g⟩ call ⟨tm,cx⟩ h) fun p=>sM p.1 _ p.2.1 _) _↔_;rw[eo];cases wants g tm with
  |none=>exact iy
  |some w=>cases w<;>exact Iff.rfl
 |reads=>
  show WP (aq (wants g tm) fun w=>cond w (rT (evOp op tm h) ⟨⟨tm,cx⟩,h,nk,hs,rds⟩ ⟨d,op,g⟩ ⟨lo,hi,fin⟩ (ji l call all)) (ji l call all ⟨(AF.mk tm cx).put d (.tup []),h,nk,hs,rds⟩)) _↔_;cases wants g tm with
  |none=>exact iy
  |some w=>cases w with
   |false=>exact Iff.rfl
   |true=>
    rw[aF,cond_true];show _↔WP (rT (evOp op tm h) ⟨⟨tm,cx⟩,h,nk,hs,rds⟩ ⟨d,op,none⟩ ⟨lo,hi,false⟩ (ji l call all)) (R call n k Q);cases evOp op tm h<;>exact Iff.rfl
 |acts=>
  show WP (aq (fA ⟨d,op,g⟩ call ⟨tm,cx⟩ h) fun p=>uX p.1 all fin _ p.2.1 p.2.2 _) _↔_;rw[eo];cases wants g tm with
  |none=>exact iy
  |some w=>cases w<;>exact Iff.rfl
theorem RD_mv (x:AX){g:Option (Nat×Bool)}: RD call n ((⟨d,(.mv x),g⟩,⟨lo,hi,fin⟩)::l) all tm cx h nk hs rds k Q=dC call n .still (wants g tm) d (.mv x) lo hi fin l all tm cx h nk hs rds k Q:=eD rfl (by intro e;cases e)
theorem Za (a b c:AX){g:Option (Nat×Bool)}: RD call n ((⟨d,(.pick a b c),g⟩,⟨lo,hi,fin⟩)::l) all tm cx h nk hs rds k Q=dC call n .still (wants g tm) d (.pick a b c) lo hi fin l all tm cx h nk hs rds k Q:=eD rfl (by intro e;cases e)
theorem Ps (z:List AV)(ps:List (Nat×Nat×AX)){g:Option (Nat×Bool)}: RD call n ((⟨d,(.build z ps),g⟩,⟨lo,hi,fin⟩)::l) all tm cx h nk hs rds k Q=dC call n .still (wants g tm) d (.build z ps) lo hi fin l all tm cx h nk hs rds k Q:=eD rfl (by intro e;cases e)
theorem Zd (agg:Bool)(sz:Nat)(z:List AV)(m:Nat)(ps:List (Nat×AX)){g:Option (Nat×Bool)}: RD call n ((⟨d,(.lit true agg sz z m ps),g⟩,⟨lo,hi,fin⟩)::l) all tm cx h nk hs rds k Q=dC call n .still (wants g tm) d (.lit true agg sz z m ps) lo hi fin l all tm cx h nk hs rds k Q:=eD rfl (by intro e;cases e)
theorem Zc (agg:Bool)(sz:Nat)(x:AX){g:Option (Nat×Bool)}: RD call n ((⟨d,(.load agg sz x),g⟩,⟨lo,hi,fin⟩)::l) all tm cx h nk hs rds k Q=dC call n .reads (wants g tm) d (.load agg sz x) lo hi fin l all tm cx h nk hs rds k Q:=eD rfl (by intro e;cases e)
theorem Po (sz:Nat)(a x:AX){g:Option (Nat×Bool)}: RD call n ((⟨d,(.store sz a x),g⟩,⟨lo,hi,fin⟩)::l) all tm cx h nk hs rds k Q=dC call n .acts (wants g tm) d (.store sz a x) lo hi fin l all tm cx h nk hs rds k Q:=eD rfl (by intro e;cases e)
theorem LO (x:AX){g:Option (Nat×Bool)}: RD call n ((⟨d,(.nilChk x),g⟩,⟨lo,hi,fin⟩)::l) all tm cx h nk hs rds k Q=dC call n .still (wants g tm) d (.nilChk x) lo hi fin l all tm cx h nk hs rds k Q:=eD rfl (by intro e;cases e)
theorem aem (o:BinOp)(e:EqK)(x y:AX){g:Option (Nat×Bool)}: RD call n ((⟨d,(.bin o e x y),g⟩,⟨lo,hi,fin⟩)::l) all tm cx h nk hs rds k Q=dC call n .still (wants g tm) d (.bin o e x y) lo hi fin l all tm cx h nk hs rds k Q:=eD rfl (by intro e;cases e)
theorem RD_un (o:UnOp)(x:AX){g:Option (Nat×Bool)}: RD call n ((⟨d,(.un o x),g⟩,⟨lo,hi,fin⟩)::l) all tm cx h nk hs rds k Q=dC call n .still (wants g tm) d (.un o x) lo hi fin l all tm cx h nk hs rds k Q:=eD rfl (by intro e;cases e)
theorem Zb (f:FuncId)(a b:List AX){g:Option (Nat×Bool)}: RD call n ((⟨d,(.mkFn f a b),g⟩,⟨lo,hi,fin⟩)::l) all tm cx h nk hs rds k Q=dC call n .still (wants g tm) d (.mkFn f a b) lo hi fin l all tm cx h nk hs rds k Q:=eD rfl (by intro e;cases e)
theorem Pp (str:Bool)(sz:Nat)(x:AX)(l1 l2:Option AX){g:Option (Nat×Bool)}: RD call n ((⟨d,(.slice str sz x l1 l2 none),g⟩,⟨lo,hi,fin⟩)::l) all tm cx h nk hs rds k Q=dC call n .still (wants g tm) d (.slice str sz x l1 l2 none) lo hi fin l all tm cx h nk hs rds k Q:=eD rfl (by intro e;cases e)
theorem Pr (o sz:Nat)(agg:Bool)(x:AX){g:Option (Nat×Bool)}: RD call n ((⟨d,(.faddr o sz agg x),g⟩,⟨lo,hi,fin⟩)::l) all tm cx h nk hs rds k Q=dC call n .still (wants g tm) d (.faddr o sz agg x) lo hi fin l all tm cx h nk hs rds k Q:=eD rfl (by intro e;cases e)
theorem Pq (sz:Nat)(x i:AX){g:Option (Nat×Bool)}: RD call n ((⟨d,(.iaddr sz x i),g⟩,⟨lo,hi,fin⟩)::l) all tm cx h nk hs rds k Q=dC call n .still (wants g tm) d (.iaddr sz x i) lo hi fin l all tm cx h nk hs rds k Q:=eD rfl (by intro e;cases e)
theorem EL (x:AX)(i:Nat){g:Option (Nat×Bool)}: RD call n ((⟨d,(.extract x i),g⟩,⟨lo,hi,fin⟩)::l) all tm cx h nk hs rds k Q=dC call n .still (wants g tm) d (.extract x i) lo hi fin l all tm cx h nk hs rds k Q:=eD rfl (by intro e;cases e)
theorem ael (m:Nat)(as:List AX){g:Option (Nat×Bool)}: RD call n ((⟨d,(.builtin (.len m) as),g⟩,⟨lo,hi,fin⟩)::l) all tm cx h nk hs rds k Q=dC call n .reads (wants g tm) d (.builtin (.len m) as) lo hi fin l all tm cx h nk hs rds k Q:=eD rfl (by intro e;cases e)
theorem LP (sz:Nat)(agg:Bool)(z:List AV)(b:Nat)(as:List AX){g:Option (Nat×Bool)}: RD call n ((⟨d,(.builtin (.append sz agg z b) as),g⟩,⟨lo,hi,fin⟩)::l) all tm cx h nk hs rds k Q=dC call n .acts (wants g tm) d (.builtin (.append sz agg z b) as) lo hi fin l all tm cx h nk hs rds k Q:=eD rfl (by intro e;cases e)
theorem Ze (f:AX)(as:List AX){g:Option (Nat×Bool)}: RD call n ((⟨d,(.call f as),g⟩,⟨lo,hi,fin⟩)::l) all tm cx h nk hs rds k Q=dC call n .acts (wants g tm) d (.call f as) lo hi fin l all tm cx h nk hs rds k Q:=eD rfl (by intro e;cases e)
theorem aek (z:List AV):RD call n ((⟨d,(.new z),none⟩,⟨lo,hi,fin⟩)::l) all tm cx h nk hs rds k Q=RD call n l all (fC d tm (.ptr nk 0 0)) cx h (nk+1) hs rds k Q:=eD rfl (fun _=>rfl)
theorem ON:dC call n .still (some true) d op lo hi fin l all tm cx h nk hs rds k Q=dS call n (evOp op tm h) d l all tm cx h nk hs rds k Q:=(rfl)
theorem Lr:dC call n .still (some false) d op lo hi fin l all tm cx h nk hs rds k Q=RD call n l all (fC d tm (.tup [])) cx h nk hs rds k Q:=(rfl)
theorem OO:dC call n .reads (some true) d op lo hi fin l all tm cx h nk hs rds k Q=dV call n (evOp op tm h) d op lo hi l all tm cx h nk hs rds k Q:=(rfl)
theorem Ls:dC call n .reads (some false) d op lo hi fin l all tm cx h nk hs rds k Q=RD call n l all (fC d tm (.tup [])) cx h nk hs rds k Q:=(rfl)
theorem XR:dC call n .acts (some true) d op lo hi fin l all tm cx h nk hs rds k Q=dA call n (evOp op tm h) fin d l all tm cx h nk hs rds k Q:=(rfl)
theorem OP:dC call n .acts (some false) d op lo hi fin l all tm cx h nk hs rds k Q=RD call n l all (fC d tm (.tup [])) cx h nk (hs++[h]) rds k Q:=(rfl)
theorem adW:dS call n (.val v h1) d l all tm cx h nk hs rds k Q=RD call n l all (fC d tm v) cx h nk hs rds k Q:=(rfl)
theorem adV:dV call n (.val v h1) d op lo hi l all tm cx h nk hs rds k Q=RD call n l all (fC d tm v) cx h nk hs (cond (Nat.beq lo hi) rds (⟨tm,op,v,lo,hi⟩::rds)) k Q:=(rfl)
theorem adY:dA call n (.val v h1) fin d l all tm cx h nk hs rds k Q=RD call n l all (fC d tm v) cx h1 nk (hs++[h1]) rds k Q:=(rfl)
theorem XS {f:AV}{args:List AV}: dA call n (.call f args) fin d l all tm cx h nk hs rds k Q=dK call n (call f args .no h) fin d l all tm cx h nk hs rds k Q:=(rfl)
theorem adX:dK call n (some (.ret v,rc,h1)) fin d l all tm cx h nk hs rds k Q=RD call n l all (fC d tm v) cx h1 nk (hs++[h1]) rds k Q:=(rfl)
theorem iK:dK call n (some (.pan v,rc,h1)) fin d l all tm cx h nk hs rds k Q=((and fin (rdsOk rds hs))=true/\R call n k Q (.panic v) ⟨BS all tm,cx⟩ h1):=by
 apply propext;show WP (cond (and fin (rdsOk rds hs)) (some (.panic v,⟨BS all tm,cx⟩,h1)) none) _↔_;cases and fin (rdsOk rds hs) with
 |true=>simp only[cond_true,fK,true_and]
 |false=>simp only[cond_false,iy,Bool.false_eq_true,false_and]
theorem dE_eq {ok:Bool}: dE call n ok tm cx h k Q=(ok=true/\R call n k Q .normal ⟨tm,cx⟩ h):=(rfl)
theorem bZ {c:Cls}{b:Bool}(h1:b=false->dC call n c (some true) d op lo hi fin l all tm cx h nk hs rds k Q)(h2:b=true->dC call n c (some false) d op lo hi fin l all tm cx h nk hs rds k Q):
  dC call n c (some (!b)) d op lo hi fin l all tm cx h nk hs rds k Q:=by
 cases b with
 |true=>exact h2 rfl
 |false=>exact h1 rfl
theorem Wd (tm:Tm):wants none tm=some true:=(rfl)
theorem Wc (g:Nat×Bool)(tm:Tm):wants (some g) tm=wantV (nth tm g.1) g.2:=(rfl)
theorem JZ:rdsOk [] hs=true:=(rfl)
theorem DB (r:Rd)(l:List Rd):rdsOk (r::l) hs=(gX hs r 0&&rdsOk l hs):=(rfl)
theorem Nu (r:Rd)(m:Nat):gX [] r m=true:=(rfl)
theorem Ka (tm:Tm)(op:AOp)(v:AV)(lo hi m:Nat)(h:AH)(l:List AH):gX (h::l) ⟨tm,op,v,lo,hi⟩ m=((decide (m<lo)||(decide (hi<m)||oN (evOp op tm h) v))&&gX l ⟨tm,op,v,lo,hi⟩ (m+1)):=by
 have hb:∀a b:Nat,Nat.blt a b=decide (a<b):=by
  intro a b;by_cases hab:a<b
  ·rw[HE hab];exact Nat.ble_eq_true_of_le hab
  ·rw[HD hab];cases hq:Nat.blt a b with
   |false=>rfl
   |true=>exact absurd (jL hq) hab
 rw[<-hb,<-hb];rfl
theorem AW (u:AV):oN (.val u h) v=AV.beq u v:=(rfl)
end
mutual
theorem fI:∀{a:AV},a.free=true->AV.beq a a=true
 |.bool b,_=>by simp[AV.beq]
 |.int k n,_=>by cases k<;>simp[AV.beq]
 |.str s,_=>by rw[AV.beq,<-kY,oR];simp
 |.nilp,_=>by simp[AV.beq]
 |.ptr _ _ _,h=>by simp[AV.free]at h
 |.vptr v,h=>by simp only[AV.beq];exact fI (by simpa [AV.free] using h)
 |.nl,_=>by simp[AV.beq]
 |.ls es,h=>by simp only[AV.beq];exact je (by simpa [AV.free] using h)
 |.clip es,h=>by simp only[AV.beq];exact je (by simpa [AV.free] using h)
 |.row _ _ _ _ _,h=>by simp[AV.free]at h
 |.nilm,_=>by simp[AV.beq]
 |.map _,h=>by simp[AV.free]at h
 |.fn f a b,h=>by
  simp only[AV.free,Bool.and_eq_true]at h;simp only[AV.beq,je h.1,je h.2,Bool.and_true];exact Nat.beq_refl f
 |.yld _,h=>by simp[AV.free]at h
 |.nilf,_=>by simp[AV.beq]
 |.ifc t v,h=>by
  simp only[AV.beq,fI (show v.free=true by simpa [AV.free] using h),Bool.and_true];exact Nat.beq_refl t
 |.nili,_=>by simp[AV.beq]
 |.agg cs,h=>by simp only[AV.beq];exact je (by simpa [AV.free] using h)
 |.tup vs,h=>by simp only[AV.beq];exact je (by simpa [AV.free] using h)
 |.any,h=>by simp[AV.free]at h
theorem je:∀{l:List AV},AV.jp l=true->AV.beqs l l=true
 |[],_=>by simp[AV.beqs]
 |a::l,h=>by
  simp only[AV.jp,Bool.and_eq_true]at h;simp only[AV.beqs,fI h.1,je h.2,Bool.and_self]
end
theorem jF (k g z o n:Nat):AV.beq (.row k g z o n) (.row k g z o n)=true:=by simp[AV.beq]
theorem Jh (k:IntKind)(n:Int):AV.beq (.int k n) (.int k n)=true:=fI (by simp[AV.free])
theorem mW (t:T):AV.beq (enc t) (enc t)=true:=fI (cH t)
theorem Pd (ks:List T):AV.beq (.ls (ks.map enc)) (.ls (ks.map enc))=true:=fI (by simp[AV.free,eE])
section
theorem OX (h:AH):kI [] h=h:=(rfl)
theorem OY (p:aX×DI)(l:List (aX×DI))(h:AH):kI (p::l) h=kI l (birth p.1.op h):=(rfl)
theorem LC (z:List AV)(h:AH):birth (.new z) h=h.new (.box z):=(rfl)
theorem Pb (x:AX)(h:AH):birth (.mv x) h=h:=(rfl)
theorem Eu (a b c:AX)(h:AH):birth (.pick a b c) h=h:=(rfl)
theorem BL (z:List AV)(ps:List (Nat×Nat×AX))(h:AH):birth (.build z ps) h=h:=(rfl)
theorem LD (f agg:Bool)(sz:Nat)(z:List AV)(n:Nat)(ps:List (Nat×AX))(h:AH):birth (.lit f agg sz z n ps) h=h:=(rfl)
theorem Ew (agg:Bool)(sz:Nat)(x:AX)(h:AH):birth (.load agg sz x) h=h:=(rfl)
theorem BH (sz:Nat)(a x:AX)(h:AH):birth (.store sz a x) h=h:=(rfl)
theorem yT (x:AX)(h:AH):birth (.nilChk x) h=h:=(rfl)
theorem LF (op:BinOp)(e:EqK)(x y:AX)(h:AH):birth (.bin op e x y) h=h:=(rfl)
theorem OZ (op:UnOp)(x:AX)(h:AH):birth (.un op x) h=h:=(rfl)
theorem Ev (f:FuncId)(a b:List AX)(h:AH):birth (.mkFn f a b) h=h:=(rfl)
theorem BI (str:Bool)(sz:Nat)(x:AX)(lo hi mx:Option AX)(h:AH):birth (.slice str sz x lo hi mx) h=h:=(rfl)
theorem BK (o sz:Nat)(agg:Bool)(x:AX)(h:AH):birth (.faddr o sz agg x) h=h:=(rfl)
theorem BJ (sz:Nat)(x i:AX)(h:AH):birth (.iaddr sz x i) h=h:=(rfl)
theorem wx (x:AX)(i:Nat)(h:AH):birth (.extract x i) h=h:=(rfl)
theorem wy (b:ABI)(l:List AX)(h:AH):birth (.builtin b l) h=h:=(rfl)
theorem Ex (f:AX)(l:List AX)(h:AH):birth (.call f l) h=h:=(rfl)
theorem Ow (n:Nat){α:Type}(a b:α):cond (Nat.beq n n) a b=a:=by
 have:Nat.beq n n=true:=Nat.beq_refl n;rw[this];rfl
theorem adK {α:Type}(a b:α):cond (Nat.beq 0 1) a b=b:=(rfl)
theorem adJ {α:Type}(a b:α):cond (Nat.beq 0 2) a b=b:=(rfl)
end
theorem gj {a b:Nat}(h:a<=b):Nat.ble a b=true:=Nat.ble_eq_true_of_le h
theorem fN (a:Nat):Nat.beq a a=true:=Nat.beq_refl a
def Own (base sz:Nat)(agg:Bool)(h:AH)(v:AV)(out:List AV):Prop:=
 (∀x∈out,x.cells.length=sz/\x.isAgg=agg)/\((v=.nl/\out=[])∨∃k g,v=.row k g sz 0 out.length/\h.get k=some (.row g sz agg (flat out) 0)/\k<h.z/\base<=k)
theorem gY {sz:Nat}{out:List AV}(h:∀x∈out,x.cells.length=sz):(flat out).length=out.length*sz:=dY h
theorem get_new (h:AH)(x:eI)(k:Nat):(h.new x).get k=if k=h.z then some x else h.get k:=by
 cases h;exact Tr.get_put _ _ _ _
theorem ci (h:AH)(x:eI):(h.new x).z=h.z+1:=by cases h;rfl
theorem get_set (h:AH)(j:Nat)(x:eI)(k:Nat):(h.set j x).get k=if k=j then some x else h.get k:=by
 cases h;exact Tr.get_put _ _ _ _
theorem co (h:AH)(j:Nat)(x:eI):(h.set j x).z=h.z:=by cases h;rfl
theorem aE (h:AH)(x:eI):(h.new x).get h.z=some x:=by rw[get_new,wae rfl]
theorem aJ {h:AH}{k:Nat}{x:eI}(hne:k≠h.z):(h.new x).get k=h.get k:=by rw[get_new,wad hne]
theorem aC (h:AH)(j:Nat)(x:eI):(h.set j x).get j=some x:=by rw[get_set,wae rfl]
theorem an {h:AH}{j k:Nat}{x:eI}(hne:k≠j):(h.set j x).get k=h.get k:=by rw[get_set,wad hne]
theorem low_new (h:AH)(x:eI):(h.new x).low=h.low:=by cases h;rfl
theorem low_set (h:AH)(j:Nat)(x:eI):(h.set j x).low=gz j h.low:=by cases h;rfl
theorem bo {b k l:Nat}(h1:b<=k)(h2:b<=l):b<=gz k l:=by
 unfold gz;cases Nat.ble k l with
 |true=>exact h1
 |false=>exact h2
theorem jY (a b:Nat):gz a b<=b:=by
 unfold gz;cases hb:Nat.ble a b with
 |true=>exact eG hb
 |false=>exact Fv _
theorem cV {base sz bytes:Nat}{agg:Bool}{h:AH}{v x:AV}{out z:List AV}(o:Own base sz agg h v out)(hb:base<=h.z)(hz:z.length=sz)(hx:x.cells.length=sz)(ha:x.isAgg=agg)(hl:x.lies=true)
  (hn:out.length<100000) (hy:bytes<=1000) :
  ∃v' h',dO h sz agg z bytes v (.clip [x])=some (v',h')/\Own base sz agg h' v' (out++[x])/\h.z<=h'.z/\(∀k,k<base->h'.get k=h.get k)/\(∀b,b<=base->b<=h.low->b<=h'.low)/\h'.low<=h.low/\(∀k,k<h.z->(∀g n,v≠.row k g sz 0 n)->h'.get k=h.get k)/\(∃k g,v'=.row k g sz 0 (out.length+1)/\(v=.nl->k=h.z)/\(∀k' g' n',v=.row k' g' sz 0 n'->k=k')):=by
 obtain⟨o1,o2⟩:=o;have hall:∀y∈out++[x],y.cells.length=sz/\y.isAgg=agg:=by
  intro y hy;rcases List.mem_append.1 hy with h|h
  ·exact o1 y h
  ·simp at h;subst h;exact⟨hx,ha⟩
 have e0:dO h sz agg z bytes v (.clip [x])=kQ v h sz agg bytes [x]:=by
  show aq (cond (and (Nat.beq (len x.cells) sz) true) (some [x]) none) (fun xs=>cond (and (iu xs) (Nat.beq (len z) sz)) _ _)=_;rw[bH,hx,fN];show cond (and (and x.lies true) (Nat.beq (len z) sz)) _ _=_;rw[hl,bH,hz,fN];rfl
 have hneed:∀m,m<100000->need m 1 bytes=true:=by
  intro m hm;show and (Nat.ble ((2*(m+1)+1000)*bytes) 140737488355328) (Nat.ble (m+1) 9223372036854775807)=true;rw[gj (show m+1<=9223372036854775807 by omega),gj]
  ·rfl
  ·calc (2*(m+1)+1000)*bytes<=300000*1000:=Nat.mul_le_mul (by omega) hy
    _<=140737488355328:=by decide
 rw[e0];rcases o2 with⟨rfl,rfl⟩|⟨k,g,rfl,hk,hlt,hbk⟩
 ·refine⟨.row h.z 0 sz 0 1,h.new (.row 0 sz agg (flat [x]) 0),?_,⟨hall,.inr ⟨h.z,0,rfl,?_,?_,hb⟩⟩,?_,?_⟩
  ·show cond (need 0 1 bytes) _ _=_;rw[hneed 0 (by omega)];rfl
  ·rw[get_new,wae rfl];rfl
  ·rw[ci];omega
  ·rw[ci];omega
  ·refine⟨fun k hk=>by rw[get_new,wad (by omega)],fun b _ hb=>by cases h;exact hb,by cases h;exact Fv _,fun k hk _=>by rw[get_new,wad (by omega)],h.z,0,rfl,fun _=>rfl,fun _ _ _ e=>(by cases e)⟩
 ·have hfl:=gY (fun x hx=>(o1 x hx).1);refine⟨.row k (g+1) sz 0 (out.length+1),h.set k (.row (g+1) sz agg (flat (out++[x])) 0),?_,⟨hall,.inr ⟨k,g+1,by simp,?_,?_,hbk⟩⟩,?_,?_⟩
  ·have er:lg h k g sz=some (agg,flat out,0):=by
    unfold lg;rw[hk,aF];show aq (some (g,sz,agg,flat out,0)) _=_;rw[aF];show cond (and (Nat.beq g g) (Nat.beq sz sz)) _ _=_;rw[fN,fN];rfl
   show cond (Nat.beq sz sz) (aq (lg h k g sz) _) none=_;rw[fN,er,cond_true,aF];show cond (and (oG agg agg) (and (Nat.ble 0 ((0+out.length)*sz)) (and (Nat.ble ((0+out.length)*sz) (len (flat out))) (need out.length 1 bytes))))
    (some (AV.row k (g+1) sz 0 (out.length+1),h.set k (.row (g+1) sz agg (app (tke (out.length*sz) (drp (0*sz) (flat out))) (flat [x])) (0-0*sz)))) none=_
   have es:oG agg agg=true:=by cases agg<;>rfl
   rw[es,hneed _ hn,bH,gj (show 0<=(0+out.length)*sz by omega),gj (show(0+out.length)*sz<=(flat out).length by rw[hfl,wac];exact Fv _)];simp only[Nat.zero_mul,Nat.sub_self,fk,lz,fM,List.drop_zero];rw[<-hfl,List.take_length,jt];rfl
  ·rw[get_set,wae rfl]
  ·rw[co];exact hlt
  ·rw[co];exact Fv _
  ·have hl2:(h.set k (.row (g+1) sz agg (flat (out++[x])) 0)).low=gz k h.low:=by cases h;rfl
   refine⟨fun k' hk'=>by rw[get_set,wad (by omega)],fun b hb hl=>?_,by rw[hl2];exact jY _ _,fun k' hk' hne=>by rw[get_set,wad (fun e=>hne g out.length (by rw[e]))],k,g+1,rfl,fun e=>(by cases e),fun _ _ _ e=>(by cases e;rfl)⟩;rw[hl2];exact bo (by omega) hl
theorem kA {sz:Nat}{agg:Bool}(hs:agg=false->sz=1):∀{out:List AV},(∀x∈out,x.cells.length=sz/\x.isAgg=agg)->chunk agg sz out.length (flat out)=some out
 |[],_=>rfl
 |x::l,h=>by
  obtain⟨h1,h2⟩:=h x (by simp);have ih:=kA hs (out:=l) (fun y hy=>h y (by simp[hy]));rw[List.length_cons,pw,bO];have eg:pN agg sz 0 (x.cells++flat l)=some x:=by
   cases agg with
   |true=>
    rw[tN _ _ _ (by rw[List.length_append];omega),List.drop_zero,<-h1,List.take_left' rfl];cases x<;>simp[AV.isAgg,AV.cells]at h2 ⊢
   |false=>
    have:=hs rfl;subst this;rw[wN,jc h2];rfl
  rw[eg,aF,fM,<-h1,List.drop_left' rfl,h1,ih];rfl
theorem own_frzB {base fb sz m:Nat}{agg:Bool}{h:AH}{v:AV}{out:List AV}(o:Own base sz agg h v out)(hfb:fb<=base)(hs:agg=false->sz=1)(hf:∀x∈out,frz m h fb x=x):
  (v=.nl/\out=[]/\frz (m+1) h fb v=.nl)∨frz (m+1) h fb v=.ls out:=by
 obtain⟨o1,⟨rfl,rfl⟩|⟨k,g,rfl,hk,hlt,hbk⟩⟩:=o
 ·exact .inl ⟨rfl,rfl,rfl⟩
 ·right;show cond (Nat.ble fb k) (jh h (.row k g sz 0 out.length) k g sz 0 out.length (frz m h fb)) _=_;rw[gj (by omega),cond_true];unfold jh;rw[hk,aF];show cond (and (Nat.beq g g) (Nat.beq sz sz)) (@Option.casesOn (List AV) (fun _=>AV) (chunk agg sz out.length (drp (0*sz) (flat out))) (AV.row k g sz 0 out.length) fun es=>AV.ls (we (frz m h fb) es)) (AV.row k g sz 0 out.length)=_;rw[fN,fN];simp only[Nat.zero_mul,fM,List.drop_zero,kA hs o1,Bool.and_self,cond_true];rw[rN];congr 1
  conv=>rhs;rw[<-List.map_id out]
  exact List.map_congr_left fun x hx=>hf x hx
theorem WO {base sz m:Nat}{agg:Bool}{h:AH}{v:AV}{out:List AV}(o:Own base sz agg h v out)(hs:agg=false->sz=1)(hf:∀x∈out,frz m h 0 x=x):(frz (m+1) h 0 v).norm=.ls (AV.ip out):=by
 rcases own_frzB o (Nat.zero_le _) hs hf with⟨_,rfl,e⟩|e
 ·rw[e];simp[AV.norm,AV.ip]
 ·rw[e];simp[AV.norm]
theorem bp {base sz:Nat}{agg:Bool}{h h':AH}{v:AV}{out:List AV}(o:Own base sz agg h v out)(hn:h.z<=h'.z)(hg:∀k,base<=k->k<h.z->h'.get k=h.get k):Own base sz agg h' v out:=by
 obtain⟨o1,o2⟩:=o;refine⟨o1,?_⟩;rcases o2 with⟨rfl,rfl⟩|⟨k,g,rfl,hk,hlt,hbk⟩
 ·exact .inl ⟨rfl,rfl⟩
 ·exact .inr ⟨k,g,rfl,by rw[hg k hbk hlt];exact hk,by omega,hbk⟩
theorem fD (base sz:Nat)(agg:Bool)(h:AH):Own base sz agg h .nl []:=⟨by simp,.inl ⟨rfl,rfl⟩⟩
theorem zl {base sz:Nat}{agg:Bool}{h:AH}{v:AV}{out:List AV}(o:Own base sz agg h v out):lenOf v h 1=some out.length:=by
 obtain⟨_,⟨rfl,rfl⟩|⟨k,g,rfl,hk,hlt,hbk⟩⟩:=o<;>rfl
theorem Eb (i:Nat)(x:AX)(tm:Tm)(sz:Nat):cr [(i,x)] tm sz=[(i*sz,sz,ev x tm)]:=(rfl)
theorem Xm (h:AH)(x:Int):iS true false 1 [.int .i64 0] 1 [(0,1,.int .i64 x)] h=.val (.clip [.int .i64 x]) h:=(rfl)
theorem Og (h:AH)(a b c d e a' b' c' d' e':AV):iS true true 5 [a',b',c',d',e'] 1 [(0,5,.agg [a,b,c,d,e])] h=.val (.clip [.agg [a,b,c,d,e]]) h:=(rfl)
theorem Oh (h:AH)(a b a' b':AV):iS true true 2 [a',b'] 1 [(0,2,.agg [a,b])] h=.val (.clip [.agg [a,b]]) h:=(rfl)
def mix (K:aG)(E:Env)(N:Nat):Nat->aG
 |0=>K
 |m+1=>fun f a rc h=>match K f a rc h with
  |some r=>some r
  |none=>vX f E (mix K E N m) N a rc h
theorem Tz {C:Cx}{K:aG}{E:Env}(hE:oK C E)(hK:bM C K)(N:Nat):∀m,bM C (mix K E N m)
 |0=>hK
 |m+1=>by
  intro f args rc h out rc' h' q;simp only[mix]at q;cases hk:K f args rc h with
  |some r=>
   rw[hk]at q;exact hK f args rc h out rc' h' (by rw[hk];exact q)
  |none=>
   rw[hk]at q;exact rF hE (Tz hE hK N m) N f args rc h out rc' h' q
theorem Ky {K:aG}{E:Env}{N:Nat}{f:AV}{a:List AV}{rc:RC}{h:AH}{r:bI×RC×AH}(e:K f a rc h=some r):∀m,mix K E N m f a rc h=some r
 |0=>e
 |m+1=>by simp only[mix,e]
theorem zt {K:aG}{E:Env}{N m:Nat}{f:FuncId}{c a:List AV}{rc:RC}{h:AH}(e:K (.fn f [] c) a rc h=none):mix K E N (m+1) (.fn f [] c) a rc h=dZ E (mix K E N m) N f (a++c) rc h:=by
 simp only[mix,e];show dZ E _ N f (app [] (app a c)) rc h=_;rw[fk,fk];rfl
def HQ (h0:AH)(rs:List bF)(P:AV->AH->Prop)(e:AEx)(fr:AF)(h1:AH):Prop:=
 fr.cx.dfs=[]/\fr.cx.rc=.no/\(e=.normal∨e=.ret)/\∃vs,fF rs fr.tm h1=some vs/\
  ((h0.z<=h1.low/\P (frz 4 h1 h0.z (one vs)) ⟨h1.z,h0.low,h0.objs⟩)∨(¬h0.z<=h1.low/\P (one vs) ⟨h1.z,gz h1.low h0.low,h1.objs⟩))
theorem Jw {h0:AH}{rs:List bF}{P:AV->AH->Prop}{tm:Tm}{rnd:Option Nat}{f:FuncId}{h1:AH}{e:AEx}{vs:List AV}(he:e=.normal∨e=.ret)(hl:h0.z<=h1.low)(hv:fF rs tm h1=some vs)(hP:P (frz 4 h1 h0.z (one vs)) ⟨h1.z,h0.low,h0.objs⟩):
  HQ h0 rs P e ⟨tm,⟨[],.no,rnd,f⟩⟩ h1:=⟨rfl,rfl,he,vs,hv,.inl ⟨hl,hP⟩⟩
theorem Aa {h0:AH}{rs:List bF}{P:AV->AH->Prop}{tm:Tm}{rnd:Option Nat}{f:FuncId}{h1:AH}{e:AEx}{vs:List AV}(he:e=.normal∨e=.ret)(hl:¬h0.z<=h1.low)(hv:fF rs tm h1=some vs)(hP:P (one vs) ⟨h1.z,gz h1.low h0.low,h1.objs⟩):
  HQ h0 rs P e ⟨tm,⟨[],.no,rnd,f⟩⟩ h1:=⟨rfl,rfl,he,vs,hv,.inr ⟨hl,hP⟩⟩
theorem zy (a b:Nat):gz a b<=a:=by
 unfold gz;cases hb:Nat.ble a b with
 |true=>exact Fv _
 |false=>exact Nat.le_of_lt (lV hb)
theorem eU {E:Env}{call:aG}{n:Nat}{f:FuncId}{as:List AV}{h0:AH}{P:AV->AH->Prop}{nt:Nat}{rs:List bF}{body:aw}(hcf:E.cf f=some ⟨nt,rs,body⟩)(hp:E.pure f=true)
  (hR:R call n [.code body] (HQ h0 rs P) .normal ⟨bn as,⟨[],.no,none,f⟩⟩ ⟨h0.z,h0.z,h0.objs⟩):∃v h',dZ E call n f as .no h0=some (.ret v,.no,h')/\P v h':=by
 obtain⟨e,⟨tm,⟨dfs,rc,rnd,fid⟩⟩,h,q,q1,q2,q3,vs,r1,r2⟩:=hR;replace q1:dfs=[]:=q1;replace q2:rc=.no:=q2;subst q1 q2;have q':evCode body call n ⟨bn as,⟨[],.no,none,f⟩⟩ (lowered (E.pure f) h0)=some (e,⟨tm,⟨[],.no,rnd,fid⟩⟩,h):=by rw[hp];exact q
 have key:aq (fF rs tm h) (fun vs=>qM (E.pure f) h0 h .no vs)=VJ h0 h .no (one vs):=by rw[r1,aF,hp];rfl
 have fin:∃v h',VJ h0 h .no (one vs)=some (bI.ret v,RC.no,h')/\P v h':=by
  rcases r2 with⟨hl,hP⟩|⟨hl,hP⟩
  ·refine⟨_,_,?_,hP⟩;show cond (Nat.ble h0.z h.low) _ _=_;rw[gj hl];rfl
  ·refine⟨_,_,?_,hP⟩;show cond (Nat.ble h0.z h.low) _ _=_;have:Nat.ble h0.z h.low=false:=by
    cases hb:Nat.ble h0.z h.low with
    |false=>rfl
    |true=>exact absurd (eG hb) hl
   rw[this];rfl
 unfold dZ;rw[hcf,aF];simp only[q',aF];obtain⟨v,h',e1,hP⟩:=fin;rcases q3 with rfl|rfl
 ·exact⟨v,h',by rw[<-e1,<-key];rfl,hP⟩
 ·exact⟨v,h',by rw[<-e1,<-key];rfl,hP⟩
def HG (h:AH)(sz:Nat)(x i:AV):Option (AV×AH):=aq (yt x) fun n=>aq (lX i n) fun hb=>By x h sz 0 hb
theorem Nh (h:AH)(sz:Nat)(x:AV)(tm:Tm)(i:AX):ix h sz x tm none (some i) none=HG h sz x (ev i tm):=(rfl)
theorem om {α:Type}{f:α->AV}{sz:Nat}(hf:∀x,(f x).cells.length=sz)(l:List α):fl sz (l.map f)=true:=by
 induction l with
 |nil=>rfl
 |cons a l ih=>rw[List.map_cons,ue,bH,hf,fN,ih];rfl
theorem mK {α:Type}{f:α->AV}(hf:∀x,(f x).lies=true)(l:List α):iu (l.map f)=true:=by
 induction l with
 |nil=>rfl
 |cons a l ih=>rw[List.map_cons,BO,hf,ih];rfl
theorem Ce (v:AV):∀(a:Nat) (cs:List AV),a<cs.length->setR a [v] cs=cs.set a v
 |0,c::cs,_=>rfl
 |a+1,c::cs,h=>by rw[gK,Ce v a cs (by simpa using h)];rfl
 |_,[],h=>by simp at h
theorem vq {α:Type}: ∀(xs cs ds:List α),xs.length=cs.length->over xs (cs++ds)=xs++ds
 |[],[],ds,_=>rfl
 |x::xs,c::cs,ds,h=>by
  rw[List.cons_append,lK,vq xs cs ds (by simpa using h)];rfl
theorem nY {sz:Nat}{x:AV}(hx:x.cells.length=sz):∀{out:List AV} {a:Nat},(∀y∈out,y.cells.length=sz)->a<out.length->setR (a*sz) x.cells (flat out)=flat (out.set a x)
 |y::l,0,h,_=>by
  rw[Nat.zero_mul,bO];show over x.cells (y.cells++flat l)=flat (x::l);rw[vq _ _ _ (by rw[hx,h y (by simp)]),bO]
 |y::l,a+1,h,ha=>by
  have ih:=nY hx (out:=l) (a:=a) (fun z hz=>h z (by simp[hz])) (by simpa using ha);rw[bO,List.set_cons_succ,bO,<-ih];have hy:=h y (by simp);have e:(a+1)*sz=y.cells.length+a*sz:=by rw[hy,Nat.succ_mul];omega
  rw[e];generalize y.cells=cs;generalize flat l=fs;clear ih e;induction cs with
  |nil=>simp
  |cons c cs ih=>rw[List.length_cons,show cs.length+1+a*sz=(cs.length+a*sz)+1 by omega,List.cons_append,gK,ih];rfl
 |[],_,_,ha=>by simp at ha
theorem pc {base sz:Nat}{h:AH}{v x:AV}{out:List AV}{a:Nat}(o:Own base sz true h v out)(ha:a<out.length)(hx1:x.cells.length=sz)(hx2:x.isAgg=true)(hx3:x.lies=true)(k:IntKind):
  ∃p h',(∀H,cz v H sz (.int k (a:Int))=.val p H)/\cR p h sz x=some h'/\Own base sz true h' v (out.set a x)/\h'.z=h.z/\(∀k,k<base->h'.get k=h.get k)/\(∀b,b<=base->b<=h.low->b<=h'.low)/\h'.low<=h.low:=by
 obtain⟨o1,⟨rfl,rfl⟩|⟨kk,g,rfl,hk,hlt,hbk⟩⟩:=o
 ·simp at ha
 ·have hfl:=gY (fun y hy=>(o1 y hy).1);have hset:=nY hx1 (fun y hy=>(o1 y hy).1) ha;refine⟨.ptr kk g (a*sz),h.set kk (.row g sz true (flat (out.set a x)) 0),fun H=>?_,?_,⟨fun y hy=>?_,.inr ⟨kk,g,by simp,?_,?_,hbk⟩⟩,co _ _ _,fun k hk=>an (by omega),fun b hb hl=>?_,?_⟩
  ·show okV (cond (Nat.beq sz sz) (aq (aq (some a) fun m=>cond (Nat.blt m out.length) (some m) none) fun n=>some (.ptr kk g (Nat.mul (Nat.add 0 n) sz))) none) H=_;have hb:Nat.blt a out.length=true:=Nat.ble_eq_true_of_le ha;rw[aF,hb,fN];show OpR.val (.ptr kk g (Nat.mul (Nat.add 0 a) sz)) H=_;congr 2;show(0+a)*sz=a*sz;rw[wac]
  ·rw[eF _ _ _ _ hx3 hx1,hk,aF];show aq (cond (and (Nat.beq g g) (and (Nat.ble 0 (a*sz)) (Nat.ble (a*sz+len x.cells) (len (flat out))))) (some (eI.row g sz true (setR (a*sz) x.cells (flat out)) 0)) none) _=_;have hle:a*sz+x.cells.length<=(flat out).length:=by
    rw[hfl,hx1]
    calc a*sz+sz=(a+1)*sz:=by rw[Nat.succ_mul]
     _<=out.length*sz:=Nat.mul_le_mul_right _ ha
   rw[fN,bH,bH,gj hle,hset];rfl
  ·rcases List.mem_or_eq_of_mem_set hy with h|h
   ·exact o1 y h
   ·rw[h];exact⟨hx1,hx2⟩
  ·rw[aC]
  ·rw[co];exact hlt
  ·rw[low_set];exact bo (by omega) hl
  ·rw[low_set];exact jY _ _
theorem nh (z:AV):∀n,flat (List.replicate n z)=pI n z.cells
 |0=>rfl
 |n+1=>by rw[List.replicate_succ,bO,nh z n,ox]
theorem vn {base sz bytes:Nat}{h:AH}{z:AV}(n:Nat)(k:IntKind)(hb:base<=h.z)(hz:z.cells.length=sz)(ha:z.isAgg=true)(hn:n<=100000)(hy:bytes<=1000):
  ∃v h',fq h true sz bytes z.cells (.int k (n:Int)) (.int k (n:Int))=some (v,h')/\Own base sz true h' v (List.replicate n z)/\h'.z=h.z+1/\(∀k,k<h.z->h'.get k=h.get k)/\h'.low=h.low/\v.cells=[v]/\v.lies=true:=by
 refine⟨.row h.z 0 sz 0 n,h.new (.row 0 sz true (pI n z.cells) 0),?_,⟨fun y hy=>?_,.inr ⟨h.z,0,by simp,?_,?_,hb⟩⟩,ci _ _,fun k hk=>aJ (by omega),low_new _ _,rfl,rfl⟩
 ·have e:lX (.int k (n:Int)) 9223372036854775807=some n:=by
   show aq (some n) (fun m=>cond (Nat.ble m 9223372036854775807) (some m) none)=_;have h1:n<=9223372036854775807:=by omega
   rw[aF,gj h1];rfl
  unfold fq;rw[e,aF,aF];have h2:n*bytes<=140737488355328:=calc n*bytes<=100000*1000:=Nat.mul_le_mul hn hy
    _<=140737488355328:=by decide
  show cond (and (Nat.beq n n) (and (Nat.ble (n*bytes) 140737488355328) (Nat.beq (len z.cells) sz))) _ _=_;rw[fN,gj h2,bH,hz,fN];rfl
 ·rw[List.eq_of_mem_replicate hy];exact⟨hz,ha⟩
 ·rw[aE,nh]
 ·rw[ci];omega
def IQ (rs:List bF)(P:AV->AH->Prop)(e:AEx)(fr:AF)(h1:AH):Prop:=
 fr.cx.dfs=[]/\fr.cx.rc=.no/\(e=.normal∨e=.ret)/\∃vs,fF rs fr.tm h1=some vs/\P (one vs) h1
theorem nw {E:Env}{call:aG}{n:Nat}{f:FuncId}{as:List AV}{h0:AH}{P:AV->AH->Prop}{nt:Nat}{rs:List bF}{body:aw}(hcf:E.cf f=some ⟨nt,rs,body⟩)(hp:E.pure f=false)
  (hR:R call n [.code body] (IQ rs P) .normal ⟨bn as,⟨[],.no,none,f⟩⟩ h0):∃v h',dZ E call n f as .no h0=some (.ret v,.no,h')/\P v h':=by
 obtain⟨e,⟨tm,⟨dfs,rc,rnd,fid⟩⟩,h,q,q1,q2,q3,vs,r1,r2⟩:=hR;replace q1:dfs=[]:=q1;replace q2:rc=.no:=q2;subst q1 q2;have q':evCode body call n ⟨bn as,⟨[],.no,none,f⟩⟩ (lowered (E.pure f) h0)=some (e,⟨tm,⟨[],.no,rnd,fid⟩⟩,h):=by rw[hp];exact q
 have key:aq (fF rs tm h) (fun vs=>qM (E.pure f) h0 h .no vs)=some (bI.ret (one vs),RC.no,h):=by rw[r1,aF,hp];rfl
 unfold dZ;rw[hcf,aF];simp only[q',aF];rcases q3 with rfl|rfl
 ·exact⟨one vs,h,by rw[<-key];rfl,r2⟩
 ·exact⟨one vs,h,by rw[<-key];rfl,r2⟩
theorem adU (d:Option Nat)(f:FuncId)(a b args:List AV)(tm:Tm)(ds:List DF)(rc:RC)(fid:FuncId)(h:AH):Mw d (.fn f a b) args ⟨tm,⟨ds,rc,none,fid⟩⟩ h=some (.normal,⟨fC d tm (.tup []),⟨.call (.fn f a b) args::ds,rc,none,fid⟩⟩,h):=(rfl)
def aeQ (x i:AV)(n sz:Nat)(agg:Bool)(h:AH):OpR:=Option.casesOn (asIdx i n) .bad fun n=>gi x h n sz agg
theorem DL {tm:Tm}{h:AH}(n sz:Nat)(agg:Bool)(x i:AX):evOp (.iaddrA n sz agg x i) tm h=aeQ (ev x tm) (ev i tm) n sz agg h:=(rfl)
theorem OE (kk n sz m:Nat)(agg:Bool)(k:IntKind)(h:AH)(hm:m<n):aeQ (.ptr kk 0 0) (.int k (m:Int)) n sz agg h=.val (.ptr kk 0 (m*sz)) h:=by
 have e:asIdx (.int k (m:Int)) n=some m:=by
  show aq (some m) (fun m=>cond (Nat.blt m n) (some m) none)=_;have hb:Nat.blt m n=true:=Nat.ble_eq_true_of_le hm;rw[aF,hb];rfl
 unfold aeQ;rw[e];show OpR.val (.ptr kk 0 (0+m*sz)) h=_;rw[wac]
theorem OQ (f:FuncId)(a b:List AV):(AV.fn f a b).cells=[.fn f a b]:=(rfl)
theorem Xo (f:FuncId)(a b:List AV):(AV.fn f a b).lies=true:=(rfl)
theorem Lu (k:Nat):(AV.map k).cells=[.map k]:=(rfl)
theorem Ol (k:Nat):(AV.map k).lies=true:=(rfl)
theorem Nv (a b:Nat)(x y:AV)(tm:Tm):nq [a,b] [x,y] tm=(tm.put a x).put b y:=(rfl)
theorem acQ (l:List AV):ME (.tup l)=some l:=(rfl)
theorem Yz (h:AH)(z:List AV):cP h z []=.val (.agg z) h:=(rfl)
theorem Yy (h:AH)(a b c d e:AV)(k k':IntKind)(x y:Int):cP h [a,b,c,d,e] [(0,1,.int k x),(1,1,.int k' y)]=.val (.agg [.int k x,.int k' y,c,d,e]) h:=(rfl)
theorem Ke (tm:Tm):eW [] tm=[]:=(rfl)
theorem DD (p:Nat×Nat×AX)(l:List (Nat×Nat×AX))(tm:Tm):eW (p::l) tm=(p.1,p.2.1,ev p.2.2 tm)::eW l tm:=(rfl)
theorem DP (h:AH)(k g o:Nat):iN (.ptr k g o) h=.val (.ptr k g o) h:=(rfl)
theorem sT {h:AH}{l:Nat}{pend:Option AEx}{tm:Tm}{ps:List Nat}{as b:aw}{f:FuncId}(hl:h.get l=some (.loop .ready pend tm ps as b f)):
  nQ h l=some (h.set l (.loop .busy pend tm ps as b f)):=by
 unfold nQ;rw[hl,aF];rfl
theorem sg {h:AH}{l:Nat}{st st':LoopState}{pend pend':Option AEx}{tm:Tm}{ps:List Nat}{as b:aw}{f:FuncId}(hl:h.get l=some (.loop st pend tm ps as b f)):
  kB h l st' pend'=some (h.set l (.loop st' pend' tm ps as b f)):=by
 unfold kB;rw[hl,aF];rfl
theorem Zz {call:aG}{n l:Nat}{args:List AV}{h:AH}{st:LoopState}{pend:Option AEx}{tm:Tm}{ps:List Nat}{as b:aw}{f:FuncId}{P:AH->Prop}(hl:h.get l=some (.loop st pend tm ps as b f))(hlen:args.length=ps.length)
  (hR:R call n [.code as] (fun e fr1 h1=>e=.normal/\∃h2,nQ h1 l=some h2/\R call n [.code b] (fun e2 fr2 h3=>e2=.normal/\fr2.cx.dfs=[]/\∃h4,kB h3 l .ready none=some h4/\P h4) .normal fr1 h2) .normal ⟨nq ps args tm,⟨[],.no,some l,f⟩⟩ h) :
  ∃h',nG call n l args h=some (.ret (.bool true),.no,h')/\P h':=by
 obtain⟨e,fr1,h1,q1,rfl,h2,q2,e2,fr2,h3,q3,rfl,q4,h4,q5,hP⟩:=hR;refine⟨h4,?_,hP⟩;unfold nG;rw[hl,aF];show cond (Nat.beq (len args) (len ps)) _ _=_;rw[bH,bH,hlen,fN,cond_true];unfold zf;rw[q1,aF];show aq (nQ h1 l) _=_;rw[q2,aF,q3,aF];show cond (Zn fr2.cx.dfs) _ _=_;rw[q4];show wA true (kB h3 l .ready none)=_;rw[q5];rfl
theorem YY {call:aG}{n:Nat}{k:List It}{Q:AEx->AF->AH->Prop}{f:AX}{ps:List Nat}{as b:aw}{tm:Tm}{ds:List DF}{rc:RC}{fid:FuncId}{h h2:AH}{v:AV}{rc':RC}{st:LoopState}{tm':Tm}{ps':List Nat}{as' b':aw}{fid':FuncId}
  (hc:call (ev f tm) [.yld (h.z+1)] .no ((h.new (.dfd false)).new (.loop .ready none tm ps as b fid))=some (.ret v,rc',h2)) (hl:h2.get (h.z+1)=some (.loop st none tm' ps' as' b' fid')) (hb:wM st=false)
  (hR:R call n k Q .normal ⟨tm,⟨.mark h.z::ds,rc,none,fid⟩⟩ (h2.set (h.z+1) (.loop .exhausted none tm' ps' as' b' fid'))) :
  R call n (.code (.rangeFunc f ps as b)::k) Q .normal ⟨tm,⟨ds,rc,none,fid⟩⟩ h:=by
 show WP (aq (wQ ⟨tm,⟨ds,rc,none,fid⟩⟩ ps as b h) fun p=>aq (call (ev f tm) [.yld p.1] .no p.2.2) fun q=>CD q.1 (AK p.2.1 ⟨tm,⟨ds,rc,none,fid⟩⟩) p.1 q.2.2) (R call n k Q);have e1:wQ ⟨tm,⟨ds,rc,none,fid⟩⟩ ps as b h=some (h.z+1,[.mark h.z],(h.new (.dfd false)).new (.loop .ready none tm ps as b fid)):=rfl;rw[e1,aF];simp only[hc,aF];show WP (uT ⟨tm,⟨.mark h.z::ds,rc,none,fid⟩⟩ (h.z+1) h2) _;unfold uT;rw[hl,aF];show WP (cond (wM st) none (some (.normal,⟨tm,⟨.mark h.z::ds,rc,none,fid⟩⟩,h2.set (h.z+1) (.loop .exhausted none tm' ps' as' b' fid')))) _;rw[hb];exact fK.2 hR
theorem uJ {call:aG}{n:Nat}{k:List It}{Q:AEx->AF->AH->Prop}{f:AX}{ps:List Nat}{as b:aw}{tm:Tm}{ds:List DF}{rc:RC}{fid:FuncId}{h h2:AH}{v:AV}{rc':RC}{st:LoopState}{tm':Tm}{ps':List Nat}{as' b':aw}{fid':FuncId}(p q:Nat)(hp:h.z=p)(hq:p+1=q)
  (hc:call (ev f tm) [.yld q] .no ((h.new (.dfd false)).new (.loop .ready none tm ps as b fid))=some (.ret v,rc',h2)) (hl:h2.get q=some (.loop st none tm' ps' as' b' fid')) (hb:wM st=false)
  (hR:R call n k Q .normal ⟨tm,⟨.mark p::ds,rc,none,fid⟩⟩ (h2.set q (.loop .exhausted none tm' ps' as' b' fid'))) :
  R call n (.code (.rangeFunc f ps as b)::k) Q .normal ⟨tm,⟨ds,rc,none,fid⟩⟩ h:=by
 subst hp hq;exact YY hc hl hb hR
theorem ye {call:aG}{m:Md}{h:AH}{k:Nat}(hk:h.get k=some (.dfd false)):jK [.mark k] call m h=some (m,h.set k (.dfd true)):=by
 show aq (aq (h.get k) fun o=>aq (abz o) fun t=>cond t none (some (m,h.set k (.dfd true)))) _=_;rw[hk];rfl
attribute [go_sem] aeh aej RD_mv Za Ps Zd Zc Po LO aem RD_un Zb Pp Pr Pq EL ael LP Ze aek dE_eq ON Lr OO Ls XR OP adW adV adY XS adX Wd Wc OX OY LC Pb Eu BL LD Ew BH yT LF OZ Ev BI BK BJ wx wy Ex Ow adK adJ JZ DB Nu Ka AW jF Jh mW Pd List.append_eq List.nil_append List.cons_append Bool.true_or Bool.or_true Bool.false_or Bool.or_false Bool.true_and Bool.and_true Bool.false_and Bool.and_false Bool.not_not R_nil aef R_seq Pn aeg R_ret YZ aei Wu Nn BQ EK yY yX LM BP EH LN R_op R_opg Ws Nl acY Wr acZ ac1 ac2 LR Zf aen Pt adu NF WU Xd NJ Kg Xe ads Kp ac0 Wq adU OQ Xo Lu Ol DL DK Kk Kj Nv Bk Kh Nh acQ iQ Ko Kn DE Bl Xa DO WX NO NH Kq Ke DD Yz Yy DG DP WZ Eb Xm Og Oh okV_s okH_s adD aeP ev_c adm adn NQ Ku JH JG JF JE JD JC AO zK mf ado YB YA XA Xt Xz Xu Xv Xw Xx Xy Wi Wh acP Xp dL uU We Wf acN aF aE aJ aC an adF acX cp xj gK lK Co Le Bt jz DW DV DX Oe KJ KI KM DZ wN tN zP eF AN Lx Lw Eo En Lt On Om KQ KO Oj Tr.cB Tr.cA WC WB Ns gP jW bY eN XF zH qX fH cZ cw Cu Kx NR Kw Cv sy pe max2 Hw cond_true cond_false decide_true decide_false Bool.not_true Bool.not_false List.getElem?_cons_zero List.getElem?_cons_succ List.length_cons List.length_nil waa List.map_cons List.map_nil List.drop_zero List.take_succ_cons List.take_zero List.drop_succ_cons wac Nat.add_zero Option.some.injEq exists_eq_left' exists_eq_left bI.ret.injEq bI.pan.injEq AV.int.injEq AV.bool.injEq ne_eq not_true_eq_false not_false_eq_true true_and and_true Fv eq_self
def oM (k gn sz off n:Nat)(h:AH):Option (AV×AH):=
 aq (lg h k gn sz) fun r=>aq (chunk r.1 sz n (drp (off*sz) r.2.1)) fun es=>some (.ls es,h.set k (.row gn sz r.1 r.2.1 (max r.2.2 ((off+n)*sz))))
def fS (v:AV)(h:AH):AV×AH:=
 match v with
 |.row k gn sz off n=>(oM k gn sz off n h).getD (.row k gn sz off n,h)
 |v=>(v,h)
def gH:List AV->AH->List AV×AH
 |[],h=>([],h)
 |v::l,h=>((fS v h).1::(gH l (fS v h).2).1,(gH l (fS v h).2).2)
def nD (v:AV)(h:AH):AV×AH:=
 match v with
 |.agg cs=>(.agg (gH cs h).1,(gH cs h).2)
 |v=>fS v h
section
variable {C:Cx}{g:Gh}{U:Nat->Option (List AV)}{h:AH}{w:World}
theorem Cd (s:Sim C g U h w){v:AV}{u:Value}(hv:bu g v u):∃g',Ext g g'/\Sim C g' U (fS v h).2 w/\bu g' (fS v h).1 u/\Low h (fS v h).2/\(fS v h).1.isCell=v.isCell/\(fS v h).2.z=h.z:=by
 have triv:∃g',Ext g g'/\Sim C g' U h w/\bu g' v u/\Low h h/\v.isCell=v.isCell/\h.z=h.z:=⟨g,.refl g,s,hv,.refl _,rfl,rfl⟩
 cases v<;>try exact triv
 case row k gn sz off m=>
  cases e:oM k gn sz off m h with
  |none=>rw[show fS (.row k gn sz off m) h=(.row k gn sz off m,h) by simp only[fS,e,Option.getD_none]];exact triv
  |some p=>
   rw[show fS (.row k gn sz off m) h=p by simp only[fS,e,Option.getD_some]];obtain⟨r,hr,e⟩:=ah e;obtain⟨es,hes,e⟩:=ah e;cases e;obtain⟨lc,a,hl,hs,hle,hu,ha⟩:=hv.row_inv;obtain⟨r1,r2,r3,r4⟩:=ma s hl hr;obtain⟨q1,q2,us,t',q3,q4,q5,q6,q7,q8,q9⟩:=r4;rw[fM]at hes;have ch:=kh hes (du q7 _);obtain⟨ex,s'⟩:=s.shut (m:=(off+m)*sz) r1 r2 hl q3;refine⟨_,ex,s',?_,Low.set _ _ _,rfl,co _ _ _⟩;rcases ha with rfl|⟨q,_⟩
   ·rw[hu];have hcl:=ch.le;simp only[List.length_drop]at hcl;have hmul:off*sz+m*sz=(off+m)*sz:=by rw[<-Nat.add_mul]
    by_cases hm:m=0
    ·subst hm;have:es=[]:=List.length_eq_zero_iff.1 ch.len;subst this;exact .lst0
    ·have hp:0<m*sz:=Nat.mul_pos (by omega) q2;refine .ls ch.size ?_ ch.len.symm (by rw[ch.len];omega) ?_
     ·rw[ch.flat];exact fw (du q7 _) _
     ·rw[ch.flat];refine fm.mk (us:=((((us.toList.drop lc.base).take r.2.1.length).drop (off*sz)).take (m*sz))) (((q6.mono ex).drop _).take _) fun i u hi=>?_
      have hi1:i<m*sz:=by
       rw[List.getElem?_take]at hi;split at hi
       ·assumption
       ·cases hi
      rw[List.getElem?_take,wae hi1,List.getElem?_drop,List.getElem?_take]at hi;split at hi
      ·have:=Gh.fz_at g lc.block lc.base ((us.toList.drop lc.base).take ((off+m)*sz)) (i:=off*sz+i) (u:=u)
        (by rw[List.getElem?_take,wae (by omega)];exact hi)
       rw[<-Nat.add_assoc]at this;exact this
      ·cases hi
   ·subst q;have:es=[]:=List.length_eq_zero_iff.1 ch.len;subst this;rw[hu];exact .lst0
theorem Cc:∀{l:List AV} {us:List Value} {g:Gh} {h:AH},Sim C g U h w->aR g l us->∃g',Ext g g'/\Sim C g' U (gH l h).2 w/\aR g' (gH l h).1 us/\Low h (gH l h).2/\aO (gH l h).1=aO l/\(gH l h).2.z=h.z
 |[],_,g,h,s,hv=>⟨g,.refl g,s,hv,.refl _,rfl,rfl⟩
 |v::l,_,g,h,s,.cons hv ht=>by
  obtain⟨g1,e1,s1,v1,l1,c1,n1⟩:=Cd s hv;obtain⟨g2,e2,s2,v2,l2,c2,n2⟩:=Cc s1 (ht.mono e1);exact⟨g2,e1.trans e2,s2,.cons (v1.mono e2) v2,l1.trans l2,by simp only[gH,bQ,c1,c2],by simp only[gH,n2,n1]⟩
theorem Ni (s:Sim C g U h w){v:AV}{u:Value}(hv:bu g v u):∃g',Ext g g'/\Sim C g' U (nD v h).2 w/\bu g' (nD v h).1 u/\Low h (nD v h).2/\(nD v h).2.z=h.z:=by
 cases v<;>first
  |(obtain⟨g',a,b,c,d,_,e⟩:=Cd s hv;exact⟨g',a,b,c,d,e⟩)
  |skip
 case agg cs=>
  obtain⟨us,h1,h2,rfl⟩:=hv.agg_inv;obtain⟨g',a,b,c,d,e,f⟩:=Cc s h2;exact⟨g',a,b,.agg (by rw[e];exact h1) c,d,f⟩
end
theorem dM {v:AV}(hv:v.free=true)(h:AH):fS v h=(v,h):=by
 cases v<;>first|rfl|(simp[AV.free]at hv)
theorem uf:∀{l:List AV},AV.jp l=true->∀h,gH l h=(l,h)
 |[],_,_=>rfl
 |v::l,hv,h=>by
  simp only[AV.jp,Bool.and_eq_true]at hv;simp only[gH,dM hv.1,uf hv.2]
theorem Dw {v:AV}(hv:v.free=true)(h:AH):nD v h=(v,h):=by
 cases v<;>first|exact dM hv h|skip
 case agg cs=>simp only[nD,uf (show AV.jp cs=true by simpa [AV.free] using hv)]
theorem own_shut {base sz:Nat}{agg:Bool}{h:AH}{v:AV}{out:List AV}(o:Own base sz agg h v out)(hs:agg=false->sz=1):
  (v=.nl/\out=[]/\fS v h=(.nl,h))∨∃k g,v=.row k g sz 0 out.length/\fS v h=(.ls out,h.set k (.row g sz agg (flat out) (out.length*sz)))/\base<=k/\k<h.z:=by
 obtain⟨o1,⟨rfl,rfl⟩|⟨k,g,rfl,hk,hlt,hbk⟩⟩:=o
 ·exact .inl ⟨rfl,rfl,rfl⟩
 ·refine .inr ⟨k,g,rfl,?_,hbk,hlt⟩;have er:lg h k g sz=some (agg,flat out,0):=by
   unfold lg;rw[hk,aF];show aq (some (g,sz,agg,flat out,0)) _=_;rw[aF];show cond (and (Nat.beq g g) (Nat.beq sz sz)) _ _=_;rw[fN,fN];rfl
  have:oM k g sz 0 out.length h=some (.ls out,h.set k (.row g sz agg (flat out) (out.length*sz))):=by
   unfold oM;rw[er,aF,Nat.zero_mul,fM,List.drop_zero,kA hs o1,aF];simp
  simp only[fS,this,Option.getD_some]
def eT (v:AV)(h:AH):AV×AH:=((nD v h).1.norm,(nD v h).2)
def iP:List AV->AH->List AV×AH
 |[],h=>([],h)
 |v::l,h=>((eT v h).1::(iP l (eT v h).2).1,(iP l (eT v h).2).2)
def gT (v:AV)(h:AH):AV×AH:=
 match v with
 |.tup vs=>(.tup (iP vs h).1,(iP vs h).2)
 |v=>eT v h
section
variable {C:Cx}{g:Gh}{U:Nat->Option (List AV)}{h:AH}{w:World}
theorem IT (s:Sim C g U h w){v:AV}{u:Value}(hv:bu g v u):∃g',Ext g g'/\Sim C g' U (eT v h).2 w/\bu g' (eT v h).1 u/\Low h (eT v h).2/\(eT v h).2.z=h.z:=by
 obtain⟨g',a,b,c,d,e⟩:=Ni s hv;exact⟨g',a,b,c.norm,d,e⟩
theorem zN:∀{l:List AV} {us:List Value} {g:Gh} {h:AH},Sim C g U h w->aR g l us->∃g',Ext g g'/\Sim C g' U (iP l h).2 w/\aR g' (iP l h).1 us/\Low h (iP l h).2/\(iP l h).2.z=h.z
 |[],_,g,h,s,hv=>⟨g,.refl g,s,hv,.refl _,rfl⟩
 |v::l,_,g,h,s,.cons hv ht=>by
  obtain⟨g1,e1,s1,v1,l1,n1⟩:=IT s hv;obtain⟨g2,e2,s2,v2,l2,n2⟩:=zN s1 (ht.mono e1);exact⟨g2,e1.trans e2,s2,.cons (v1.mono e2) v2,l1.trans l2,by simp only[iP,n2,n1]⟩
theorem XX (s:Sim C g U h w){v:AV}{u:Value}(hv:bu g v u):∃g',Ext g g'/\Sim C g' U (gT v h).2 w/\bu g' (gT v h).1 u/\Low h (gT v h).2/\(gT v h).2.z=h.z:=by
 cases v<;>first
  |exact IT s hv
  |skip
 case tup vs=>
  obtain⟨us,h2,rfl⟩:=hv.tup_inv;obtain⟨g',a,b,c,d,e⟩:=zN s h2;exact⟨g',a,b,.tup c,d,e⟩
end
def fidIn (l:List Nat):AV->Bool
 |.fn f _ _=>l.contains f
 |_=>false
def inS (no:List Nat)(call:aG):aG:=fun f a rc h=>match fidIn no f with
 |true=>call f a rc h
 |false=>call f (iP a h).1 rc (iP a h).2
def tX:Option (bI×RC×AH)->Option (bI×RC×AH)
 |some (.ret v,rc,h)=>some (.ret (gT v h).1,rc,(gT v h).2)
 |r=>r
def LX (no:List Nat)(call:aG):aG:=fun f a rc h=>match fidIn no f with
 |true=>call f a rc h
 |false=>tX (call f a rc h)
theorem TE {C:Cx}{no:List Nat}{K:aG}(hK:bM C K):bM C (inS no K):=by
 intro f args rc h out rc' h' q;unfold inS at q;cases hf:fidIn no f with
 |true=>rw[hf]at q;exact hK f args rc h out rc' h' q
 |false=>
  rw[hf]at q;intro g U w fv us K' kind s hf ha hr hK';obtain⟨g1,e1,s1,v1,l1,n1⟩:=zN s ha;obtain⟨d,fr0,hd,hent,g2,U2,w',x2,u2,s2,lo2,hrc,hland⟩:=hK _ _ _ _ _ _ _ q g1 U w fv us K' kind s1 (hf.mono e1) v1 (hr.mono e1) hK';exact⟨d,fr0,hd,hent,g2,U2,w',e1.trans x2,by rw[<-n1];exact u2,s2,l1.trans lo2,hrc,hland⟩
theorem WR {C:Cx}{no:List Nat}{K:aG}(hK:bM C K):bM C (LX no K):=by
 intro f args rc h out rc' h' q;unfold LX at q;cases hf:fidIn no f with
 |true=>rw[hf]at q;exact hK f args rc h out rc' h' q
 |false=>
  rw[hf]at q;replace q:tX (K f args rc h)=some (out,rc',h'):=q;cases hk:K f args rc h with
  |none=>rw[hk]at q;cases q
  |some r=>
   obtain⟨o,rc1,h1⟩:=r;rw[hk]at q;cases o with
   |pan v=>exact hK f args rc h out rc' h' (by rw[hk];exact q)
   |ret v=>
    cases q;intro g U w fv us K' kind s hf ha hr hK';obtain⟨d,fr0,hd,hent,g2,U2,w',x2,u2,s2,lo2,hrc,hland⟩:=hK _ _ _ _ _ _ _ hk g U w fv us K' kind s hf ha hr hK';obtain⟨u,hv,st⟩:=hland;obtain⟨g3,e3,s3,v3,l3,n3⟩:=XX s2 hv;exact⟨d,fr0,hd,hent,g3,U2,w',x2.trans e3,u2,s3,lo2.trans l3,hrc.mono e3,u,v3,st⟩
def nN (K:aG)(E:Env)(N:Nat)(ni no:List Nat):Nat->aG
 |0=>inS ni K
 |m+1=>inS ni (LX no (fun f a rc h=>match K f a rc h with
  |some r=>some r
  |none=>vX f E (nN K E N ni no m) N a rc h))
theorem zw {C:Cx}{K:aG}{E:Env}(hE:oK C E)(hK:bM C K)(N:Nat)(ni no:List Nat):∀m,bM C (nN K E N ni no m)
 |0=>TE hK
 |m+1=>by
  refine TE (WR ?_);intro f args rc h out rc' h' q;cases hk:K f args rc h with
  |some r=>
   simp only[hk]at q;exact hK f args rc h out rc' h' (by rw[hk];exact q)
  |none=>
   simp only[hk]at q;exact rF hE (zw hE hK N ni no m) N f args rc h out rc' h' q
section
variable {K:aG}{E:Env}{N:Nat}{ni no:List Nat}{m:Nat}
theorem Xj {f:AV}{a a':List AV}{rc:RC}{h h':AH}(e:iP a h=(a',h'))(e':iP a' h'=(a',h'))(hn:fidIn ni f=false):nN K E N ni no m f a rc h=nN K E N ni no m f a' rc h':=by
 have key:∀call:aG,inS ni call f a rc h=inS ni call f a' rc h':=by
  intro call;unfold inS;rw[hn,e];show call f a' rc h'=call f (iP a' h').1 rc (iP a' h').2;rw[e']
 cases m with
 |zero=>exact key _
 |succ m=>exact key _
theorem Au {call:aG}{f:AV}{a a':List AV}{rc:RC}{h h':AH}(e:iP a h=(a',h'))(hn:fidIn ni f=false):inS ni call f a rc h=call f a' rc h':=by
 unfold inS;rw[hn,e]
theorem ur {f:AV}{a a':List AV}{rc:RC}{h h1:AH}{v:AV}{rc':RC}{h':AH}(e0:iP a h=(a',h1))(hn:fidIn ni f=false)(e:K f a' rc h1=some (.ret v,rc',h'))(hv:gT v h'=(v,h')):nN K E N ni no m f a rc h=some (.ret v,rc',h'):=by
 have ho:tX (some (bI.ret v,rc',h'))=some (bI.ret v,rc',h'):=by
  show some (bI.ret (gT v h').1,rc',(gT v h').2)=_;rw[hv]
 cases m with
 |zero=>exact(Au e0 hn).trans e
 |succ m=>
  refine(Au e0 hn).trans ?_;unfold LX;cases fidIn no f with
  |true=>simp only[e]
  |false=>simp only[e];exact ho
theorem qS {f:FuncId}{c a a':List AV}{rc:RC}{h h1:AH}(e0:iP a h=(a',h1))(hn:fidIn ni (.fn f [] c)=false)(hk:K (.fn f [] c) a' rc h1=none):
  nN K E N ni no (m+1) (.fn f [] c) a rc h=cond (fidIn no (.fn f [] c)) (dZ E (nN K E N ni no m) N f (a'++c) rc h1) (tX (dZ E (nN K E N ni no m) N f (a'++c) rc h1)):=by
 have ev:vX (.fn f [] c) E (nN K E N ni no m) N a' rc h1=dZ E (nN K E N ni no m) N f (a'++c) rc h1:=by
  show dZ E _ N f (app [] (app a' c)) rc h1=_;rw[fk,fk];rfl
 refine(Au e0 hn).trans ?_;unfold LX;cases fidIn no (.fn f [] c) with
 |true=>simp only[hk,ev];rfl
 |false=>simp only[hk,ev];rfl
theorem NU {f:FuncId}{c a:List AV}{rc:RC}{h:AH}(hn:fidIn ni (.fn f [] c)=true)(hk:K (.fn f [] c) a rc h=none):
  nN K E N ni no (m+1) (.fn f [] c) a rc h=cond (fidIn no (.fn f [] c)) (dZ E (nN K E N ni no m) N f (a++c) rc h) (tX (dZ E (nN K E N ni no m) N f (a++c) rc h)):=by
 have ev:vX (.fn f [] c) E (nN K E N ni no m) N a rc h=dZ E (nN K E N ni no m) N f (a++c) rc h:=by
  show dZ E _ N f (app [] (app a c)) rc h=_;rw[fk,fk];rfl
 show inS ni _ _ a rc h=_;unfold inS;rw[hn];show LX no _ _ a rc h=_;unfold LX;cases fidIn no (.fn f [] c) with
 |true=>simp only[hk,ev];rfl
 |false=>simp only[hk,ev];rfl
theorem NT {l:Nat}{a a':List AV}{h h1:AH}(e0:iP a h=(a',h1))(hk:K (.yld l) a' .no h1=none):
  nN K E N ni no (m+1) (.yld l) a .no h=tX (nG (nN K E N ni no m) N l a' h1):=by
 refine(Au e0 rfl).trans ?_;unfold LX;show tX _=_;simp only[hk];rfl
theorem nW {v v':AV}{rc:RC}{h h':AH}(e:gT v h=(v',h')):tX (some (.ret v,rc,h))=some (.ret v',rc,h'):=by
 show some (bI.ret (gT v h).1,rc,(gT v h).2)=_;rw[e]
theorem NA {v:AV}{rc:RC}{h:AH}: tX (some (.pan v,rc,h))=some (.pan v,rc,h):=rfl
end
theorem aB (h:AH):iP [] h=([],h):=rfl
theorem ae {v v':AV}{l l':List AV}{h h1 h2:AH}(e1:eT v h=(v',h1))(e2:iP l h1=(l',h2)):iP (v::l) h=(v'::l',h2):=by
 simp only[iP,e1,e2]
theorem dG {v:AV}(hv:v.free=true)(h:AH):eT v h=(v.norm,h):=by simp only[eT,Dw hv]
theorem ba (k:IntKind)(n:Int)(h:AH):eT (.int k n) h=(.int k n,h):=rfl
theorem jd (b:Bool)(h:AH):eT (.bool b) h=(.bool b,h):=rfl
theorem dh (k g o:Nat)(h:AH):eT (.ptr k g o) h=(.ptr k g o,h):=rfl
theorem oC (h:AH):eT .nl h=(.ls [],h):=rfl
theorem OR (k:Nat)(h:AH):eT (.yld k) h=(.yld k,h):=rfl
theorem jD (f:FuncId)(a b:List AV)(h:AH):eT (.fn f a b) h=(.fn f (AV.ip a) (AV.ip b),h):=by simp[eT,nD,fS,AV.norm]
theorem bG {l l':List AV}{h h':AH}(e:iP l h=(l',h')):gT (.tup l) h=(.tup l',h'):=by simp only[gT,e]
theorem cC {v:AV}{h:AH}{p:AV×AH}(hv:∀l,v≠.tup l)(e:eT v h=p):gT v h=p:=by
 cases v<;>first|exact e|exact absurd rfl (hv _)
theorem Cj {h:AH}{k gn sz off n fz:Nat}{agg:Bool}{cs es:List AV}(hk:h.get k=some (.row gn sz agg cs fz))(hc:chunk agg sz n (cs.drop (off*sz))=some es):
  fS (.row k gn sz off n) h=(.ls es,h.set k (.row gn sz agg cs (max fz ((off+n)*sz)))):=by
 have er:lg h k gn sz=some (agg,cs,fz):=by
  unfold lg;rw[hk,aF];show aq (some (gn,sz,agg,cs,fz)) _=_;rw[aF];show cond (and (Nat.beq gn gn) (Nat.beq sz sz)) _ _=_;rw[fN,fN];rfl
 have:oM k gn sz off n h=some (.ls es,h.set k (.row gn sz agg cs (max fz ((off+n)*sz)))):=by
  unfold oM;rw[er,aF,fM,hc,aF]
 simp only[fS,this,Option.getD_some]
