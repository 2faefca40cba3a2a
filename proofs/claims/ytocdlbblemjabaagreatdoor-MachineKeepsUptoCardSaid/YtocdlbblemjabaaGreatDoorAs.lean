/- AbsGo: rules for symbolic runs of regions that draw their order (no condition). -/
import Derived.Test.YtocdlbblemjabaaGreatDoorAr
namespace Go.AG
section
variable (call:aQ)(n:Nat)
def RD (l all:List (aV×DI))(tm:Tm)(cx:AC)(h:AH)(nk:Nat)(hs:List AH)(rds:List Rd)(k:List It)(Q:AEx->AF->AH->Prop):Prop:=
 WP (ji l call all ⟨⟨tm,cx⟩,h,nk,hs,rds⟩) (R call n k Q)
def dE (ok:Bool)(tm:Tm)(cx:AC)(h:AH)(k:List It)(Q:AEx->AF->AH->Prop):Prop:=ok=true/\R call n k Q .normal ⟨tm,cx⟩ h
def dS (r:OpR)(d:Option Nat)(l all:List (aV×DI))(tm:Tm)(cx:AC)(h:AH)(nk:Nat)(hs:List AH)(rds:List Rd)(k:List It)(Q:AEx->AF->AH->Prop):Prop:=
 WP (aD (jh r call d ⟨tm,cx⟩ h) fun p=>jW p.1 ⟨⟨tm,cx⟩,h,nk,hs,rds⟩ p.2.1 (ji l call all)) (R call n k Q)
def dV (r:OpR)(d:Option Nat)(op:AOp)(lo hi:Nat)(l all:List (aV×DI))(tm:Tm)(cx:AC)(h:AH)(nk:Nat)(hs:List AH)(rds:List Rd)(k:List It)(Q:AEx->AF->AH->Prop):Prop:=
 WP (lV r ⟨⟨tm,cx⟩,h,nk,hs,rds⟩ ⟨d,op,none⟩ ⟨lo,hi,false⟩ (ji l call all)) (R call n k Q)
def dK (r:Option (dH×RC×AH))(fin:Bool)(d:Option Nat)(l all:List (aV×DI))(tm:Tm)(cx:AC)(h:AH)(nk:Nat)(hs:List AH)(rds:List Rd)(k:List It)(Q:AEx->AF->AH->Prop):Prop:=
 WP (aD (TL d ⟨tm,cx⟩ r) fun p=>vU p.1 call all l fin ⟨⟨tm,cx⟩,h,nk,hs,rds⟩ p.2.1 p.2.2 (ji l call all)) (R call n k Q)
def dA (r:OpR)(fin:Bool)(d:Option Nat)(l all:List (aV×DI))(tm:Tm)(cx:AC)(h:AH)(nk:Nat)(hs:List AH)(rds:List Rd)(k:List It)(Q:AEx->AF->AH->Prop):Prop:=
 WP (aD (jh r call d ⟨tm,cx⟩ h) fun p=>vU p.1 call all l fin ⟨⟨tm,cx⟩,h,nk,hs,rds⟩ p.2.1 p.2.2 (ji l call all)) (R call n k Q)
def RZ (l:List (aV×DI))(c:Nat)(tm:Tm)(cx:AC)(h:AH)(nk:Nat)(hs:List AH)(rds:List Rd):Prop:=∃ r,evRest l call c ⟨⟨tm,cx⟩,h,nk,hs,rds⟩=some r
def dP (fin:Bool)(l:List (aV×DI))(tm:Tm)(cx:AC)(h:AH)(nk:Nat)(hs:List AH)(rds:List Rd):Prop:=match fin with
 |true=>rdsOk rds hs=true
 |false=>RZ call l (hs.length-1) tm cx h nk hs rds
def zS (r:OpR)(d:Option Nat)(l:List (aV×DI))(c:Nat)(tm:Tm)(cx:AC)(h:AH)(nk:Nat)(hs:List AH)(rds:List Rd):Prop:=
 ∃ x,aD (jh r call d ⟨tm,cx⟩ h) (fun p=>jW p.1 ⟨⟨tm,cx⟩,h,nk,hs,rds⟩ p.2.1 (evRest l call c))=some x
def zV (r:OpR)(d:Option Nat)(op:AOp)(lo hi:Nat)(l:List (aV×DI))(c:Nat)(tm:Tm)(cx:AC)(h:AH)(nk:Nat)(hs:List AH)(rds:List Rd):Prop:=
 ∃ x,lV r ⟨⟨tm,cx⟩,h,nk,hs,rds⟩ ⟨d,op,none⟩ ⟨lo,hi,false⟩ (evRest l call c)=some x
def zC (k:Cls)(skip:Bool)(w:Option Bool)(d:Option Nat)(op:AOp)(lo hi:Nat)(l:List (aV×DI))(c:Nat)(tm:Tm)(cx:AC)(h:AH)(nk:Nat)(hs:List AH)(rds:List Rd):Prop:=
 match k,skip,w with
 |.born,true,_=>False
 |_,true,_=>RZ call l c tm cx h nk hs rds
 |.still,false,some true=>zS call (evOp op tm h) d l c tm cx h nk hs rds
 |.still,false,some false=>RZ call l c (ez d tm (.tup [])) cx h nk hs rds
 |.reads,false,some true=>zV call (evOp op tm h) d op lo hi l c tm cx h nk hs rds
 |.reads,false,some false=>RZ call l c (ez d tm (.tup [])) cx h nk hs rds
 |.born,false,_=>RZ call l c (ez d tm (.ptr nk 0 0)) cx h (nk+1) hs rds
 |_,_,_=>False
def dC (c:Cls)(w:Option Bool)(d:Option Nat)(op:AOp)(lo hi:Nat)(fin:Bool)(l all:List (aV×DI))(tm:Tm)(cx:AC)(h:AH)(nk:Nat)(hs:List AH)(rds:List Rd)(k:List It)(Q:AEx->AF->AH->Prop):Prop:=
 match c,w with
 |.still,some true=>dS call n (evOp op tm h) d l all tm cx h nk hs rds k Q
 |.still,some false=>RD call n l all (ez d tm (.tup [])) cx h nk hs rds k Q
 |.reads,some true=>dV call n (evOp op tm h) d op lo hi l all tm cx h nk hs rds k Q
 |.reads,some false=>RD call n l all (ez d tm (.tup [])) cx h nk hs rds k Q
 |.acts,some true=>dA call n (evOp op tm h) fin d l all tm cx h nk hs rds k Q
 |.acts,some false=>RD call n l all (ez d tm (.tup [])) cx h nk (hs++[h]) rds k Q
 |.born,some true=>RD call n l all (ez d tm (.ptr nk 0 0)) cx h (nk+1) hs rds k Q
 |_,_=>False
end
section
variable {call:aQ}{n:Nat}{l all:List (aV×DI)}{tm:Tm}{cx:AC}{h h1:AH}{nk lo hi:Nat}{hs:List AH}{rds:List Rd}{k:List It}{Q:AEx->AF->AH->Prop}{d:Option Nat}{op:AOp}{fin:Bool}{v:AV}{rc:RC}
theorem aku {ops:List (aV×DI)}: R call n (.code (.draw ops)::k) Q .normal ⟨tm,cx⟩ h=RD call n ops ops tm cx (kK ops h) h.z [kK ops h] [] k Q:=(rfl)
theorem akx:RD call n [] all tm cx h nk hs rds k Q=dE call n (rdsOk rds hs) tm cx h k Q:=by
 apply propext;show WP (cond (rdsOk rds hs) (some (.normal,⟨tm,cx⟩,h)) none) _↔(rdsOk rds hs=true/\_);cases rdsOk rds hs with
 |true=>simp only[cond_true,eH,true_and]
 |false=>simp only[cond_false,gD,Bool.false_eq_true,false_and]
theorem eI {c:Cls}{g:Option (Nat×Bool)}(hc:op.cls=c)(hb:c=.born->g=none):
  RD call n ((⟨d,op,g⟩,⟨lo,hi,fin⟩)::l) all tm cx h nk hs rds k Q=dC call n c (wants g tm) d op lo hi fin l all tm cx h nk hs rds k Q:=by
 apply propext;show WP (oR op.cls call all l ⟨d,op,g⟩ ⟨lo,hi,fin⟩ ⟨⟨tm,cx⟩,h,nk,hs,rds⟩ (ji l call all)) (R call n k Q)↔_;rw[hc];have eo:dL ⟨d,op,g⟩ call ⟨tm,cx⟩ h=aD (wants g tm) fun w=>cond w (jh (evOp op tm h) call d ⟨tm,cx⟩ h) (some (.normal,(AF.mk tm cx).put d (.tup []),h)):=(rfl)
 cases c with
 |born=>rw[hb rfl];exact Iff.rfl
 |still=>
  show WP (aD (dL ⟨d,op,g⟩ call ⟨tm,cx⟩ h) fun p=>jW p.1 _ p.2.1 _) _↔_;rw[eo];cases wants g tm with
  |none=>exact gD
  |some w=>cases w<;>exact Iff.rfl
 |reads=>
  show WP (aD (wants g tm) fun w=>cond w (lV (evOp op tm h) ⟨⟨tm,cx⟩,h,nk,hs,rds⟩ ⟨d,op,g⟩ ⟨lo,hi,fin⟩ (ji l call all)) (ji l call all ⟨(AF.mk tm cx).put d (.tup []),h,nk,hs,rds⟩)) _↔_;cases wants g tm with
  |none=>exact gD
  |some w=>cases w with
   |false=>exact Iff.rfl
   |true=>
    rw[aI,cond_true];show _↔WP (lV (evOp op tm h) ⟨⟨tm,cx⟩,h,nk,hs,rds⟩ ⟨d,op,none⟩ ⟨lo,hi,false⟩ (ji l call all)) (R call n k Q);cases evOp op tm h<;>exact Iff.rfl
 |acts=>
  show WP (aD (dL ⟨d,op,g⟩ call ⟨tm,cx⟩ h) fun p=>vU p.1 call all l fin _ p.2.1 p.2.2 _) _↔_;rw[eo];cases wants g tm with
  |none=>exact gD
  |some w=>cases w<;>exact Iff.rfl
theorem RD_mv (x:AX){g:Option (Nat×Bool)}: RD call n ((⟨d,(.mv x),g⟩,⟨lo,hi,fin⟩)::l) all tm cx h nk hs rds k Q=dC call n .still (wants g tm) d (.mv x) lo hi fin l all tm cx h nk hs rds k Q:=eI rfl (by intro e;cases e)
theorem adu (a b c:AX){g:Option (Nat×Bool)}: RD call n ((⟨d,(.pick a b c),g⟩,⟨lo,hi,fin⟩)::l) all tm cx h nk hs rds k Q=dC call n .still (wants g tm) d (.pick a b c) lo hi fin l all tm cx h nk hs rds k Q:=eI rfl (by intro e;cases e)
theorem WT (z:List AV)(ps:List (Nat×Nat×AX)){g:Option (Nat×Bool)}: RD call n ((⟨d,(.build z ps),g⟩,⟨lo,hi,fin⟩)::l) all tm cx h nk hs rds k Q=dC call n .still (wants g tm) d (.build z ps) lo hi fin l all tm cx h nk hs rds k Q:=eI rfl (by intro e;cases e)
theorem adw (agg:Bool)(sz:Nat)(z:List AV)(m:Nat)(ps:List (Nat×AX)){g:Option (Nat×Bool)}: RD call n ((⟨d,(.lit true agg sz z m ps),g⟩,⟨lo,hi,fin⟩)::l) all tm cx h nk hs rds k Q=dC call n .still (wants g tm) d (.lit true agg sz z m ps) lo hi fin l all tm cx h nk hs rds k Q:=eI rfl (by intro e;cases e)
theorem adv (agg:Bool)(sz:Nat)(x:AX){g:Option (Nat×Bool)}: RD call n ((⟨d,(.load agg sz x),g⟩,⟨lo,hi,fin⟩)::l) all tm cx h nk hs rds k Q=dC call n .reads (wants g tm) d (.load agg sz x) lo hi fin l all tm cx h nk hs rds k Q:=eI rfl (by intro e;cases e)
theorem WO (sz:Nat)(a x:AX){g:Option (Nat×Bool)}: RD call n ((⟨d,(.store sz a x),g⟩,⟨lo,hi,fin⟩)::l) all tm cx h nk hs rds k Q=dC call n .acts (wants g tm) d (.store sz a x) lo hi fin l all tm cx h nk hs rds k Q:=eI rfl (by intro e;cases e)
theorem Tb (x:AX){g:Option (Nat×Bool)}: RD call n ((⟨d,(.nilChk x),g⟩,⟨lo,hi,fin⟩)::l) all tm cx h nk hs rds k Q=dC call n .still (wants g tm) d (.nilChk x) lo hi fin l all tm cx h nk hs rds k Q:=eI rfl (by intro e;cases e)
theorem akB (o:BinOp)(e:EqK)(x y:AX){g:Option (Nat×Bool)}: RD call n ((⟨d,(.bin o e x y),g⟩,⟨lo,hi,fin⟩)::l) all tm cx h nk hs rds k Q=dC call n .still (wants g tm) d (.bin o e x y) lo hi fin l all tm cx h nk hs rds k Q:=eI rfl (by intro e;cases e)
theorem RD_un (o:UnOp)(x:AX){g:Option (Nat×Bool)}: RD call n ((⟨d,(.un o x),g⟩,⟨lo,hi,fin⟩)::l) all tm cx h nk hs rds k Q=dC call n .still (wants g tm) d (.un o x) lo hi fin l all tm cx h nk hs rds k Q:=eI rfl (by intro e;cases e)
theorem WQ (str:Bool)(sz:Nat)(x:AX)(l1 l2:Option AX){g:Option (Nat×Bool)}: RD call n ((⟨d,(.slice str sz x l1 l2 none),g⟩,⟨lo,hi,fin⟩)::l) all tm cx h nk hs rds k Q=dC call n .still (wants g tm) d (.slice str sz x l1 l2 none) lo hi fin l all tm cx h nk hs rds k Q:=eI rfl (by intro e;cases e)
theorem WS (o sz:Nat)(agg:Bool)(x:AX){g:Option (Nat×Bool)}: RD call n ((⟨d,(.faddr o sz agg x),g⟩,⟨lo,hi,fin⟩)::l) all tm cx h nk hs rds k Q=dC call n .still (wants g tm) d (.faddr o sz agg x) lo hi fin l all tm cx h nk hs rds k Q:=eI rfl (by intro e;cases e)
theorem WR (sz:Nat)(x i:AX){g:Option (Nat×Bool)}: RD call n ((⟨d,(.iaddr sz x i),g⟩,⟨lo,hi,fin⟩)::l) all tm cx h nk hs rds k Q=dC call n .still (wants g tm) d (.iaddr sz x i) lo hi fin l all tm cx h nk hs rds k Q:=eI rfl (by intro e;cases e)
theorem GS (x:AX)(i:Nat){g:Option (Nat×Bool)}: RD call n ((⟨d,(.extract x i),g⟩,⟨lo,hi,fin⟩)::l) all tm cx h nk hs rds k Q=dC call n .still (wants g tm) d (.extract x i) lo hi fin l all tm cx h nk hs rds k Q:=eI rfl (by intro e;cases e)
theorem akA (m:Nat)(as:List AX){g:Option (Nat×Bool)}: RD call n ((⟨d,(.builtin (.len m) as),g⟩,⟨lo,hi,fin⟩)::l) all tm cx h nk hs rds k Q=dC call n .reads (wants g tm) d (.builtin (.len m) as) lo hi fin l all tm cx h nk hs rds k Q:=eI rfl (by intro e;cases e)
theorem Td (sz:Nat)(agg:Bool)(z:List AV)(b:Nat)(as:List AX){g:Option (Nat×Bool)}: RD call n ((⟨d,(.builtin (.append sz agg z b) as),g⟩,⟨lo,hi,fin⟩)::l) all tm cx h nk hs rds k Q=dC call n .acts (wants g tm) d (.builtin (.append sz agg z b) as) lo hi fin l all tm cx h nk hs rds k Q:=eI rfl (by intro e;cases e)
theorem adx (f:AX)(as:List AX){g:Option (Nat×Bool)}: RD call n ((⟨d,(.call f as),g⟩,⟨lo,hi,fin⟩)::l) all tm cx h nk hs rds k Q=dC call n .acts (wants g tm) d (.call f as) lo hi fin l all tm cx h nk hs rds k Q:=eI rfl (by intro e;cases e)
theorem aky (z:List AV):RD call n ((⟨d,(.new z),none⟩,⟨lo,hi,fin⟩)::l) all tm cx h nk hs rds k Q=RD call n l all (ez d tm (.ptr nk 0 0)) cx h (nk+1) hs rds k Q:=eI rfl (fun _=>rfl)
theorem Wj:dC call n .still (some true) d op lo hi fin l all tm cx h nk hs rds k Q=dS call n (evOp op tm h) d l all tm cx h nk hs rds k Q:=(rfl)
theorem Sq:dC call n .still (some false) d op lo hi fin l all tm cx h nk hs rds k Q=RD call n l all (ez d tm (.tup [])) cx h nk hs rds k Q:=(rfl)
theorem Wl:dC call n .reads (some true) d op lo hi fin l all tm cx h nk hs rds k Q=dV call n (evOp op tm h) d op lo hi l all tm cx h nk hs rds k Q:=(rfl)
theorem Sr:dC call n .reads (some false) d op lo hi fin l all tm cx h nk hs rds k Q=RD call n l all (ez d tm (.tup [])) cx h nk hs rds k Q:=(rfl)
theorem ac3:dC call n .acts (some true) d op lo hi fin l all tm cx h nk hs rds k Q=dA call n (evOp op tm h) fin d l all tm cx h nk hs rds k Q:=(rfl)
theorem Wm:dC call n .acts (some false) d op lo hi fin l all tm cx h nk hs rds k Q=RD call n l all (ez d tm (.tup [])) cx h nk (hs++[h]) rds k Q:=(rfl)
theorem aiM:dS call n (.val v h1) d l all tm cx h nk hs rds k Q=RD call n l all (ez d tm v) cx h nk hs rds k Q:=(rfl)
theorem aiL:dV call n (.val v h1) d op lo hi l all tm cx h nk hs rds k Q=RD call n l all (ez d tm v) cx h nk hs (cond (Nat.beq lo hi) rds (⟨tm,op,v,lo,hi⟩::rds)) k Q:=(rfl)
theorem aiP:dA call n (.val v h1) fin d l all tm cx h nk hs rds k Q=RD call n l all (ez d tm v) cx h1 nk (hs++[h1]) rds k Q:=(rfl)
theorem ac4 {f:AV}{args:List AV}: dA call n (.call f args) fin d l all tm cx h nk hs rds k Q=dK call n (call f args .no h) fin d l all tm cx h nk hs rds k Q:=(rfl)
theorem aiN:dK call n (some (.ret v,rc,h1)) fin d l all tm cx h nk hs rds k Q=RD call n l all (ez d tm v) cx h1 nk (hs++[h1]) rds k Q:=(rfl)
theorem aiO:dK call n (some (.pan v,rc,h1)) fin d l all tm cx h nk hs rds k Q=(dP call fin l tm cx h nk hs rds/\R call n k Q (.panic v) ⟨xX all tm,cx⟩ h1):=by
 apply propext;show WP (cond fin (cond (rdsOk rds hs) (some (.panic v,⟨xX all tm,cx⟩,h1)) none) (aD (evRest l call (Nat.pred (len hs)) ⟨⟨tm,cx⟩,h,nk,hs,rds⟩) fun _=>some (.panic v,⟨xX all tm,cx⟩,h1))) _↔_;cases fin with
 |true=>
  rw[cond_true];show _↔(rdsOk rds hs=true/\_);cases rdsOk rds hs with
  |true=>simp only[cond_true,eH,true_and]
  |false=>simp only[cond_false,gD,Bool.false_eq_true,false_and]
 |false=>
  rw[cond_false,bH];show _↔((∃ r,evRest l call (hs.length-1) ⟨⟨tm,cx⟩,h,nk,hs,rds⟩=some r)/\_);show WP (aD (evRest l call (hs.length-1) ⟨⟨tm,cx⟩,h,nk,hs,rds⟩) _) _↔_;cases evRest l call (hs.length-1) ⟨⟨tm,cx⟩,h,nk,hs,rds⟩ with
  |none=>exact⟨fun h=>(gD.1 h).elim,fun h=>by obtain⟨⟨r,e⟩,_⟩:=h;cases e⟩
  |some r=>rw[aI];exact⟨fun h=>⟨⟨r,rfl⟩,eH.1 h⟩,fun h=>eH.2 h.2⟩
theorem dP_t:dP call true l tm cx h nk hs rds=(rdsOk rds hs=true):=(rfl)
theorem dP_f:dP call false l tm cx h nk hs rds=RZ call l (hs.length-1) tm cx h nk hs rds:=(rfl)
theorem akw {c:Nat}: RZ call [] c tm cx h nk hs rds=(rdsOk rds hs=true):=by
 apply propext;show(∃ r,cond (rdsOk rds hs) (some (AEx.normal,AF.mk tm cx,h)) none=some r)↔_;cases rdsOk rds hs<;>simp
theorem adt {c:Nat}{g:Option (Nat×Bool)}: RZ call ((⟨d,op,g⟩,⟨lo,hi,fin⟩)::l) c tm cx h nk hs rds=zC call op.cls (decide (c<lo)) (wants g tm) d op lo hi l c tm cx h nk hs rds:=by
 apply propext;have hb:Nat.blt c lo=decide (c<lo):=by
  by_cases hab:c<lo
  ·rw[T_ hab];exact Nat.ble_eq_true_of_le hab
  ·rw[D_ hab];cases hq:Nat.blt c lo with
   |false=>rfl
   |true=>exact absurd (iF hq) hab
 show(∃ r,cond (Nat.blt c lo) (cond (Hr op.cls) none (evRest l call c ⟨⟨tm,cx⟩,h,nk,hs,rds⟩)) (rK op.cls call ⟨d,op,g⟩ ⟨lo,hi,fin⟩ ⟨⟨tm,cx⟩,h,nk,hs,rds⟩ (evRest l call c))=some r)↔_;rw[hb];have eo:dL ⟨d,op,g⟩ call ⟨tm,cx⟩ h=aD (wants g tm) fun w=>cond w (jh (evOp op tm h) call d ⟨tm,cx⟩ h) (some (.normal,(AF.mk tm cx).put d (.tup []),h)):=(rfl)
 cases decide (c<lo) with
 |true=>
  rw[cond_true];cases op.cls<;>first|exact Iff.rfl|exact⟨fun⟨r,e⟩=>(by cases e),fun e=>e.elim⟩
 |false=>
  rw[cond_false];cases op.cls with
  |acts=>exact⟨fun⟨r,e⟩=>(by cases e),fun e=>(by unfold zC at e;exact e.elim)⟩
  |born=>
   cases wants g tm with
   |none=>exact⟨fun e=>e,fun e=>e⟩
   |some w=>exact⟨fun e=>e,fun e=>e⟩
  |still=>
   show(∃ r,aD (dL ⟨d,op,g⟩ call ⟨tm,cx⟩ h) (fun p=>jW p.1 _ p.2.1 _)=some r)↔_;rw[eo];cases wants g tm with
   |none=>exact⟨fun⟨r,e⟩=>(by cases e),fun e=>(by unfold zC at e;exact e.elim)⟩
   |some w=>cases w<;>exact Iff.rfl
  |reads=>
   show(∃ r,aD (wants g tm) (fun w=>cond w (lV (evOp op tm h) ⟨⟨tm,cx⟩,h,nk,hs,rds⟩ ⟨d,op,g⟩ ⟨lo,hi,fin⟩ (evRest l call c)) (evRest l call c ⟨(AF.mk tm cx).put d (.tup []),h,nk,hs,rds⟩))=some r)↔_;cases wants g tm with
   |none=>exact⟨fun⟨r,e⟩=>(by cases e),fun e=>(by unfold zC at e;exact e.elim)⟩
   |some w=>cases w with
    |false=>exact Iff.rfl
    |true=>
     rw[aI,cond_true];show _↔(∃ r,lV (evOp op tm h) ⟨⟨tm,cx⟩,h,nk,hs,rds⟩ ⟨d,op,none⟩ ⟨lo,hi,false⟩ (evRest l call c)=some r);cases evOp op tm h<;>exact Iff.rfl
theorem abj {c:Nat}{w:Option Bool}{k:Cls}(hk:k≠.born):zC call k true w d op lo hi l c tm cx h nk hs rds=RZ call l c tm cx h nk hs rds:=by
 cases k<;>first|rfl|exact absurd rfl hk
theorem Ud {c:Nat}: zC call .still false (some true) d op lo hi l c tm cx h nk hs rds=zS call (evOp op tm h) d l c tm cx h nk hs rds:=(rfl)
theorem Ue {c:Nat}: zC call .reads false (some true) d op lo hi l c tm cx h nk hs rds=zV call (evOp op tm h) d op lo hi l c tm cx h nk hs rds:=(rfl)
theorem ahJ {c:Nat}: zS call (.val v h1) d l c tm cx h nk hs rds=RZ call l c (ez d tm v) cx h nk hs rds:=(rfl)
theorem ahI {c:Nat}: zV call (.val v h1) d op lo hi l c tm cx h nk hs rds=RZ call l c (ez d tm v) cx h nk hs (cond (Nat.beq lo hi) rds (⟨tm,op,v,lo,hi⟩::rds)):=(rfl)
theorem dE_eq {ok:Bool}: dE call n ok tm cx h k Q=(ok=true/\R call n k Q .normal ⟨tm,cx⟩ h):=(rfl)
theorem abo (tm:Tm):wants none tm=some true:=(rfl)
theorem abn (g:Nat×Bool)(tm:Tm):wants (some g) tm=wantV (nth tm g.1) g.2:=(rfl)
theorem Rj:rdsOk [] hs=true:=(rfl)
theorem FJ (r:Rd)(l:List Rd):rdsOk (r::l) hs=(gJ hs r 0&&rdsOk l hs):=(rfl)
theorem UJ (r:Rd)(m:Nat):gJ [] r m=true:=(rfl)
theorem Rm (tm:Tm)(op:AOp)(v:AV)(lo hi m:Nat)(h:AH)(l:List AH):gJ (h::l) ⟨tm,op,v,lo,hi⟩ m=((decide (m<lo)||(decide (hi<m)||pH (evOp op tm h) v))&&gJ l ⟨tm,op,v,lo,hi⟩ (m+1)):=by
 have hb:∀ a b:Nat,Nat.blt a b=decide (a<b):=by
  intro a b;by_cases hab:a<b
  ·rw[T_ hab];exact Nat.ble_eq_true_of_le hab
  ·rw[D_ hab];cases hq:Nat.blt a b with
   |false=>rfl
   |true=>exact absurd (iF hq) hab
 rw[<- hb,<- hb];rfl
theorem BX (u:AV):pH (.val u h) v=AV.beq u v:=(rfl)
end
mutual
theorem bU:∀ {a:AV},a.free=true->AV.beq a a=true
 |.bool b,_=>by simp[AV.beq]
 |.int k n,_=>by cases k<;>simp[AV.beq]
 |.str s,_=>by rw[AV.beq,<- lu,sL];simp
 |.nilp,_=>by simp[AV.beq]
 |.ptr _ _ _,h=>by simp[AV.free]at h
 |.vptr v,h=>by simp only[AV.beq];exact bU (by simpa [AV.free] using h)
 |.nl,_=>by simp[AV.beq]
 |.ls es,h=>by simp only[AV.beq];exact jf (by simpa [AV.free] using h)
 |.clip es,h=>by simp only[AV.beq];exact jf (by simpa [AV.free] using h)
 |.row _ _ _ _ _,h=>by simp[AV.free]at h
 |.nilm,_=>by simp[AV.beq]
 |.map _,h=>by simp[AV.free]at h
 |.fn f a b,h=>by
  simp only[AV.free,Bool.and_eq_true]at h;simp only[AV.beq,jf h.1,jf h.2,Bool.and_true];exact Nat.beq_refl f
 |.yld _,h=>by simp[AV.free]at h
 |.nilf,_=>by simp[AV.beq]
 |.ifc t v,h=>by
  simp only[AV.beq,bU (show v.free=true by simpa [AV.free] using h),Bool.and_true];exact Nat.beq_refl t
 |.nili,_=>by simp[AV.beq]
 |.agg cs,h=>by simp only[AV.beq];exact jf (by simpa [AV.free] using h)
 |.tup vs,h=>by simp only[AV.beq];exact jf (by simpa [AV.free] using h)
 |.any,h=>by simp[AV.free]at h
theorem jf:∀ {l:List AV},AV.ale l=true->AV.beqs l l=true
 |[],_=>by simp[AV.beqs]
 |a::l,h=>by
  simp only[AV.ale,Bool.and_eq_true]at h;simp only[AV.beqs,bU h.1,jf h.2,Bool.and_self]
end
theorem Bv (k g z o n:Nat):AV.beq (.row k g z o n) (.row k g z o n)=true:=by simp[AV.beq]
theorem Bw (k:IntKind)(n:Int):AV.beq (.int k n) (.int k n)=true:=bU (by simp[AV.free])
theorem Bx (t:T):AV.beq (enc t) (enc t)=true:=bU (fW t)
theorem WK (ks:List T):AV.beq (.ls (ks.map enc)) (.ls (ks.map enc))=true:=bU (by simp[AV.free,uZ])
theorem wS (ks:List LL):AV.beq (.ls (ks.map ba)) (.ls (ks.map ba))=true:=bU (by simp[AV.free,bE hJ])
section
theorem aiR (x:AX):(AOp.mv x).cls=.still:=(rfl)
theorem Wo (agg:Bool)(sz:Nat)(x:AX):(AOp.load agg sz x).cls=.reads:=(rfl)
theorem Su (str:Bool)(sz:Nat)(x:AX)(lo hi:Option AX):(AOp.slice str sz x lo hi none).cls=.still:=(rfl)
theorem Sw (o sz:Nat)(agg:Bool)(x:AX):(AOp.faddr o sz agg x).cls=.still:=(rfl)
theorem WD (h:AH):kK [] h=h:=(rfl)
theorem WE (p:aV×DI)(l:List (aV×DI))(h:AH):kK (p::l) h=kK l (birth p.1.op h):=(rfl)
theorem SO (z:List AV)(h:AH):birth (.new z) h=h.new (.box z):=(rfl)
theorem WI (x:AX)(h:AH):birth (.mv x) h=h:=(rfl)
theorem GH (a b c:AX)(h:AH):birth (.pick a b c) h=h:=(rfl)
theorem Dc (z:List AV)(ps:List (Nat×Nat×AX))(h:AH):birth (.build z ps) h=h:=(rfl)
theorem SP (f agg:Bool)(sz:Nat)(z:List AV)(n:Nat)(ps:List (Nat×AX))(h:AH):birth (.lit f agg sz z n ps) h=h:=(rfl)
theorem GI (agg:Bool)(sz:Nat)(x:AX)(h:AH):birth (.load agg sz x) h=h:=(rfl)
theorem CY (sz:Nat)(a x:AX)(h:AH):birth (.store sz a x) h=h:=(rfl)
theorem zL (x:AX)(h:AH):birth (.nilChk x) h=h:=(rfl)
theorem SQ (op:BinOp)(e:EqK)(x y:AX)(h:AH):birth (.bin op e x y) h=h:=(rfl)
theorem WG (op:UnOp)(x:AX)(h:AH):birth (.un op x) h=h:=(rfl)
theorem CZ (str:Bool)(sz:Nat)(x:AX)(lo hi mx:Option AX)(h:AH):birth (.slice str sz x lo hi mx) h=h:=(rfl)
theorem Db (o sz:Nat)(agg:Bool)(x:AX)(h:AH):birth (.faddr o sz agg x) h=h:=(rfl)
theorem Da (sz:Nat)(x i:AX)(h:AH):birth (.iaddr sz x i) h=h:=(rfl)
theorem xE (x:AX)(i:Nat)(h:AH):birth (.extract x i) h=h:=(rfl)
theorem xF (b:ABI)(l:List AX)(h:AH):birth (.builtin b l) h=h:=(rfl)
theorem GJ (f:AX)(l:List AX)(h:AH):birth (.call f l) h=h:=(rfl)
theorem VH (n:Nat){α:Type}(a b:α):cond (Nat.beq n n) a b=a:=by
 have:Nat.beq n n=true:=Nat.beq_refl n;rw[this];rfl
theorem ait {α:Type}(a b:α):cond (Nat.beq 0 1) a b=b:=(rfl)
theorem ais {α:Type}(a b:α):cond (Nat.beq 0 2) a b=b:=(rfl)
end
