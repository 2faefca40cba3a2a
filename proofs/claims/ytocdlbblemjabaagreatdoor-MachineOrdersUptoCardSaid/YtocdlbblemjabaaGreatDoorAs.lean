/- Lemmas for MachineOrders (no condition). -/
import Derived.Test.YtocdlbblemjabaaGreatDoorAr
noncomputable section
namespace Go.AG
variable {d:Type}{Q:AEx->AF->AH->Prop}{h h1:AH}{f v:AV}{agg:Bool}{C:Cx}{b a out l:List AV}{ds:List DF}{no:List Nat}{st:LoopState}{c k sz base n fz m:Nat}{B:Nat->aN}{g:Option (Nat×Bool)}{pend:Option AEx}{w:Option Bool}{rc:RC}{tm e:Tm}{u:Value}{call K A:aN}{as:bu}{x:dF}{r:ep×RC×AH}
section
variable (call:aN)(n:Nat)
def RD (l all:List (aX×DI))(tm:Tm)(cx:AC)(h:AH)(nk:Nat)(hs:List AH)(rds:List Rd)(k:List It)(Q:AEx->AF->AH->Prop):Prop:=
 WP (lH l call all ⟨⟨tm,cx⟩,h,nk,hs,rds⟩) (R call n k Q)
def dE (ok:Bool)(tm:Tm)(cx:AC)(h:AH)(k:List It)(Q:AEx->AF->AH->Prop):Prop:=ok=true/\R call n k Q .normal ⟨tm,cx⟩ h
def dS (r:OpR)(d:Option Nat)(l all:List (aX×DI))(tm:Tm)(cx:AC)(h:AH)(nk:Nat)(hs:List AH)(rds:List Rd)(k:List It)(Q:AEx->AF->AH->Prop):Prop:=
 WP (aI (ly r call d ⟨tm,cx⟩ h) λp=>jL p.1 ⟨⟨tm,cx⟩,h,nk,hs,rds⟩ p.2.1 (lH l call all)) (R call n k Q)
def dV (r:OpR)(d:Option Nat)(op:AOp)(lo hi:Nat)(l all:List (aX×DI))(tm:Tm)(cx:AC)(h:AH)(nk:Nat)(hs:List AH)(rds:List Rd)(k:List It)(Q:AEx->AF->AH->Prop):Prop:=
 WP (qK r ⟨⟨tm,cx⟩,h,nk,hs,rds⟩ ⟨d,op,none⟩ ⟨lo,hi,false⟩ (lH l call all)) (R call n k Q)
def dK (r:Option (ep×RC×AH))(fin:Bool)(d:Option Nat)(l all:List (aX×DI))(tm:Tm)(cx:AC)(h:AH)(nk:Nat)(hs:List AH)(rds:List Rd)(k:List It)(Q:AEx->AF->AH->Prop):Prop:=
 WP (aI (QS d ⟨tm,cx⟩ r) λp=>zL p.1 call all l fin ⟨⟨tm,cx⟩,h,nk,hs,rds⟩ p.2.1 p.2.2 (lH l call all)) (R call n k Q)
def dA (r:OpR)(fin:Bool)(d:Option Nat)(l all:List (aX×DI))(tm:Tm)(cx:AC)(h:AH)(nk:Nat)(hs:List AH)(rds:List Rd)(k:List It)(Q:AEx->AF->AH->Prop):Prop:=
 WP (aI (ly r call d ⟨tm,cx⟩ h) λp=>zL p.1 call all l fin ⟨⟨tm,cx⟩,h,nk,hs,rds⟩ p.2.1 p.2.2 (lH l call all)) (R call n k Q)
def RZ (l:List (aX×DI))(c:Nat)(tm:Tm)(cx:AC)(h:AH)(nk:Nat)(hs:List AH)(rds:List Rd):Prop:=∃r,iB l call c ⟨⟨tm,cx⟩,h,nk,hs,rds⟩=some r
def dP (fin:Bool)(l:List (aX×DI))(tm:Tm)(cx:AC)(h:AH)(nk:Nat)(hs:List AH)(rds:List Rd):Prop:=match fin with
 |true=>iD rds hs=true
 |false=>RZ call l (hs.length-1) tm cx h nk hs rds
def zS (r:OpR)(d:Option Nat)(l:List (aX×DI))(c:Nat)(tm:Tm)(cx:AC)(h:AH)(nk:Nat)(hs:List AH)(rds:List Rd):Prop:=
 ∃x,aI (ly r call d ⟨tm,cx⟩ h) (λp=>jL p.1 ⟨⟨tm,cx⟩,h,nk,hs,rds⟩ p.2.1 (iB l call c))=some x
def zV (r:OpR)(d:Option Nat)(op:AOp)(lo hi:Nat)(l:List (aX×DI))(c:Nat)(tm:Tm)(cx:AC)(h:AH)(nk:Nat)(hs:List AH)(rds:List Rd):Prop:=
 ∃x,qK r ⟨⟨tm,cx⟩,h,nk,hs,rds⟩ ⟨d,op,none⟩ ⟨lo,hi,false⟩ (iB l call c)=some x
def zC (k:Cls)(skip:Bool)(w:Option Bool)(d:Option Nat)(op:AOp)(lo hi:Nat)(l:List (aX×DI))(c:Nat)(tm:Tm)(cx:AC)(h:AH)(nk:Nat)(hs:List AH)(rds:List Rd):Prop:=
 match k,skip,w with
 |.born,true,_=>False
 |_,true,_=>RZ call l c tm cx h nk hs rds
 |.still,false,some true=>zS call (da op tm h) d l c tm cx h nk hs rds
 |.still,false,some false=>RZ call l c (fI d tm (.tup [])) cx h nk hs rds
 |.reads,false,some true=>zV call (da op tm h) d op lo hi l c tm cx h nk hs rds
 |.reads,false,some false=>RZ call l c (fI d tm (.tup [])) cx h nk hs rds
 |.born,false,_=>RZ call l c (fI d tm (.ptr nk 0 0)) cx h (nk+1) hs rds
 |_,_,_=>False
def dC (c:Cls)(w:Option Bool)(d:Option Nat)(op:AOp)(lo hi:Nat)(fin:Bool)(l all:List (aX×DI))(tm:Tm)(cx:AC)(h:AH)(nk:Nat)(hs:List AH)(rds:List Rd)(k:List It)(Q:AEx->AF->AH->Prop):Prop:=
 match c,w with
 |.still,some true=>dS call n (da op tm h) d l all tm cx h nk hs rds k Q
 |.still,some false=>RD call n l all (fI d tm (.tup [])) cx h nk hs rds k Q
 |.reads,some true=>dV call n (da op tm h) d op lo hi l all tm cx h nk hs rds k Q
 |.reads,some false=>RD call n l all (fI d tm (.tup [])) cx h nk hs rds k Q
 |.acts,some true=>dA call n (da op tm h) fin d l all tm cx h nk hs rds k Q
 |.acts,some false=>RD call n l all (fI d tm (.tup [])) cx h nk (hs++[h]) rds k Q
 |.born,_=>RD call n l all (fI d tm (.ptr nk 0 0)) cx h (nk+1) hs rds k Q
 |_,_=>False
end
section
variable {call:aN}{n:Nat}{l all:List (aX×DI)}{tm:Tm}{cx:AC}{h h1:AH}{nk lo hi:Nat}{hs:List AH}{rds:List Rd}{k:List It}{Q:AEx->AF->AH->Prop}{d:Option Nat}{op:AOp}{fin:Bool}{v:AV}{rc:RC}
theorem HY {c:Type}(a b:Nat)(x y:c):cond (Nat.beq a b) x y=if a=b then x else y:=by
 by_cases e:a=b
 ·rw[P_ e,e,Nat.beq_refl];rfl
 rw[N_ e,Gg e];rfl
theorem ags {ops:List (aX×DI)}: R call n (.code (.draw ops)::k) Q .normal ⟨tm,cx⟩ h=RD call n ops ops tm cx (mN ops h) h.z [mN ops h] [] k Q:=(rfl)
theorem agv:RD call n [] all tm cx h nk hs rds k Q=dE call n (iD rds hs) tm cx h k Q:=by
 apply propext;show WP (cond (iD rds hs) (some (.normal,⟨tm,cx⟩,h)) none) _<->(iD rds hs=true/\_);grind [iD,hJ,js,Bool.false_eq_true]
theorem ZP:
  RD call n ((⟨d,op,g⟩,⟨lo,hi,fin⟩)::l) all tm cx h nk hs rds k Q=dC call n op.cls (fY g tm) d op lo hi fin l all tm cx h nk hs rds k Q:=by
 apply propext;show WP (pG op.cls call all l ⟨d,op,g⟩ ⟨lo,hi,fin⟩ ⟨⟨tm,cx⟩,h,nk,hs,rds⟩ (lH l call all)) (R call n k Q)<->_;have a:eO ⟨d,op,g⟩ call ⟨tm,cx⟩ h=aI (fY g tm) λw=>cond w (ly (da op tm h) call d ⟨tm,cx⟩ h) (some (.normal,(AF.mk tm cx).put d (.tup []),h)):=(rfl);cases op.cls with
 |born=>cases fY g tm<;>exact Iff.rfl
 |still=>
  show WP (aI (eO ⟨d,op,g⟩ call ⟨tm,cx⟩ h) λp=>jL p.1 _ p.2.1 _) _<->_;rw[a];cases fY g tm with
  |none=>exact js
  |some w=>cases w<;>exact Iff.rfl
 |reads=>
  show WP (aI (fY g tm) λw=>cond w (qK (da op tm h) ⟨⟨tm,cx⟩,h,nk,hs,rds⟩ ⟨d,op,g⟩ ⟨lo,hi,fin⟩ (lH l call all)) (lH l call all ⟨(AF.mk tm cx).put d (.tup []),h,nk,hs,rds⟩)) _<->_;cases fY g tm with
  |none=>exact js
  |some w=>cases w with
   |false=>exact Iff.rfl
   |true=>
    show _<->WP (qK (da op tm h) ⟨⟨tm,cx⟩,h,nk,hs,rds⟩ ⟨d,op,none⟩ ⟨lo,hi,false⟩ (lH l call all)) (R call n k Q);cases da op tm h<;>exact Iff.rfl
 |acts=>
  show WP (aI (eO ⟨d,op,g⟩ call ⟨tm,cx⟩ h) λp=>zL p.1 call all l fin _ p.2.1 p.2.2 _) _<->_;rw[a];cases fY g tm with
  |none=>exact js
  |some w=>cases w<;>exact Iff.rfl
theorem TI:dC call n .still (some true) d op lo hi fin l all tm cx h nk hs rds k Q=dS call n (da op tm h) d l all tm cx h nk hs rds k Q:=(rfl)
theorem Pn:dC call n .still (some false) d op lo hi fin l all tm cx h nk hs rds k Q=RD call n l all (fI d tm (.tup [])) cx h nk hs rds k Q:=(rfl)
theorem TJ:dC call n .reads (some true) d op lo hi fin l all tm cx h nk hs rds k Q=dV call n (da op tm h) d op lo hi l all tm cx h nk hs rds k Q:=(rfl)
theorem Pq:dC call n .reads (some false) d op lo hi fin l all tm cx h nk hs rds k Q=RD call n l all (fI d tm (.tup [])) cx h nk hs rds k Q:=(rfl)
theorem Zm:dC call n .acts (some true) d op lo hi fin l all tm cx h nk hs rds k Q=dA call n (da op tm h) fin d l all tm cx h nk hs rds k Q:=(rfl)
theorem TK:dC call n .acts (some false) d op lo hi fin l all tm cx h nk hs rds k Q=RD call n l all (fI d tm (.tup [])) cx h nk (hs++[h]) rds k Q:=(rfl)
theorem Zl: dC call n .born w d op lo hi fin l all tm cx h nk hs rds k Q=RD call n l all (fI d tm (.ptr nk 0 0)) cx h (nk+1) hs rds k Q:=by cases w<;>rfl
theorem aed:dS call n (.val v h1) d l all tm cx h nk hs rds k Q=RD call n l all (fI d tm v) cx h nk hs rds k Q:=(rfl)
theorem aec:dV call n (.val v h1) d op lo hi l all tm cx h nk hs rds k Q=RD call n l all (fI d tm v) cx h nk hs (if lo=hi then rds else ⟨tm,op,v,lo,hi⟩::rds) k Q:=by
 rw[<-HY];rfl
theorem aeg:dA call n (.val v h1) fin d l all tm cx h nk hs rds k Q=RD call n l all (fI d tm v) cx h1 nk (hs++[h1]) rds k Q:=(rfl)
theorem Zn {args:List AV}: dA call n (.call f args) fin d l all tm cx h nk hs rds k Q=dK call n (call f args .no h) fin d l all tm cx h nk hs rds k Q:=(rfl)
theorem aee:dK call n (some (.ret v,rc,h1)) fin d l all tm cx h nk hs rds k Q=RD call n l all (fI d tm v) cx h1 nk (hs++[h1]) rds k Q:=(rfl)
theorem aef:dK call n (some (.pan v,rc,h1)) fin d l all tm cx h nk hs rds k Q=(dP call fin l tm cx h nk hs rds/\R call n k Q (.panic v) ⟨BG all tm,cx⟩ h1):=by
 apply propext;show WP (cond fin (cond (iD rds hs) (some (.panic v,⟨BG all tm,cx⟩,h1)) none) (aI (iB l call (Nat.pred (len hs)) ⟨⟨tm,cx⟩,h,nk,hs,rds⟩) λ_=>some (.panic v,⟨BG all tm,cx⟩,h1))) _<->_;cases fin with
 |true=>
  show _<->(iD rds hs=true/\_);grind [iD,hJ,js,Bool.false_eq_true]
 |false=>
  rw[cond_false,bT];show _<->((∃r,iB l call (hs.length-1) ⟨⟨tm,cx⟩,h,nk,hs,rds⟩=some r)/\_);show WP (aI (iB l call (hs.length-1) ⟨⟨tm,cx⟩,h,nk,hs,rds⟩) _) _<->_;cases iB l call (hs.length-1) ⟨⟨tm,cx⟩,h,nk,hs,rds⟩ with
  |none=>exact⟨λh=>(js.1 h).elim,g_⟩
  |some r=>grind [aK,hJ]
theorem dP_t:dP call true l tm cx h nk hs rds=(iD rds hs=true):=(rfl)
theorem dP_f:dP call false l tm cx h nk hs rds=RZ call l (hs.length-1) tm cx h nk hs rds:=(rfl)
theorem agu: RZ call [] c tm cx h nk hs rds=(iD rds hs=true):=by
 apply propext;show(∃r,cond (iD rds hs) (some (AEx.normal,AF.mk tm cx,h)) none=some r)<->_;cases iD rds hs<;>simp
theorem ZO: RZ call ((⟨d,op,g⟩,⟨lo,hi,fin⟩)::l) c tm cx h nk hs rds=zC call op.cls (decide (c<lo)) (fY g tm) d op lo hi l c tm cx h nk hs rds:=by
 apply propext;have f:Nat.blt c lo=decide (c<lo):=by
  by_cases a:c<lo
  ·simp_all
  rw[D_ a];cases b:Nat.blt c lo with
  |false=>rfl
  |true=>cases a (lX b)
 show(∃r,cond (Nat.blt c lo) (cond (JX op.cls) none (iB l call c ⟨⟨tm,cx⟩,h,nk,hs,rds⟩)) (pF op.cls call ⟨d,op,g⟩ ⟨lo,hi,fin⟩ ⟨⟨tm,cx⟩,h,nk,hs,rds⟩ (iB l call c))=some r)<->_;rw[f];have i:eO ⟨d,op,g⟩ call ⟨tm,cx⟩ h=aI (fY g tm) λw=>cond w (ly (da op tm h) call d ⟨tm,cx⟩ h) (some (.normal,(AF.mk tm cx).put d (.tup []),h)):=(rfl);cases decide (c<lo) with
 |true=>
  cases op.cls<;>first|exact Iff.rfl|exact⟨λ⟨r,e⟩=>(by cases e),λe=>e.elim⟩
 |false=>
  cases op.cls with
  |acts=>exact⟨λ⟨r,e⟩=>(by cases e),λe=>(by grind [zC])⟩
  |born=>
   cases fY g tm with
   |none=>exact⟨λe=>e,λe=>e⟩
   |some w=>exact⟨λe=>e,λe=>e⟩
  |still=>
   show(∃r,aI (eO ⟨d,op,g⟩ call ⟨tm,cx⟩ h) (λp=>jL p.1 _ p.2.1 _)=some r)<->_;rw[i];cases fY g tm with
   |none=>exact⟨λ⟨r,e⟩=>(by cases e),λe=>(by grind [zC])⟩
   |some w=>cases w<;>exact Iff.rfl
  |reads=>
   show(∃r,aI (fY g tm) (λw=>cond w (qK (da op tm h) ⟨⟨tm,cx⟩,h,nk,hs,rds⟩ ⟨d,op,g⟩ ⟨lo,hi,fin⟩ (iB l call c)) (iB l call c ⟨(AF.mk tm cx).put d (.tup []),h,nk,hs,rds⟩))=some r)<->_;cases fY g tm with
   |none=>exact⟨λ⟨r,e⟩=>(by cases e),λe=>(by grind [zC])⟩
   |some w=>cases w with
    |false=>exact Iff.rfl
    |true=>
     show _<->(∃r,qK (da op tm h) ⟨⟨tm,cx⟩,h,nk,hs,rds⟩ ⟨d,op,none⟩ ⟨lo,hi,false⟩ (iB l call c)=some r);cases da op tm h<;>exact Iff.rfl
theorem Xh {k:Cls}(hk:k≠.born):zC call k true w d op lo hi l c tm cx h nk hs rds=RZ call l c tm cx h nk hs rds:=by
 cases k<;>first|rfl|grind
theorem Rq: zC call .still false (some true) d op lo hi l c tm cx h nk hs rds=zS call (da op tm h) d l c tm cx h nk hs rds:=(rfl)
theorem Rs: zC call .reads false (some true) d op lo hi l c tm cx h nk hs rds=zV call (da op tm h) d op lo hi l c tm cx h nk hs rds:=(rfl)
theorem ac0: zS call (.val v h1) d l c tm cx h nk hs rds=RZ call l c (fI d tm v) cx h nk hs rds:=(rfl)
theorem acZ: zV call (.val v h1) d op lo hi l c tm cx h nk hs rds=RZ call l c (fI d tm v) cx h nk hs (if lo=hi then rds else ⟨tm,op,v,lo,hi⟩::rds):=by
 rw[<-HY];rfl
theorem dE_eq {ok:Bool}: dE call n ok tm cx h k Q=(ok=true/\R call n k Q .normal ⟨tm,cx⟩ h):=(rfl)
theorem tG {c:Cls}{b:Bool}(h1:b=true->dC call n c (some true) d op lo hi fin l all tm cx h nk hs rds k Q)(a:b=false->dC call n c (some false) d op lo hi fin l all tm cx h nk hs rds k Q):
  dC call n c (some b) d op lo hi fin l all tm cx h nk hs rds k Q:=by
 cases b with
 |true=>grind
 |false=>grind
theorem pH {c:Cls}{b:Bool}(h1:b=false->dC call n c (some true) d op lo hi fin l all tm cx h nk hs rds k Q)(a:b=true->dC call n c (some false) d op lo hi fin l all tm cx h nk hs rds k Q):
  dC call n c (some (!b)) d op lo hi fin l all tm cx h nk hs rds k Q:=by
 cases b with
 |true=>grind
 |false=>grind
theorem Xm (tm:Tm):fY none tm=some true:=(rfl)
theorem Xl (g:Nat×Bool)(tm:Tm):fY (some g) tm=wantV (nth tm g.1) g.2:=(rfl)
theorem Ot:iD [] hs=true:=(rfl)
theorem IC (r:Rd)(l:List Rd):iD (r::l) hs=(lP hs r 0&&iD l hs):=(rfl)
theorem Sh (r:Rd)(m:Nat):lP [] r m=true:=(rfl)
theorem Ou (tm:Tm)(op:AOp)(v:AV)(lo hi m:Nat)(h:AH)(l:List AH):lP (h::l) ⟨tm,op,v,lo,hi⟩ m=((decide (m<lo)||(decide (hi<m)||tj (da op tm h) v))&&lP l ⟨tm,op,v,lo,hi⟩ (m+1)):=by
 have d:∀a b:Nat,Nat.blt a b=decide (a<b):=by
  intro a b;by_cases c:a<b
  ·simp_all
  rw[D_ c];cases e:Nat.blt a b with
  |false=>rfl
  |true=>cases c (lX e)
 rw[<-d,<-d];rfl
theorem Fb (u:AV):tj (.val u h) v=AV.beq u v:=(rfl)
end
mutual
theorem gQ:∀a:AV,AV.beq a a=true:=by
 intro a;cases a
 case str s=>rw[AV.beq,<-nj,EA];simp
 all_goals simp[AV.beq,gQ,CU]
theorem CU:∀l:List AV,AV.beqs l l=true
 |[]=>by simp[AV.beqs]
 |a::l=>by simp[AV.beqs,gQ a,CU l]
end
section
theorem cls_r:(∀x,(AOp.mv x).cls=.still)/\
  (∀a b c,(AOp.pick a b c).cls=.still)/\
  (∀z,(AOp.new z).cls=.born)/\
  (∀n x,(AOp.box n x).cls=.acts)/\
  (∀z p,(AOp.build z p).cls=.still)/\
  (∀a s z n p,(AOp.lit a s z n p).cls=.still)/\
  (∀a s x,(AOp.load a s x).cls=.reads)/\
  (∀s a x,(AOp.store s a x).cls=.acts)/\
  (∀x,(AOp.nilChk x).cls=.still)/\
  (∀o e x y,(AOp.bin o e x y).cls=.still)/\
  (∀x,(AOp.un x).cls=.still)/\
  (∀f a b,(AOp.mkFn f a b).cls=.still)/\
  (∀s x l i,(AOp.slice s x l i).cls=.still)/\
  (∀o s a x,(AOp.faddr o s a x).cls=.still)/\
  (∀s x i,(AOp.iaddr s x i).cls=.still)/\
  (∀x i,(AOp.extract x i).cls=.still)/\
  (∀k l,(AOp.builtin (.len k) l).cls=.reads)/\
  (∀s a z b l,(AOp.builtin (.append s a z b) l).cls=.acts)/\
  (∀f l,(AOp.call f l).cls=.acts)/\
  (∀t z x i o,(AOp.lookup t z x i o).cls=.reads)/\
  (∀l,(AOp.builtin .max l).cls=.still)/\
  (∀l,(AOp.builtin .min l).cls=.still):=by
 and_intros<;>intros<;>rfl
theorem TX (h:AH):mN [] h=h:=(rfl)
theorem TY (p:aX×DI)(l:List (aX×DI))(h:AH):mN (p::l) h=mN l (birth p.1.op h):=(rfl)
theorem PN (z:List AV)(h:AH):birth (.new z) h=h.new (.box z):=(rfl)
theorem ZH {op:AOp}(a:op.cls≠.born):birth op h=h:=by
 cases op<;>first|rfl|exact absurd rfl a
end
theorem fK {a b:Nat}(h:a<=b):Nat.ble a b=true:=Nat.ble_eq_true_of_le h
theorem fR (a:Nat):Nat.beq a a=true:=Nat.beq_refl a
def Own (a sz:Nat)(agg:Bool)(h:AH)(v:AV)(out:List AV):Prop:=
 (∀x∈out,x.cells.length=sz/\x.isAgg=agg)/\((v=.nl/\out=[])\/∃k g,v=.row k g sz 0 out.length/\h.get k=some (.row g sz agg (bJ out) 0)/\k<h.z/\a<=k)
theorem lR (h:∀x∈out,x.cells.length=sz):(bJ out).length=out.length*sz:=eR h
theorem get_new (h:AH)(x:dF)(k:Nat):(h.new x).get k=if k=h.z then some x else h.get k:=by
 cases h;exact Tr.get_put _ _ _ _
theorem aB (h:AH)(x:dF):(h.new x).z=h.z+1:=by cases h;rfl
theorem get_set (h:AH)(j:Nat)(x:dF)(k:Nat):(h.set j x).get k=if k=j then some x else h.get k:=by
 cases h;exact Tr.get_put _ _ _ _
theorem aE (h:AH)(j:Nat)(x:dF):(h.set j x).z=h.z:=by cases h;rfl
theorem aD (h:AH)(x:dF):(h.new x).get h.z=some x:=by grind [get_new]
theorem aM (a:k≠h.z):(h.new x).get k=h.get k:=by grind [get_new]
theorem aF (h:AH)(j:Nat)(x:dF):(h.set j x).get j=some x:=by grind [get_set]
theorem aA {j:Nat}(a:k≠j):(h.set j x).get k=h.get k:=by grind [get_set]
theorem eY {b:Nat}(x:AV)(o:Own b sz agg h v out)(F:b<=h.z:=by first|omega|grind)(B:x.cells.length=sz/\x.isAgg=agg/\x.lies=true:=by first|exact⟨rfl,rfl,rfl⟩|simp only[go_sem,and_self])
  (hn:out.length<=600000000000:=by(try simp only[L_,H_,List.length_replicate,M_,List.length_nil]);omega) :
  ∃q d,(∀z a,z.length=sz->a<=100->cI h sz agg z a v (.clip [x])=some (q,d))/\Own b sz agg d q (out++[x])/\h.z<=d.z/\(∀k,k<b->d.get k=h.get k)/\(∀k,k<h.z->(∀g n,v≠.row k g sz 0 n)->d.get k=h.get k)/\(∃k g,q=.row k g sz 0 (out.length+1)/\(v=.nl->k=h.z)/\(∀i E u,v=.row i E sz 0 u->k=i)):=by
 have⟨hx,_,A⟩:=B;have⟨t,G⟩:=o;have r:∀y∈out++[x],y.cells.length=sz/\y.isAgg=agg:=by
  grind
 have e0:∀z a,z.length=sz->cI h sz agg z a v (.clip [x])=kO v h sz agg a [x]:=by
  intro z a e;show aI (cond (and (Nat.beq (len x.cells) sz) true) (some [x]) none) (λD=>cond (and (fT D) (Nat.beq (len z) sz)) _ _)=_;rw[bT,hx,fR];show cond (and (and x.lies true) (Nat.beq (len z) sz)) _ _=_;rw[A,bT,e,fR];rfl
 have c:∀m a,m<=out.length->a<=100->need m 1 a=true:=by
  intro m a hm f;show and (Nat.ble ((2*(m+1)+1000)*a) 140737488355328) (Nat.ble (m+1) 9223372036854775807)=true;rw[fK (show m+1<=9223372036854775807 by omega),fK]
  ·rfl
  exact C_ (Nat.mul_le_mul (show 2*(m+1)+1000<=1300000000000 by omega) f) (by decide)
 rcases G with⟨rfl,rfl⟩|⟨k,g,rfl,hk,H,p⟩
 ·refine⟨.row h.z 0 sz 0 1,h.new (.row 0 sz agg (bJ [x]) 0),?_,⟨o_,.inr ⟨h.z,0,rfl,?_,?_,F⟩⟩,?_,?_⟩
  ·intro z a e f;rw[e0 _ _ e];show cond (need 0 1 a) _ _=_;rw[c 0 _ o_ f];rfl
  ·rw[get_new,P_ rfl];rfl
  ·rw[aB];omega
  ·rw[aB];omega
  refine⟨λk hk=>by grind [get_new],λk hk _=>by grind [get_new],h.z,0,rfl,o_,g_⟩
 have j:=lR (λx hx=>(t x hx).1);refine⟨.row k (g+1) sz 0 (out.length+1),h.set k (.row (g+1) sz agg (bJ (out++[x])) 0),?_,⟨o_,.inr ⟨k,g+1,by simp,?_,?_,p⟩⟩,?_,?_⟩
 ·have C:kR h k g sz=some (agg,bJ out,0):=by
   unfold kR;rw[hk,aK];show aI (some (g,sz,agg,bJ out,0)) _=_;show cond (and (Nat.beq g g) (Nat.beq sz sz)) _ _=_;rw[fR,fR];rfl
  intro z a e f;rw[e0 _ _ e];show cond (Nat.beq sz sz) (aI (kR h k g sz) _) none=_;rw[fR,C,cond_true,aK];show cond (and (nJ agg agg) (and (Nat.ble 0 ((0+out.length)*sz)) (and (Nat.ble ((0+out.length)*sz) (len (bJ out))) (need out.length 1 a))))
   (some (AV.row k (g+1) sz 0 (out.length+1),h.set k (.row (g+1) sz agg (app (tke (out.length*sz) (drp (0*sz) (bJ out))) (bJ [x])) (0-0*sz)))) none=_
  have w:nJ agg agg=true:=by cases agg<;>rfl
  rw[w,c _ _ (e_ _) f,bT,fK (show 0<=(0+out.length)*sz by omega),fK (show(0+out.length)*sz<=(bJ out).length by grind)];simp only[Nat.zero_mul,Nat.sub_self,lY,lu,iC,List.drop_zero];rw[<-j,K_,fW];rfl
 ·grind [get_set]
 ·grind [aE]
 ·grind [aE]
 exact⟨λi l=>by grind [get_set],λi l s=>by grind [get_set],k,g+1,rfl,g_,g_⟩
theorem mH (hs:agg=false->sz=1):∀{out:List AV},(∀x∈out,x.cells.length=sz/\x.isAgg=agg)->uo agg sz out.length (bJ out)=some out
 |[],_=>rfl
 |x::l,h=>by
  have⟨h1,a⟩:=h x (by simp);have c:=mH hs (out:=l) g_;rw[M_,yX,cK];have b:xG agg sz 0 (x.cells++bJ l)=some x:=by
   cases agg with
   |true=>
    rw[lv _ _ _ (by rw[H_];omega),List.drop_zero,<-h1,List.take_left' rfl];cases x<;>simp[AV.isAgg,AV.cells]at a ⊢
   |false=>
    have:=hs rfl;subst this;rw[EJ,pj a];rfl
  rw[b,aK,iC,<-h1,List.drop_left' rfl,h1,c];rfl
theorem bP {h':AH}(o:Own base sz agg h v out)(b:h.z<=h'.z)(c:∀k,base<=k->k<h.z->h'.get k=h.get k):Own base sz agg h' v out:=by
 have⟨a,_⟩:=o;refine⟨a,?_⟩;grind
theorem cV (a sz:Nat)(agg:Bool)(h:AH):Own a sz agg h .nl []:=⟨by simp,.inl ⟨rfl,rfl⟩⟩
theorem Mp {a:Nat}(o:Own a sz agg h v out):lenOf v h 1=some out.length:=by
 obtain⟨_,⟨rfl,rfl⟩|⟨_,_,rfl,_,_,_⟩⟩:=o<;>rfl
theorem Aj: ∀(a b ds:List d),a.length=b.length->over a (b++ds)=a++ds
 |[],[],ds,_=>rfl
 |x::a,c::b,ds,h=>by
  rw[Q_,oU,Aj a b ds (by grind)];rfl
theorem GC: ∀(as b c:List d),setR as.length b (as++c)=as++over b c
 |[],b,c=>rfl
 |a::as,b,c=>by
  show setR (as.length+1) b (a::(as++c))=_;rw[jG,GC as b c];rfl
section
variable {agg:Bool}{sz i j:Nat}{z:List AV}{u v w:AV}
theorem UL (b:z.length=sz):∀(l:List AV) (done:List AV),(∀x∈l,x.cells.length=sz/\x.isAgg=agg)->(∀x∈done,x.cells.length=sz/\x.isAgg=agg)->fT l=true->
  ∀a,a=(List.range' done.length l.length).zipWith (λi x=>(i*sz,sz,x)) l->AO a (bJ done++Bc l.length z)=some (bJ (done++l))
 |[],done,_,_,_,a,e=>by subst e;show some (bJ done++[])=_;simp
 |x::l,done,h,g,c,a,e=>by
  have⟨h1,_⟩:=h x (.head _);rw[lM,Bool.and_eq_true]at c;subst e;rw[M_,List.range'_succ,List.zipWith_cons_cons,oS];have f:(bJ done).length=done.length*sz:=eR λy d=>(g y d).1;rw[UT h1 (by rw[H_,f,H_,b];omega) c.1,<-f,GC,Aj _ _ _ (h1.trans b.symm),<-V_,show bJ done++x.cells=bJ (done++[x]) by rw[fW,cK];simp[lQ]];rw[UL b l (done++[x]) (λy d=>h y (.tail _ d)) (by grind) c.2 _ (by simp)];simp
theorem Eo (a:z.length=sz)(h:∀x∈l,x.cells.length=sz/\x.isAgg=agg)(b:fT l=true):we agg sz z l.length ((List.range' 0 l.length).zipWith (λi x=>(i*sz,sz,x)) l)=some (.clip l):=by
 unfold we;have:=UL a l [] h (by simp) b _ rfl;rw[lQ,List.nil_append,List.nil_append,List.length_nil]at this;rw[this,aK];cases l with
 |nil=>rfl
 |cons x l=>
  rw[mH (λc=>?_) h];rfl;rw[<-(h x (.head _)).1,pj ((h x (.head _)).2.trans c)];rfl
theorem lit_0:we agg sz z 0 []=some (.clip []):=(rfl)
theorem lit_1 (a:z.length=sz)(u1:u.cells.length=sz)(u2:u.isAgg=agg)(u3:u.lies=true):we agg sz z 1 [(0,sz,u)]=some (.clip [u]):=by
 have:=Eo a (l:=[u]) (agg:=agg) (by simp[u1,u2]) (by simp[lM,u3];rfl);simpa using this
theorem lit_2 (a:z.length=sz)(u1:u.cells.length=sz)(u2:u.isAgg=agg)(u3:u.lies=true)(hi:i=sz)(d:v.cells.length=sz)(b:v.isAgg=agg)(c:v.lies=true):
  we agg sz z 2 [(0,sz,u),(i,sz,v)]=some (.clip [u,v]):=by
 subst hi;have:=Eo a (l:=[u,v]) (agg:=agg) (by simp[u1,u2,d,b]) (by simp[lM,u3,c];rfl);simpa [List.range'] using this
theorem lit_3 (a:z.length=sz)(u1:u.cells.length=sz)(u2:u.isAgg=agg)(u3:u.lies=true)(hi:i=sz)(h:v.cells.length=sz)(f:v.isAgg=agg)(g:v.lies=true)
  (c:j=2*sz) (b:w.cells.length=sz) (e:w.isAgg=agg) (d:w.lies=true):we agg sz z 3 [(0,sz,u),(i,sz,v),(j,sz,w)]=some (.clip [u,v,w]):=by
 subst hi c;have:=Eo a (l:=[u,v,w]) (agg:=agg) (by simp[u1,u2,h,f,b,e]) (by simp[lM,u3,g,d];rfl);simpa [List.range'] using this
end
def mO (sz:Nat)(x i:AV):Option AV:=aI (slLen x) λn=>aI (py i n) λa=>FG x sz 0 a
theorem RT (sz:Nat)(x:AV)(tm:Tm)(i:AX):fb sz x tm none (some i)=mO sz x (ev i tm):=(rfl)
theorem oR {b:Type}{f:b->AV}(d:∀x,(f x).cells.length=sz)(l:List b):fZ sz (l.map f)=true:=by
 induction l with
 |nil=>rfl
 |cons a l c=>rw[List.map_cons,yA,bT,d,fR,c];rfl
theorem uc {b:Type}{f:b->AV}(d:∀x,(f x).lies=true)(l:List b):fT (l.map f)=true:=by
 induction l with
 |nil=>rfl
 |cons a l c=>rw[List.map_cons,lM,d,c];rfl
theorem nR {a:Type}{f:a->AV}(c:∀x,(f x).cells.length=sz)(l:List a)(k:IntKind)(m:Nat)(hm:m<=l.length):mO sz (.ls (l.map f)) (.int k (m:Int))=some (.ls ((l.take m).map f)):=by
 show aI (aI (some m) λm=>cond (Nat.ble m (len (l.map f))) (some m) none) (λb=>cond (fZ sz (l.map f)) (some (AV.ls (tke (b-0) (drp 0 (l.map f))))) none)=_;rw[aK,bT,L_,fK hm,cond_true,aK,oR c,lu,iC];simp_all
theorem vf {x:AV}(hx:x.cells.length=sz):∀{out:List AV} {a:Nat},(∀y∈out,y.cells.length=sz)->a<out.length->setR (a*sz) x.cells (bJ out)=bJ (out.set a x)
 |y::l,0,h,_=>by
  rw[Nat.zero_mul,cK];show over x.cells (y.cells++bJ l)=bJ (x::l);grind [Aj,cK]
 |y::l,a+1,h,f=>by
  have d:=vf hx (out:=l) (a:=a) g_ (by grind);rw[cK,List.set_cons_succ,cK,<-d];have g:=h y (by simp);have e:(a+1)*sz=y.cells.length+a*sz:=by rw[g,Nat.succ_mul];omega
  rw[e];generalize y.cells=b;generalize bJ l=i;induction b with
  |nil=>simp
  |cons c b d=>rw[M_,show b.length+1+a*sz=(b.length+a*sz)+1 by omega,Q_,jG,d];rfl
 |[],_,_,f=>by grind
theorem tO {b:Nat}{x:AV}{a:Nat}(o:Own b sz true h v out)(q:a<out.length)(c:x.cells.length=sz)(u:x.isAgg=true)(l:x.lies=true)(k:IntKind):
  ∃p f,bW v sz (.int k (a:Int))=some p/\cY p h sz x=some f/\Own b sz true f v (out.set a x)/\f.z=h.z/\(∀k,k<b->f.get k=h.get k):=by
 obtain⟨t,⟨rfl,rfl⟩|⟨e,g,rfl,hk,_,i⟩⟩:=o
 ·grind
 have r:=lR (λy s=>(t y s).1);have d:=vf c g_ q;refine⟨.ptr e g (a*sz),h.set e (.row g sz true (bJ (out.set a x)) 0),?_,?_,⟨λy s=>?_,.inr ⟨e,g,by simp,?_,?_,i⟩⟩,aE _ _ _,λk hk=>aA o_⟩
 ·show cond (Nat.beq sz sz) (aI (aI (some a) λm=>cond (Nat.blt m out.length) (some m) none) λn=>some (AV.ptr e g (Nat.mul (Nat.add 0 n) sz))) none=_;have w:Nat.blt a out.length=true:=Nat.ble_eq_true_of_le q;rw[aK,w,fR];show some (AV.ptr e g (Nat.mul (Nat.add 0 a) sz))=_;grind
 ·rw[jF _ _ _ _ l c,hk,aK];show aI (cond (and (Nat.beq g g) (and (Nat.ble 0 (a*sz)) (Nat.ble (a*sz+len x.cells) (len (bJ out))))) (some (dF.row g sz true (setR (a*sz) x.cells (bJ out)) 0)) none) _=_;have j:a*sz+x.cells.length<=(bJ out).length:=by
   rw[r,c]
   calc a*sz+sz=(a+1)*sz:=by grind
    _<=out.length*sz:=Nat.mul_le_mul_right _ q
  rw[fR,bT,bT,fK j,d];rfl
 ·grind
 ·rw[aF]
 grind [aE]
theorem mq (z:AV):∀n,bJ (List.replicate n z)=Bc n z.cells
 |0=>rfl
 |n+1=>by rw[List.replicate_succ,cK,mq z n,oS]
theorem Sr {bytes:Nat}{z:AV}(n:Nat)(k:IntKind)(g:base<=h.z)(b:z.cells.length=sz)(i:z.isAgg=true)(c:n<=100000)(d:bytes<=1000):
  ∃v a,jJ h true sz bytes z.cells (.int k (n:Int)) (.int k (n:Int))=some (v,a)/\Own base sz true a v (List.replicate n z)/\a.z=h.z+1/\(∀k,k<h.z->a.get k=h.get k)/\v.cells=[v]/\v.lies=true:=by
 refine⟨.row h.z 0 sz 0 n,h.new (.row 0 sz true (Bc n z.cells) 0),?_,⟨g_,.inr ⟨h.z,0,by simp,?_,?_,g⟩⟩,aB _ _,λk hk=>aM o_,rfl,rfl⟩
 ·have e:py (.int k (n:Int)) 9223372036854775807=some n:=by
   show aI (some n) (λm=>cond (Nat.ble m 9223372036854775807) (some m) none)=_;have h1:n<=9223372036854775807:=o_;rw[aK,fK h1];rfl
  unfold jJ;rw[e,aK,aK];have f:=calc n*bytes<=100000*1000:=Nat.mul_le_mul c d
    _<=140737488355328:=by decide
  show cond (and (Nat.beq n n) (and (Nat.ble (n*bytes) 140737488355328) (Nat.beq (len z.cells) sz))) _ _=_;rw[fR,fK f,bT,b,fR];rfl
 all_goals grind [aD,mq,aB]
def IQ (c:List bG)(P:AV->AH->Prop)(e:AEx)(a:AF)(h1:AH):Prop:=
 a.cx.dfs=[]/\a.cx.rc=.no/\(e=.normal\/e=.ret)/\∃b,fH c a.tm h1=some b/\P (one b) h1
theorem By {E:Env}{f:FuncId}{as:List AV}{g:AH}{P:AV->AH->Prop}{t:Nat}{i:List bG}{a:bu}(o:E f=some ⟨t,i,a⟩)
  (x:R call n [.code a] (IQ i P) .normal ⟨cU as,⟨[],.no,none,f⟩⟩ g):∃v r,qw E call n f as .no g=some (.ret v,.no,r)/\P v r:=by
 have⟨_,⟨tm,⟨j,rc,_,_⟩⟩,h,q,l,k,u,b,w,p⟩:=x;replace l:j=[]:=l;replace k:rc=.no:=k;subst l k;have s:=q;have c:aI (fH i tm h) (λb=>some (ep.ret (one b),RC.no,h))=some (ep.ret (one b),RC.no,h):=by rw[w,aK]
 unfold qw;rw[o,aK];simp only[s,aK];rcases u with rfl|rfl
 ·exact⟨one b,h,by rw[<-c];rfl,p⟩
 exact⟨one b,h,by rw[<-c];rfl,p⟩
theorem ad9 (d:Option Nat)(f:FuncId)(a b args:List AV)(tm:Tm)(ds:List DF)(rc:RC)(c:FuncId)(h:AH):QT d (.fn f a b) args ⟨tm,⟨ds,rc,none,c⟩⟩ h=some (.normal,⟨fI d tm (.tup []),⟨.call (.fn f a b) args::ds,rc,none,c⟩⟩,h):=(rfl)
theorem TL (f:FuncId)(a b:List AV):(AV.fn f a b).cells=[.fn f a b]:=(rfl)
theorem YC (f:FuncId)(a b:List AV):(AV.fn f a b).lies=true:=(rfl)
theorem Pz (k:Nat):(AV.map k).cells=[.map k]:=(rfl)
theorem SW (k:Nat):(AV.map k).lies=true:=(rfl)
theorem Sl (a b:Nat)(x y:AV)(tm:Tm):qS [a,b] [x,y] tm=(tm.put a x).put b y:=(rfl)
theorem ac5 (l:List AV):ZX (.tup l)=some l:=(rfl)
theorem Oy (tm:Tm):kv [] tm=[]:=(rfl)
theorem IE (p:Nat×Nat×AX)(l:List (Nat×Nat×AX))(tm:Tm):kv (p::l) tm=(p.1,p.2.1,ev p.2.2 tm)::kv l tm:=(rfl)
theorem IJ (k g o:Nat):vj (.ptr k g o)=some (.ptr k g o):=(rfl)
def tg (k b sz a n:Nat)(h:AH):Option (AV×AH):=
 aI (kR h k b sz) λr=>aI (uo r.1 sz n (drp (a*sz) r.2.1)) λc=>some (.ls c,h.set k (.row b sz r.1 r.2.1 (max r.2.2 ((a+n)*sz))))
def dM (v:AV)(h:AH):AV×AH:=
 match v with
 |.row k b sz a n=>(tg k b sz a n h).getD (.row k b sz a n,h)
 |v=>(v,h)
def cL:List AV->AH->List AV×AH
 |[],h=>([],h)
 |v::l,h=>((dM v h).1::(cL l (dM v h).2).1,(cL l (dM v h).2).2)
def nI (v:AV)(h:AH):AV×AH:=
 match v with
 |.agg a=>(.agg (cL a h).1,(cL a h).2)
 |v=>dM v h
section
variable {C:Cx}{g:Gh}{U:Nat->Option (List AV)}{h:AH}{w:World}
theorem GB (s:Sim C g U h w)(A:bR g v u):∃d,Ext g d/\Sim C d U (dM v h).2 w/\bR d (dM v h).1 u/\(dM v h).1.isCell=v.isCell/\(dM v h).2.z=h.z:=by
 have j:∃d,Ext g d/\Sim C d U h w/\bR d v u/\v.isCell=v.isCell/\h.z=h.z:=⟨g,.refl g,s,A,rfl,rfl⟩;cases v<;>try exact j
 case row k y sz b m=>
  cases e:tg k y sz b m h with
  |none=>grind [dM]
  |some p=>
   rw[show dM (.row k y sz b m) h=p by grind [dM]];have⟨r,J,e⟩:=aC e;have⟨_,f,e⟩:=aC e;cases e;have⟨l,_,x,_,_,B,M⟩:=A.row_inv;have⟨H,I,_,G⟩:=Ag s x J;have⟨_,_,z,_,L,_,_,K,E,_,_⟩:=G;rw[iC]at f;have c:=sO f (iH E _);have⟨ex,F⟩:=s.shut (m:=(b+m)*sz) H I x L;refine⟨_,ex,F,?_,rfl,aE _ _ _⟩;rcases M with rfl|⟨q,_⟩
   ·rw[B];have o:=c.le;simp only[List.length_drop]at o;by_cases hm:m=0
    ·subst hm;have:=List.length_eq_zero_iff.1 c.len;subst this;exact .lst0
    refine .ls c.size ?_ c.len.symm (by rw[c.len];omega) ?_
    ·rw[c.flat];grind [kX,iH]
    rw[c.flat];refine fO.mk (us:=((((z.toList.drop l.base).take r.2.1.length).drop (b*sz)).take (m*sz))) (((K.mono ex).drop _).take _) λi u hi=>?_;have n:i<m*sz:=by
     grind
    rw[List.getElem?_take,P_ n,List.getElem?_drop,List.getElem?_take]at hi;split at hi
    ·have:=Gh.fz_at g l.block l.base ((z.toList.drop l.base).take ((b+m)*sz)) (i:=b*sz+i) (u:=u)
      (by grind)
     grind
    omega
   subst q;have:=List.length_eq_zero_iff.1 c.len;subst this;rw[B];exact .lst0
theorem Ac:∀{l:List AV} {d:List Value} {g:Gh} {h:AH},Sim C g U h w->bD g l d->∃b,Ext g b/\Sim C b U (cL l h).2 w/\bD b (cL l h).1 d/\aZ (cL l h).1=aZ l/\(cL l h).2.z=h.z
 |[],_,g,h,s,a=>⟨g,.refl g,s,a,rfl,rfl⟩
 |v::l,_,g,h,s,.cons a n=>by
  have⟨_,c,m,k,_,_⟩:=GB s a;have⟨i,e,f,j,_,_⟩:=Ac m (n.mono c);exact⟨i,c.trans e,f,.cons (k.mono e) j,by grind [cL,dG],by grind [cL]⟩
theorem RW (s:Sim C g U h w)(i:bR g v u):∃d,Ext g d/\Sim C d U (nI v h).2 w/\bR d (nI v h).1 u/\(nI v h).2.z=h.z:=by
 cases v<;>first
  |(have⟨d,a,b,c,_,e⟩:=GB s i;exact⟨d,a,b,c,e⟩)
  |skip
 case agg l=>
  obtain⟨_,_,j,rfl⟩:=i.agg_inv;have⟨d,a,b,c,_,f⟩:=Ac s j;exact⟨d,a,b,.agg (by grind) c,f⟩
end
theorem dQ (a:v.free=true)(h:AH):dM v h=(v,h):=by
 cases v<;>first|rfl|grind [AV.free]
theorem yB:∀{l:List AV},AV.frees l=true->∀h,cL l h=(l,h)
 |[],_,_=>rfl
 |v::l,a,h=>by
  simp only[AV.frees,Bool.and_eq_true]at a;simp only[cL,dQ a.1,yB a.2]
theorem Iw (a:v.free=true)(h:AH):nI v h=(v,h):=by
 cases v<;>first|exact dQ a h|skip
 grind [nI,yB,AV.frees,AV.free]
theorem iT {a:Nat}(o:Own a sz agg h v out)(hs:agg=false->sz=1):
  (v=.nl/\out=[]/\dM v h=(.nl,h))\/∃k g,v=.row k g sz 0 out.length/\dM v h=(.ls out,h.set k (.row g sz agg (bJ out) (out.length*sz)))/\a<=k/\k<h.z:=by
 obtain⟨d,⟨rfl,rfl⟩|⟨k,g,rfl,hk,c,b⟩⟩:=o
 ·exact .inl ⟨rfl,rfl,rfl⟩
 refine .inr ⟨k,g,rfl,?_,b,c⟩;have e:kR h k g sz=some (agg,bJ out,0):=by
  unfold kR;rw[hk,aK];show aI (some (g,sz,agg,bJ out,0)) _=_;show cond (and (Nat.beq g g) (Nat.beq sz sz)) _ _=_;rw[fR,fR];rfl
 have:tg k g sz 0 out.length h=some (.ls out,h.set k (.row g sz agg (bJ out) (out.length*sz))):=by
  unfold tg;rw[e,aK,Nat.zero_mul,iC,List.drop_zero,mH hs d,aK];simp
 grind [dM]
def cw (v:AV)(h:AH):AV×AH:=((nI v h).1.norm,(nI v h).2)
def jB:List AV->AH->List AV×AH
 |[],h=>([],h)
 |v::l,h=>((cw v h).1::(jB l (cw v h).2).1,(jB l (cw v h).2).2)
def mT (v:AV)(h:AH):AV×AH:=
 match v with
 |.tup a=>(.tup (jB a h).1,(jB a h).2)
 |v=>cw v h
section
variable {C:Cx}{g:Gh}{U:Nat->Option (List AV)}{h:AH}{w:World}
theorem Na (s:Sim C g U h w)(f:bR g v u):∃d,Ext g d/\Sim C d U (cw v h).2 w/\bR d (cw v h).1 u/\(cw v h).2.z=h.z:=by
 have⟨d,a,b,c,e⟩:=RW s f;exact⟨d,a,b,c.norm,e⟩
theorem Ex:∀{l:List AV} {d:List Value} {g:Gh} {h:AH},Sim C g U h w->bD g l d->∃b,Ext g b/\Sim C b U (jB l h).2 w/\bD b (jB l h).1 d/\(jB l h).2.z=h.z
 |[],_,g,h,s,a=>⟨g,.refl g,s,a,rfl⟩
 |v::l,_,g,h,s,.cons a n=>by
  have⟨_,c,m,k,_⟩:=Na s a;have⟨i,e,f,j,_⟩:=Ex m (n.mono c);exact⟨i,c.trans e,f,.cons (k.mono e) j,by grind [jB]⟩
theorem Zv (s:Sim C g U h w)(f:bR g v u):∃d,Ext g d/\Sim C d U (mT v h).2 w/\bR d (mT v h).1 u/\(mT v h).2.z=h.z:=by
 cases v<;>first
  |exact Na s f
  |skip
 case tup j=>
  obtain⟨_,i,rfl⟩:=f.tup_inv;have⟨d,a,b,c,e⟩:=Ex s i;exact⟨d,a,b,.tup c,e⟩
end
def eH (l:List Nat):AV->Bool
 |.fn f _ _=>l.contains f
 |_=>false
def inS (no:List Nat)(call:aN):aN:=λf a rc h=>match eH no f with
 |true=>call f a rc h
 |false=>call f (jB a h).1 rc (jB a h).2
def Be:Option (ep×RC×AH)->Option (ep×RC×AH)
 |some (.ret v,rc,h)=>some (.ret (mT v h).1,rc,(mT v h).2)
 |r=>r
def Bd (no:List Nat)(call:aN):aN:=λf a rc h=>match eH no f with
 |true=>call f a rc h
 |false=>Be (call f a rc h)
theorem adO (n:dD C K):dD C (inS no K):=by
 intro f args rc h out k r q;unfold inS at q;cases b:eH no f with
 |true=>rw[b]at q;exact n f args rc h out k r q
 |false=>
  rw[b]at q;intro g U w G x z a s b F A i;have⟨H,c,y,v,n1⟩:=Ex s F;have⟨d,j,p,_,D,E,u,t,_,B,m,l,_⟩:=n _ _ _ _ _ _ _ q H U w G x z a y (b.mono c) v (A.mono c) i;exact⟨d,j,p,o_,D,E,u,c.trans t,by grind,B,C_ (Nat.le_of_eq n1.symm) m,l,o_⟩
theorem Yk (l:dD C K):dD C (Bd no K):=by
 intro f args rc h out b i q;unfold Bd at q;cases e:eH no f with
 |true=>rw[e]at q;exact l f args rc h out b i q
 |false=>
  rw[e]at q;replace q:Be (K f args rc h)=some (out,b,i):=q;cases hk:K f args rc h with
  |none=>rw[hk]at q;cases q
  |some r=>
   have⟨o,_,_⟩:=r;rw[hk]at q;cases o with
   |pan v=>exact l f args rc h out b i (by rw[hk];exact q)
   |ret v=>
    cases q;intro g U w M B D c s e J E j;have⟨d,k,x,_,_,I,z,y,u2,F,n,m,a⟩:=l _ _ _ _ _ _ _ hk g U w M B D c s e J E j;have⟨u,N,st⟩:=a;have⟨A,p,L,H,O⟩:=Zv F N;exact⟨d,k,x,o_,A,I,z,y.trans p,u2,L,C_ n (Nat.le_of_eq O.symm),m.mono p,u,H,st⟩
section
variable {K:aN}{E:Env}{N:Nat}{ni no:List Nat}{m:Nat}
theorem tK {c:AH}(e:jB a h=(b,c))(d:eH ni f=false):inS ni call f a rc h=call f b rc c:=by
 grind [inS]
theorem rR {a:AV}{b:AH}(e:mT v h=(a,b)):Be (some (.ret v,rc,h))=some (.ret a,rc,b):=by
 show some (ep.ret (mT v h).1,rc,(mT v h).2)=_;grind
theorem Su: Be (some (.pan v,rc,h))=some (.pan v,rc,h):=rfl
end
theorem aH (h:AH):jB [] h=([],h):=rfl
theorem ae {v':AV}{b:AH}(c:cw v h=(v',h1))(d:jB l h1=(a,b)):jB (v::l) h=(v'::a,b):=by
 grind [jB]
theorem bQ (a:v.free=true)(h:AH):cw v h=(v.norm,h):=by grind [cw,Iw]
theorem aL (k:IntKind)(n:Int)(h:AH):cw (.int k n) h=(.int k n,h):=rfl
theorem bp (b:Bool)(h:AH):cw (.bool b) h=(.bool b,h):=rfl
theorem rX (b:ByteArray)(h:AH):cw (.str b) h=(.str b,h):=rfl
theorem bS (k g o:Nat)(h:AH):cw (.ptr k g o) h=(.ptr k g o,h):=rfl
theorem dL (h:AH):cw .nl h=(.ls [],h):=rfl
theorem TR (k:Nat)(h:AH):cw (.yld k) h=(.yld k,h):=rfl
theorem jd (f:FuncId)(a b:List AV)(h:AH):cw (.fn f a b) h=(.fn f (AV.norms a) (AV.norms b),h):=by simp[cw,nI,dM,AV.norm]
theorem bF {a:AH}(e:jB l h=(b,a)):mT (.tup l) h=(.tup b,a):=by grind [mT]
theorem qM {p:AV×AH}(a:∀l,v≠.tup l)(e:cw v h=p):mT v h=p:=by
 cases v<;>first|exact e|grind
theorem uY {a off:Nat}{es:List AV}(hk:h.get k=some (.row a sz agg b fz))(d:uo agg sz n (b.drop (off*sz))=some es):
  dM (.row k a sz off n) h=(.ls es,h.set k (.row a sz agg b (max fz ((off+n)*sz)))):=by
 have c:kR h k a sz=some (agg,b,fz):=by
  unfold kR;rw[hk,aK];show aI (some (a,sz,agg,b,fz)) _=_;show cond (and (Nat.beq a a) (Nat.beq sz sz)) _ _=_;rw[fR,fR];rfl
 grind [tg,max,aK,iC,dM]
section
variable {C:Cx}{g:Gh}{U:Nat->Option (List AV)}{h:AH}{w:World}
theorem Sim.recell (s:Sim C g U h w){x:List AV}{l:Loc}{y:Array Value}{t:TypeId}(e:h.get k=some (.row n sz agg x fz))(Q:U k=none)
  (v:g.ρ k n=some l) (F:w.heap[l.block]?=some (.cells y t (0,0))) (T:a.length=x.length) (J:aZ a=true) (L:bD g a ((y.toList.drop l.base).take x.length)) :
  Sim C g U (h.set k (.row n sz agg a fz)) w:=by
 have⟨_,h1,R,I⟩:=s.obj k _ e Q;have m:g.ρ k (ot (.row n sz agg x fz))=some l:=v;rw[m]at h1;cases h1;have⟨hs,M,_,_,D,P,_,_,_,K,O⟩:=I;rw[F]at D;cases D;constructor
 ·exact s.frz
 ·intro j p q u;rw[AH.get_set]at q;by_cases c:j=k
  ·subst c;rw[P_ rfl]at q;cases q;exact⟨l,v,R,hs,M,y,t,F,P,o_,by grind,J,K,O⟩
  rw[N_ c]at q;exact s.obj j p q u
 ·intro j p q;rw[AH.get_set]at q;by_cases c:j=k
  ·subst c;exact s.lt _ _ e
  rw[N_ c]at q;exact s.lt j p q
 ·intro j z q;have⟨_,_⟩:=s.unb j z q;grind [AH.get_set]
 ·intro j H G q;exact s.rlt j H G q
 ·intro j o p E A f d q i r B;rw[AH.get_set]at q i;by_cases c:j=k
  ·by_cases b:o=k
   ·omega
   rw[N_ b]at i;subst c;rw[P_ rfl]at q;cases q;exact s.sep j o _ E A f d e i r B
  rw[N_ c]at q;by_cases b:o=k
  ·subst b;rw[P_ rfl]at i;cases i;exact s.sep j o p _ A f d q e r B
  rw[N_ b]at i;exact s.sep j o p E A f d q i r B
 ·exact s.old
 ·grind
 ·exact s.tape
 ·exact s.os
 ·exact s.output
 exact s.ini
end
theorem Oe (v:AV)(h:AH){i:List AV}(e:h.get k=some (.row n sz agg i fz)):∃c,(dM v h).2.get k=some (.row n sz agg i c):=by
 cases v<;>try exact⟨fz,e⟩
 case row f g a b m=>
  cases q:tg f g a b m h with
  |none=>grind [dM]
  |some p=>
   rw[show dM (.row f g a b m) h=p by grind [dM]];have⟨r,d,q⟩:=aC q;have⟨_,_,q⟩:=aC q;cases q;show ∃c,((h.set f _).get k)=_;rw[AH.get_set];by_cases hk:k=f
   ·subst hk;unfold kR at d;rw[e,aK]at d;have d:cond (and (Nat.beq g n) (Nat.beq sz a)) (some (agg,i,fz)) none=some r:=d;grind [Nat.beq,Nat.eq_of_beq_eq_true]
   grind
theorem BR:∀(l:List AV) (h:AH) {k n sz fz:Nat} {agg:Bool} {b:List AV},h.get k=some (.row n sz agg b fz)->∃a,(cL l h).2.get k=some (.row n sz agg b a)
 |[],h,_,_,_,fz,_,_,e=>⟨fz,e⟩
 |v::l,h,_,_,_,_,_,_,e=>by
  have⟨_,c⟩:=Oe v h e;exact BR l (dM v h).2 c
def ru (v:AV)(h:AH):AH:=
 match v with
 |.row k _ _ _ _=>match h.get k with
  |some (.row n sz agg a _)=>match (cL a h).2.get k with
   |some (.row _ _ _ _ fz)=>(cL a h).2.set k (.row n sz agg (cL a h).1 fz)
   |_=>h
  |_=>h
 |_=>h
def JS:List AV->AH->AH
 |[],h=>h
 |v::l,h=>JS l (ru v h)
def QV (v:AV)(h:AH):AH:=
 match v with
 |.agg a=>JS a h
 |v=>ru v h
def JR:List AV->AH->AH
 |[],h=>h
 |v::l,h=>JR l (QV v h)
def AT (v:AV)(h:AH):AH:=
 match v with
 |.tup a=>JR a h
 |v=>QV v h
section
variable {C:Cx}{g:Gh}{U:Nat->Option (List AV)}{h:AH}{w:World}
theorem BS:∀(l:List AV) (h:AH),(cL l h).1.length=l.length
 |[],_=>rfl
 |v::l,h=>by simp only[cL,M_,BS l]
theorem HV (s:Sim C g U h w)(v:AV):∃f,Ext g f/\Sim C f U (ru v h) w/\(ru v h).z=h.z:=by
 have i:∃f,Ext g f/\Sim C f U h w/\h.z=h.z:=⟨g,.refl g,s,rfl⟩;cases v<;>try exact i
 case row k a b c d=>
  cases e:h.get k with
  |none=>grind [ru]
  |some o=>
   cases o with
   |row n sz agg j fz=>
    have⟨m,B⟩:=BR j h e;rw[show ru (.row k a b c d) h=(cL j h).2.set k (.row n sz agg (cL j h).1 m) by grind [ru]];have r:U k=none:=by
     cases q:U k with
     |none=>rfl
     |some z=>have:=(s.unb k z q).1;grind
    have⟨l,h1,_,y⟩:=s.obj k _ e r;have⟨_,_,_,_,u,_,_,E,_,_,_⟩:=y;have⟨f,x,A,D,_,_⟩:=Ac s E;have p:f.ρ k n=some l:=x.ρ _ _ _ h1;exact⟨f,x,A.recell B r p u (BS _ _) (by grind) D,by grind [aE]⟩
   |_=>grind [ru]
theorem HT:∀(l:List AV) {g:Gh} {h:AH},Sim C g U h w->∃a,Ext g a/\Sim C a U (JS l h) w/\(JS l h).z=h.z
 |[],g,h,s=>⟨g,.refl g,s,rfl⟩
 |v::l,g,h,s=>by
  have⟨_,b,d,_⟩:=HV s v;have⟨f,e,c,_⟩:=HT l d;exact⟨f,b.trans e,c,by grind [JS]⟩
theorem HU (s:Sim C g U h w)(v:AV):∃b,Ext g b/\Sim C b U (QV v h) w/\(QV v h).z=h.z:=by
 have a:=HV s v;cases v<;>first
  |exact a
  |exact HT _ s
theorem HS:∀(l:List AV) {g:Gh} {h:AH},Sim C g U h w->∃a,Ext g a/\Sim C a U (JR l h) w/\(JR l h).z=h.z
 |[],g,h,s=>⟨g,.refl g,s,rfl⟩
 |v::l,g,h,s=>by
  have⟨_,b,d,_⟩:=HU s v;have⟨f,e,c,_⟩:=HS l d;exact⟨f,b.trans e,c,by grind [JR]⟩
theorem TH (s:Sim C g U h w)(v:AV):∃b,Ext g b/\Sim C b U (AT v h) w/\(AT v h).z=h.z:=by
 have a:=HU s v;cases v<;>first
  |exact a
  |exact HS _ s
end
def JM:Option (ep×RC×AH)->Option (ep×RC×AH)
 |some (.ret v,rc,h)=>some (.ret v,rc,AT v h)
 |r=>r
def Gd (dp:List Nat)(call:aN):aN:=λf a rc h=>match eH dp f with
 |true=>JM (call f a rc h)
 |false=>call f a rc h
theorem Yl {dp:List Nat}(m:dD C K):dD C (Gd dp K):=by
 intro f args rc h out b i q;unfold Gd at q;cases e:eH dp f with
 |false=>rw[e]at q;exact m f args rc h out b i q
 |true=>
  rw[e]at q;replace q:JM (K f args rc h)=some (out,b,i):=q;cases hk:K f args rc h with
  |none=>rw[hk]at q;cases q
  |some r=>
   have⟨o,_,_⟩:=r;rw[hk]at q;cases o with
   |pan v=>exact m f args rc h out b i (by rw[hk];exact q)
   |ret v=>
    cases q;intro g U w L B D c s e I E k;have⟨d,l,x,_,_,H,z,y,u2,F,p,n,a⟩:=m _ _ _ _ _ _ _ hk g U w L B D c s e I E k;have⟨u,M,st⟩:=a;have⟨A,j,J,N⟩:=TH F v;exact⟨d,l,x,o_,A,H,z,y.trans j,u2,J,C_ p (Nat.le_of_eq N.symm),n.mono j,u,M.mono j,st⟩
section
variable {K:aN}{E:Env}{N:Nat}{ni no dp:List Nat}{m:Nat}
theorem qT (b:eH dp f=false):Gd dp call f a rc h=call f a rc h:=by
 grind [Gd]
theorem OA: JM (some (.ret v,rc,h))=some (.ret v,rc,AT v h):=rfl
end
theorem ES {l:Nat}{a:List Nat}{b:bu}{f:FuncId}(c:h.get l=some (.loop .ready pend tm a as b f)):
  rF h l=some (h.set l (.loop .busy pend tm a as b f)):=by
 unfold rF;rw[c,aK];rfl
theorem BI {l:Nat}{c:LoopState}{a:Option AEx}{d:List Nat}{b:bu}{f:FuncId}(e:h.get l=some (.loop st pend tm d as b f)):
  pL h l c a=some (h.set l (.loop c a tm d as b f)):=by
 unfold pL;rw[e,aK];rfl
theorem ZM {k:List It}{f:AX}{i:List Nat}{b:bu}{a:FuncId}{j:AH}{m:RC}{g:List Nat}{d l:bu}{c:FuncId}
  (s:call (ev f tm) [.yld (h.z+1)] .no ((h.new (.dfd false)).new (.loop .ready none tm i as b a))=some (.ret v,m,j)) (r:j.get (h.z+1)=some (.loop st none e g d l c)) (u:xU st=false)
  (t:R call n k Q .normal ⟨tm,⟨.mark h.z::ds,rc,none,a⟩⟩ (j.set (h.z+1) (.loop .exhausted none e g d l c))) :
  R call n (.code (.rangeFunc f i as b)::k) Q .normal ⟨tm,⟨ds,rc,none,a⟩⟩ h:=by
 show WP (aI (uR ⟨tm,⟨ds,rc,none,a⟩⟩ i as b h) λp=>aI (call (ev f tm) [.yld p.1] .no p.2.2) λq=>Ao q.1 (BC p.2.1 ⟨tm,⟨ds,rc,none,a⟩⟩) p.1 q.2.2) (R call n k Q);have o:uR ⟨tm,⟨ds,rc,none,a⟩⟩ i as b h=some (h.z+1,[.mark h.z],(h.new (.dfd false)).new (.loop .ready none tm i as b a)):=rfl;rw[o,aK];simp only[s,aK];show WP (tD ⟨tm,⟨.mark h.z::ds,rc,none,a⟩⟩ (h.z+1) j) _;unfold tD;rw[r,aK];show WP (cond (xU st) none (some (.normal,⟨tm,⟨.mark h.z::ds,rc,none,a⟩⟩,j.set (h.z+1) (.loop .exhausted none e g d l c)))) _;grind [hJ]
theorem Jv {k:List It}{f:AX}{l:List Nat}{b:bu}{c:FuncId}{i:AH}{j:RC}{g:List Nat}{d m:bu}{a:FuncId}(p q:Nat)(t:h.z=p)(u:p+1=q)
  (s:call (ev f tm) [.yld q] .no ((h.new (.dfd false)).new (.loop .ready none tm l as b c))=some (.ret v,j,i)) (o:i.get q=some (.loop st none e g d m a)) (w:xU st=false)
  (r:R call n k Q .normal ⟨tm,⟨.mark p::ds,rc,none,c⟩⟩ (i.set q (.loop .exhausted none e g d m a))) :
  R call n (.code (.rangeFunc f l as b)::k) Q .normal ⟨tm,⟨ds,rc,none,c⟩⟩ h:=by
 grind [ZM]
def Evt {a:Type}(x:Option a)(y:Nat->Option a):Prop:=∀r,x=some r->∃b,∀m,b<=m->y m=some r
theorem Evt.const {a:Type}(x:Option a):Evt x λ_=>x:=λ_ e=>⟨0,λ_ _=>e⟩
theorem Evt.bind {b c:Type}{x:Option b}{y:Nat->Option b}{f:b->Option c}{g:Nat->b->Option c}(h:Evt x y)(j:∀a,Evt (f a) λm=>g m a):Evt (aI x f) λm=>aI (y m) (g m):=by
 intro r e;cases hx:x with
 |none=>rw[hx]at e;cases e
 |some a=>
  rw[hx]at e;have⟨k,d⟩:=h a hx;have⟨i,h1⟩:=j a r e;exact⟨k+i,λm hm=>by show aI (y m) (g m)=_;rw[d m o_];exact h1 m o_⟩
theorem Evt.cond {a:Type}{x c:Option a}{y d:Nat->Option a}(b:Bool)(h:Evt x y)(e:Evt c d):Evt (cond b x c) λm=>cond b (y m) (d m):=by
 cases b
 all_goals grind
def Lim (A:aN)(B:Nat->aN):Prop:=∀f a rc h,Evt (A f a rc h) λm=>B m f a rc h
section
variable {A:aN}{B:Nat->aN}(L:Lim A B)
include L
theorem Ry (r:OpR)(d:Option Nat)(a:AF)(h:AH):Evt (ly r A d a h) λm=>ly r (B m) d a h:=by
 cases r<;>first
  |exact Evt.const _
  |exact Evt.bind (L _ _ _ _) λ_=>Evt.const _
theorem va (o:aX)(a:AF)(h:AH):Evt (eO o A a h) λm=>eO o (B m) a h:=
 Evt.bind (Evt.const _) λw=>Evt.cond w (Ry L _ _ _ _) (Evt.const _)
omit L in
theorem Tq (e:AEx)(a:AF)(h:AH){k:AF->AH->RX}{b:Nat->AF->AH->RX}(hk:∀a h,Evt (k a h) λm=>b m a h):Evt (acR e a h k) λm=>acR e a h (b m):=by
 cases e<;>first
  |exact hk _ _
  |exact Evt.const _
omit L in
theorem zX {r:RX}{b:Nat->RX}{k:AF->AH->RX}{a:Nat->AF->AH->RX}(d:Evt r b)(hk:∀c h,Evt (k c h) λm=>a m c h):Evt (kQ r k) λm=>kQ (b m) (a m):=
 Evt.bind d λ_=>Tq _ _ _ hk
theorem Mv:∀(l:List aX) (a:AF) (h:AH),Evt (wc l A a h) λm=>wc l (B m) a h
 |[],_,_=>Evt.const _
 |_::l,_,_=>zX (va L _ _ _) (Mv l)
omit L in
theorem BL (e:AEx)(s:DS)(b:AF){k:DS->RX}{a:Nat->DS->RX}(hk:∀s,Evt (k s) λm=>a m s):Evt (jL e s b k) λm=>jL e s b (a m):=by
 cases e<;>first
  |exact hk _
  |exact Evt.const _
omit L in
theorem GO (s:DS)(o:aX)(d:DI){k:DS->RX}{a:Nat->DS->RX}(hk:∀s,Evt (k s) λm=>a m s):Evt (vm s o d k) λm=>vm s o d (a m):=by
 refine Evt.bind (Evt.const _) λw=>Evt.cond w ?_ g_;cases da o.op s.fr.tm s.h<;>first
  |exact hk _
  |exact Evt.const _
theorem Dp (c:Cls)(o:aX)(d:DI)(s:DS){k:DS->RX}{a:Nat->DS->RX}(hk:∀s,Evt (k s) λm=>a m s):Evt (pF c A o d s k) λm=>pF c (B m) o d s (a m):=by
 cases c
 case still=>exact Evt.bind (va L _ _ _) λ_=>BL _ _ _ hk
 case reads=>exact GO _ _ _ hk
 case born=>exact hk _
 case acts=>exact Evt.const _
theorem Ai:∀(l:List (aX×DI)) (c:Nat) (s:DS),Evt (iB l A c s) λm=>iB l (B m) c s
 |[],_,_=>Evt.const _
 |p::l,c,_=>Evt.cond (Nat.blt c p.2.lo) (Evt.cond _ (Evt.const _) (Ai l c _)) (Dp L _ _ _ _ (Ai l c))
theorem Yg (all a:List (aX×DI))(fin:Bool)(s:DS)(v:AV)(b:AF)(h:AH):Evt (zK A all a fin s v b h) λm=>zK (B m) all a fin s v b h:=
 Evt.cond fin (Evt.const _) (Evt.bind (Ai L _ _ _) λ_=>Evt.const _)
theorem Dv (c:Cls)(all b:List (aX×DI))(o:aX)(d:DI)(s:DS){k:DS->RX}{a:Nat->DS->RX}(hk:∀s,Evt (k s) λm=>a m s):Evt (pG c A all b o d s k) λm=>pG c (B m) all b o d s (a m):=by
 cases c
 case still=>exact Evt.bind (va L _ _ _) λ_=>BL _ _ _ hk
 case reads=>exact GO _ _ _ hk
 case born=>exact hk _
 case acts=>
  refine Evt.bind (va L _ _ _) λp=>?_;cases p.1<;>first
   |exact hk _
   |exact Yg L _ _ _ _ _ _ _
   |exact Evt.const _
theorem HQ:∀(l all:List (aX×DI)) (s:DS),Evt (lH l A all s) λm=>lH l (B m) all s
 |[],_,_=>Evt.const _
 |_::l,all,_=>Dv L _ _ _ _ _ _ (HQ l all)
omit L in
theorem Ht {s:AF->AH->RX}{b:Nat->AF->AH->RX}(hs:∀a h,Evt (s a h) λm=>b m a h):∀(n:Nat) (a:AF) (h:AH),Evt (Io n s a h) λm=>Io n (b m) a h
 |0,_,_=>Evt.const _
 |n+1,_,_=>zX (hs _ _) (Ht hs n)
theorem Ow (f:AX)(a:List Nat)(as b:bu)(c:AF)(h:AH):Evt (zJ A f a as b c h) λm=>zJ (B m) f a as b c h:=
 Evt.bind (Evt.const _) λ_=>Evt.bind (L _ _ _ _) λ_=>Evt.const _
theorem jy (n:Nat):∀(c:bu) (d:AF) (h:AH),Evt (dY c A n d h) λm=>dY c (B m) n d h
 |.skip,_,_=>Evt.const _
 |.region _,_,_=>Mv L _ _ _
 |.draw _,_,_=>HQ L _ _ _
 |.seq a b,_,_=>zX (jy n a _ _) (jy n b)
 |.cond c a b,d,h=>by
  show Evt (BA (ev c d.tm) (dY a A n) (dY b A n) d h) λm=>BA (ev c d.tm) (dY a (B m) n) (dY b (B m) n) d h;cases ev c d.tm<;>first
   |exact Evt.cond _ (jy n a _ _) (jy n b _ _)
   |exact Evt.const _
 |.block _ a,_,_=>Evt.bind (jy n a _ _) λ_=>Evt.const _
 |.loop a,_,_=>Ht (jy n a) n _ _
 |.rangeFunc _ _ _ _,_,_=>Ow L _ _ _ _ _ _
 |.exit _,_,_=>Evt.const _
 |.scope a,_,_=>jy n a _ _
 |.ret,_,_=>Evt.const _
theorem Zk (d:DF)(q:Md)(h:AH):Evt (JP d A q h) λm=>JP d (B m) q h:=by
 cases d<;>first
  |exact Evt.const _
  |exact Evt.bind (L _ _ _ _) λ_=>Evt.const _
theorem HR:∀(l:List DF) (q:Md) (h:AH),Evt (ou l A q h) λm=>ou l (B m) q h
 |[],_,_=>Evt.const _
 |_::l,_,_=>Evt.bind (Zk L _ _ _) λ_=>HR l _ _
theorem Zd (fn:Di)(a:AF)(q:Md)(h:AH):Evt (Dd A fn a q h) λm=>Dd (B m) fn a q h:=
 Evt.bind (HR L _ _ _) λ_=>Evt.const _
theorem adS (E:Env)(n:Nat)(f:FuncId)(as:List AV)(rc:RC)(h:AH):Evt (qw E A n f as rc h) λm=>qw E (B m) n f as rc h:=by
 refine Evt.bind (Evt.const _) λfn=>Evt.bind (jy L n _ _ _) λp=>?_;cases p.1<;>first
  |exact Zd L _ _ _ _
  |exact Evt.const _
theorem Xj (n l:Nat)(as:List AV)(h:AH):Evt (AQ A n l as h) λm=>AQ (B m) n l as h:=by
 refine Evt.bind (Evt.const _) λo=>?_;cases o<;>first
  |exact Evt.const _
  |exact Evt.cond _ (Evt.bind (jy L n _ _ _) λ_=>Evt.cond _ (Evt.bind (Evt.const _) λ_=>Evt.bind (jy L n _ _ _) λ_=>Evt.const _) (Evt.const _)) (Evt.const _)
theorem Xp (E:Env)(n:Nat)(v:AV)(as:List AV)(rc:RC)(h:AH):Evt (xK v E A n as rc h) λm=>xK v E (B m) n as rc h:=by
 cases v<;>first
  |exact adS L _ _ _ _ _ _
  |exact Evt.cond _ (Xj L _ _ _ _) (Evt.const _)
  |exact Evt.const _
end
section
variable {K:aN}{E:Env}{N:Nat}{ni no dp:List Nat}
theorem adN (L:Lim A B)(l:List Nat):Lim (inS l A) λm=>inS l (B m):=by
 intro f a rc h;show Evt (inS l A f a rc h) λm=>inS l (B m) f a rc h;unfold inS;cases eH l f
 ·exact L _ _ _ _
 exact L _ _ _ _
theorem MF {b:Type}{x:Option b}{y:Nat->Option b}(g:Option b->Option d)(i:g none=none)(h:Evt x y):Evt (g x) λm=>g (y m):=by
 intro r e;cases hx:x with
 |none=>grind
 |some a=>
  have⟨c,_⟩:=h a hx;exact⟨c,g_⟩
theorem Yj (L:Lim A B)(l:List Nat):Lim (Bd l A) λm=>Bd l (B m):=by
 intro f a rc h;show Evt (Bd l A f a rc h) λm=>Bd l (B m) f a rc h;unfold Bd;cases eH l f
 ·exact MF Be rfl (L f a rc h)
 exact L _ _ _ _
theorem Sy (L:Lim A B)(l:List Nat):Lim (Gd l A) λm=>Gd l (B m):=by
 intro f a rc h;show Evt (Gd l A f a rc h) λm=>Gd l (B m) f a rc h;unfold Gd;cases eH l f
 ·exact L _ _ _ _
 exact MF JM rfl (L f a rc h)
def nxt (K:aN)(E:Env)(N:Nat)(ni no dp:List Nat)(A:aN):aN:=inS ni (Bd no (Gd dp (λf a rc h=>match K f a rc h with
  |some r=>some r
  |none=>xK f E A N a rc h)))
theorem MA (L:Lim A B):Lim (nxt K E N ni no dp A) λm=>nxt K E N ni no dp (B m):=by
 refine adN (Yj (Sy ?_ dp) no) ni;intro f a rc h;grind [Evt,xK,Xp,Evt.const]
def chI (K:aN)(E:Env)(N:Nat)(ni no dp:List Nat):Nat->aN
 |0=>λ_ _ _ _=>none
 |m+1=>nxt K E N ni no dp (chI K E N ni no dp m)
theorem Lim.at {B:aN}(L:Lim A λ_=>B)(e:A f a rc h=some r):B f a rc h=some r:=by
 have⟨c,b⟩:=L f a rc h r e;exact b c o_
theorem UY:∀m,Lim (chI K E N ni no dp m) λ_=>chI K E N ni no dp (m+1)
 |0=>λ_ _ _ _ _ e=>by cases e
 |m+1=>MA (UY m)
theorem vu (e:chI K E N ni no dp m f a rc h=some r):∀k,chI K E N ni no dp (m+k) f a rc h=some r
 |0=>e
 |k+1=>(UY (m+k)).at (vu e k)
open Classical in
def Iq (K:aN)(E:Env)(N:Nat)(ni no dp:List Nat):aN:=λf a rc h=>if x:∃r m,chI K E N ni no dp m f a rc h=some r then some x.choose else none
theorem Zx (e:chI K E N ni no dp m f a rc h=some r):Iq K E N ni no dp f a rc h=some r:=by
 unfold Iq;have x:∃r m,chI K E N ni no dp m f a rc h=some r:=g_;have⟨k,hk⟩:=x.choose_spec;have b:=vu e k;have c:=vu hk m;grind
theorem HZ:Lim (Iq K E N ni no dp) (chI K E N ni no dp):=by
 intro f a rc h r e;unfold Iq at e;split at e
 ·rename_i x;have⟨k,_⟩:=x.choose_spec;cases e;exact⟨k,λm hm=>by grind [Nat.exists_eq_add_of_le,vu]⟩
 grind
theorem SK (e:nxt K E N ni no dp (Iq K E N ni no dp) f a rc h=some r):Iq K E N ni no dp f a rc h=some r:=by
 have⟨b,c⟩:=MA (K:=K) (E:=E) (N:=N) (ni:=ni) (no:=no) (dp:=dp) HZ f a rc h r e;exact Zx (m:=b+1) (c b (e_ _))
theorem KF (d:AZ C E)(b:dD C K):∀m,dD C (chI K E N ni no dp m)
 |0=>λ_ _ _ _ _ _ _ e=>by cases e
 |m+1=>by
  refine adO (Yk (Yl ?_));intro f args rc h out a c q;cases hk:K f args rc h with
  |some r=>
   exact b f args rc h out a c (by grind)
  |none=>
   simp only[hk]at q;exact Xx d (KF d b m) N f args rc h out a c q
theorem Zw (d:AZ C E)(b:dD C K):dD C (Iq K E N ni no dp):=by
 intro f args rc h out a c q;have⟨m,hm⟩:=HZ f args rc h _ q;exact KF d b m f args rc h out a c (hm m (e_ _))
theorem Ax {f:FuncId}{c:List AV}: xK (.fn f [] c) E A N a rc h=qw E A N f (a++c) rc h:=by
 show qw E _ N f (app [] (app a c)) rc h=_;rw[lY,lY];rfl
theorem Yr {f:FuncId}{c:List AV}(e0:jB a h=(b,h1))(d:eH ni (.fn f [] c)=false)(e:eH dp (.fn f [] c)=false)(hk:K (.fn f [] c) b rc h1=none):
  nxt K E N ni no dp A (.fn f [] c) a rc h=cond (eH no (.fn f [] c)) (qw E A N f (b++c) rc h1) (Be (qw E A N f (b++c) rc h1)):=by
 refine(tK e0 d).trans ?_;grind [Bd,eH,qT,Ax]
theorem SJ {f:FuncId}{c:List AV}(e0:jB a h=(b,h1))(d:eH ni (.fn f [] c)=false)(ho:eH no (.fn f [] c)=false)(e:eH dp (.fn f [] c)=true)(hk:K (.fn f [] c) b rc h1=none):
  nxt K E N ni no dp A (.fn f [] c) a rc h=Be (JM (qw E A N f (b++c) rc h1)):=by
 refine(tK e0 d).trans ?_;grind [Bd,Gd,Ax]
theorem Ys {f:FuncId}{c:List AV}(d:eH ni (.fn f [] c)=true)(b:eH dp (.fn f [] c)=false)(hk:K (.fn f [] c) a rc h=none):
  nxt K E N ni no dp A (.fn f [] c) a rc h=cond (eH no (.fn f [] c)) (qw E A N f (a++c) rc h) (Be (qw E A N f (a++c) rc h)):=by
 show inS ni _ _ a rc h=_;grind [inS,Bd,eH,qT,Ax]
theorem Yq {l:Nat}(e0:jB a h=(b,h1))(hk:K (.yld l) b .no h1=none):
  nxt K E N ni no dp A (.yld l) a .no h=Be (AQ A N l b h1):=by
 refine(tK e0 rfl).trans ?_;show Be _=_;simp only[qT (dp:=dp) (f:=.yld l) rfl,hk];rfl
theorem OJ {d:List AV}{b:RC}{c:AH}(e0:jB a h=(d,h1))(g:eH ni f=false)(i:eH dp f=false)(e:K f d rc h1=some (.ret v,b,c))(j:mT v c=(v,c)):nxt K E N ni no dp A f a rc h=some (.ret v,b,c):=by
 have ho:Be (some (ep.ret v,b,c))=some (ep.ret v,b,c):=by
  show some (ep.ret (mT v c).1,b,(mT v c).2)=_;grind
 refine(tK e0 g).trans ?_;grind [Bd,eH,qT]
open Classical in
def limP (g:Nat->Option (ep×RC×AH)):Option (ep×RC×AH):=if x:∃r m,g m=some r then some x.choose else none
theorem Zy {c:AH}(e:jB a h=(b,c))(i:jB b c=(b,c))(d:eH ni f=false):Iq K E N ni no dp f a rc h=Iq K E N ni no dp f b rc c:=by
 have g:∀m,chI K E N ni no dp m f a rc h=chI K E N ni no dp m f b rc c
  |0=>rfl
  |m+1=>(tK e d).trans (tK i d).symm
 exact congrArg limP g_
end
