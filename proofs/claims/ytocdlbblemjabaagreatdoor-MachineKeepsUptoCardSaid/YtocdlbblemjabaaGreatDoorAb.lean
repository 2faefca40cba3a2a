/- AbsGo: the evaluator (definitions alone; no condition). 'noncomputable', written so that the kernel evaluates it quickly: whatever is looked at comes first, the rest behind. -/
import Derived.Test.YtocdlbblemjabaaGreatDoorAa
namespace Go.AG
abbrev Tm:=Tr AV
inductive AEx where
 |normal
 |exit (id:Nat)
 |ret
 |panic (v:AV)
inductive fD where
 |box (cells:List AV)
 |row (g sz:Nat) (agg:Bool) (cells:List AV) (fz:Nat)
 |map (es:List (AV×AV))
 |loop (st:LoopState) (pend:Option AEx) (tm:Tm) (params:List Nat) (assign body:aF) (fn:FuncId)
 |dfd (taken:Bool)
structure AH where
 z:Nat
 low:Nat
 objs:Tr fD
noncomputable section
def AH.get (h:AH)(k:Nat):Option fD:=h.objs.get k
def rZ (a b:Nat):Nat:=cond (Nat.ble a b) a b
def AH.set (h:AH)(k:Nat)(x:fD):AH:=AH.casesOn h fun n l o=>⟨n,rZ k l,o.put k x⟩
def AH.new (h:AH)(x:fD):AH:=AH.casesOn h fun n l o=>⟨Nat.succ n,l,o.put n x⟩
def nth (t:Tm)(n:Nat):AV:=Option.casesOn (t.get n) (.tup []) fun v=>v
def ev (x:AX):Tm->AV:=AX.casesOn x (fun n tm=>nth tm n) (fun v _=>v)
def evs (l:List AX):Tm->List AV:=List.rec (fun _=>[]) (fun x _ ih tm=>ev x tm::ih tm) l
def ez (d:Option Nat):Tm->AV->Tm:=Option.casesOn d (fun tm _=>tm) (fun d tm v=>tm.put d v)
def app {α:Type}(a:List α):List α->List α:=List.rec (fun b=>b) (fun x _ ih b=>x::ih b) a
def drp {α:Type}(n:Nat):List α->List α:=Nat.rec (fun l=>l) (fun _ ih l=>List.casesOn l [] fun _ l=>ih l) n
def tke {α:Type}(n:Nat):List α->List α:=Nat.rec (fun _=>[]) (fun _ ih l=>List.casesOn l [] fun x l=>x::ih l) n
def len {α:Type}(l:List α):Nat:=List.rec 0 (fun _ _ ih=>Nat.succ ih) l
def pT {α:Type}(n:Nat):List α->Option α:=
 Nat.rec (fun l=>List.casesOn l none fun x _=>some x) (fun _ ih l=>List.casesOn l none fun _ l=>ih l) n
def over {α:Type}(vs:List α):List α->List α:=List.rec (fun cs=>cs) (fun v _ ih cs=>List.casesOn cs [] fun _ cs=>v::ih cs) vs
def setR {α:Type}(off:Nat):List α->List α->List α:=Nat.rec (fun vs cs=>over vs cs) (fun _ ih vs cs=>List.casesOn cs [] fun c cs=>c::ih vs cs) off
def rj (agg:Bool):Nat->Nat->List AV->Option AV:=
 Bool.casesOn agg (fun sz off cs=>cond (Nat.beq sz 1) (pT off cs) none)
  (fun sz off cs=>cond (Nat.ble (Nat.add off sz) (len cs)) (some (.agg (tke sz (drp off cs)))) none)
def chunk (agg:Bool)(sz:Nat)(n:Nat):List AV->Option (List AV):=
 Nat.rec (fun _=>some []) (fun _ ih cs=>aD (rj agg sz 0 cs) fun v=>aD (ih (drp sz cs)) fun r=>some (v::r)) n
def ew (sz:Nat)(l:List AV):Bool:=List.rec true (fun e _ ih=>and (Nat.beq (len e.cells) sz) ih) l
def fy (l:List AV):Bool:=List.rec true (fun e _ ih=>and e.lies ih) l
def afr (o:fD):Option (Nat×Nat×Bool×List AV×Nat):=
 match o with
 |.row g sz agg cs fz=>some (g,sz,agg,cs,fz)
 |_=>none
def iS (h:AH)(k g sz:Nat):Option (Bool×List AV×Nat):=
 aD (h.get k) fun o=>aD (afr o) fun r=>cond (and (Nat.beq g r.1) (Nat.beq r.2.1 sz)) (some r.2.2) none
def iU (x:AV):AH->Nat->Option (List AV):=
 match x with
 |.nl=>fun _ _=>some []
 |.ls es=>fun _ sz=>cond (ew sz es) (some es) none
 |.clip es=>fun _ sz=>cond (ew sz es) (some es) none
 |.row k g sz' off n=>fun h sz=>cond (Nat.beq sz' sz) (aD (iS h k g sz) fun r=>chunk r.1 sz n (drp (Nat.mul off sz) r.2.1)) none
 |_=>fun _ _=>none
def flat (l:List AV):List AV:=List.rec [] (fun v _ ih=>app v.cells ih) l
def adL (n:Int):Option Nat:=Int.casesOn n (fun m=>some m) (fun _=>none)
def adK (v:AV):Option Nat:=
 match v with
 |.int _ n=>adL n
 |_=>none
def asIdx (v:AV)(bound:Nat):Option Nat:=aD (adK v) fun m=>cond (Nat.blt m bound) (some m) none
def lB (v:AV)(bound:Nat):Option Nat:=aD (adK v) fun m=>cond (Nat.ble m bound) (some m) none
def TK (k:IntKind):Nat:=IntKind.casesOn k 0 1 2 3 4 5 6 7
def TZ (a b:IntKind):Bool:=Nat.beq (TK a) (TK b)
def Dq (a b:Int):Bool:=
 Int.casesOn a (fun m=>Int.casesOn b (fun n=>Nat.beq m n) (fun _=>false)) (fun m=>Int.casesOn b (fun _=>false) (fun n=>Nat.beq m n))
def leI (a b:Int):Bool:=
 Int.casesOn a (fun m=>Int.casesOn b (fun n=>Nat.ble m n) (fun _=>false)) (fun m=>Int.casesOn b (fun _=>true) (fun n=>Nat.ble n m))
def adP (a:List UInt8):List UInt8->Bool:=
 List.rec (fun b=>List.casesOn b true fun _ _=>false) (fun x _ ih b=>List.casesOn b false fun y b=>and (Nat.beq x.toNat y.toNat) (ih b)) a
def Dp (a b:ByteArray):Bool:=adP a.data.toList b.data.toList
def zX (v:AV):Option (IntKind×Int):=
 match v with
 |.int k n=>some (k,n)
 |_=>none
def CW (v:AV):Option Bool:=
 match v with
 |.bool b=>some b
 |_=>none
def zf (x:AV):Option ByteArray:=
 match x with
 |.str s=>some s
 |_=>none
def eM (t:Nat)(a b:AV):Option Bool:=
 cond (Nat.beq t 1) (aD (zX a) fun p=>aD (zX b) fun q=>cond (TZ p.1 q.1) (some (Dq p.2 q.2)) none)
  (cond (Nat.beq t 2) (aD (zf a) fun p=>aD (zf b) fun q=>some (Dp p q))
   (aD (CW a) fun p=>aD (CW b) fun q=>some (mq p q)))
def pQ (l:List (Nat×Nat)):List AV->List AV->Option Bool:=
 List.rec (fun _ _=>some true) (fun o _ ih a b=>aD (pT o.1 a) fun x=>aD (pT o.1 b) fun y=>aD (eM o.2 x y) fun s=>cond s (ih a b) (some false)) l
def ZN (v:AV):Nat:=
 match v with
 |.nilp=>0
 |.ptr _ _ _=>1
 |.vptr _=>1
 |_=>2
def afy (l:List AV):Nat:=List.casesOn l 2 fun _ _=>1
def adI (v:AV):Nat:=
 match v with
 |.nl=>0
 |.row _ _ _ _ n=>Nat.casesOn n 2 fun _=>1
 |.ls l=>afy l
 |.clip l=>afy l
 |_=>2
def ZO (v:AV):Nat:=
 match v with
 |.nilm=>0
 |.map _=>1
 |_=>2
def ZP (v:AV):Nat:=
 match v with
 |.nilf=>0
 |.fn _ _ _=>1
 |_=>2
def Fy (v:AV):Nat:=
 match v with
 |.nili=>0
 |.ifc _ _=>1
 |_=>2
def sT (a b:Nat):Option Bool:=
 cond (Nat.beq (Nat.add a b) 0) (some true) (cond (Nat.beq (Nat.add a b) 1) (some false) none)
def Hz (v:AV):Option (List AV):=
 match v with
 |.agg l=>some l
 |_=>none
def Hj (v:AV):Option (AV×AV):=aD (Hz v) fun l=>List.casesOn l none fun a l=>List.casesOn l none fun b l=>List.casesOn l (some (a,b)) fun _ _=>none
def cN (t:Nat)(a b:AV):Option Bool:=
 cond (Nat.beq t 3) (aD (Hj a) fun p=>aD (Hj b) fun q=>aD (eM 1 p.1 q.1) fun s=>cond s (eM 1 p.2 q.2) (some false)) (eM t a b)
def lL (l:List (AV×AV)):Nat->AV->Option (Option AV):=
 List.rec (fun _ _=>some none) (fun e _ ih t k=>aD (cN t k e.1) fun b=>cond b (some (some e.2)) (ih t k)) l
def rb (l:List (AV×AV)):Nat->AV->AV->List (AV×AV):=
 List.rec (fun _ k v=>[(k,v)]) (fun e l ih t k v=>Option.casesOn (cN t k e.1) (e::ih t k v) fun b=>cond b ((k,v)::l) (e::ih t k v)) l
def adM (e:EqK):AV->AV->Option Bool:=
 match e with
 |.boolK=>fun x y=>eM 0 x y
 |.num=>fun _ _=>none
 |.ptr=>fun x y=>sT (ZN x) (ZN y)
 |.slice=>fun x y=>cond (Nat.beq (adI y) 0) (sT (adI x) 0) none
 |.map=>fun x y=>sT (ZO x) (ZO y)
 |.func=>fun x y=>sT (ZP x) (ZP y)
 |.iface c=>fun x y=>cond (or c (Nat.beq (Nat.add (Fy x) (Fy y)) 1)) (sT (Fy x) (Fy y)) none
 |.struct l=>fun x y=>aD (Hz x) fun a=>aD (Hz y) fun b=>pQ l a b
def GU (k:IntKind)(n:Int):AV:=.int k (k.wrap n)
def WV (n:Int):AV:=
 Int.casesOn n (fun m=>cond (Nat.blt m 9223372036854775808) (.int .i64 (.ofNat m)) (GU .i64 (.ofNat m)))
  (fun m=>cond (Nat.blt m 9223372036854775808) (.int .i64 (.negSucc m)) (GU .i64 (.negSucc m)))
def sO (k:IntKind)(n:Int):AV:=cond (Nat.beq (TK k) 3) (WV n) (GU k n)
def BJ (k:IntKind)(r:BitVec k.bits):Option AV:=some (GU k r.toNat)
def pA (op:BinOp):IntKind->Int->Int->Option AV:=
 match op with
 |.add=>fun k a b=>some (sO k (Int.add a b))
 |.sub=>fun k a b=>some (sO k (Int.sub a b))
 |.mul=>fun k a b=>some (sO k (Int.mul a b))
 |.quo=>fun k a b=>cond (Dq b 0) none (some (sO k (Int.tdiv a b)))
 |.rem=>fun k a b=>cond (Dq b 0) none (some (.int k (Int.tmod a b)))
 |.eql=>fun _ a b=>some (.bool (Dq a b))
 |.neq=>fun _ a b=>some (.bool (not (Dq a b)))
 |.lss=>fun _ a b=>some (.bool (not (leI b a)))
 |.leq=>fun _ a b=>some (.bool (leI a b))
 |.gtr=>fun _ a b=>some (.bool (not (leI a b)))
 |.geq=>fun _ a b=>some (.bool (leI b a))
 |.and=>fun k a b=>BJ k (BitVec.ofInt k.bits a &&& BitVec.ofInt k.bits b)
 |.or=>fun k a b=>BJ k (BitVec.ofInt k.bits a ||| BitVec.ofInt k.bits b)
 |.xor=>fun k a b=>BJ k (BitVec.ofInt k.bits a ^^^ BitVec.ofInt k.bits b)
 |.andNot=>fun k a b=>BJ k (BitVec.ofInt k.bits a &&& ~~~(BitVec.ofInt k.bits b))
 |.shl=>fun k a b=>aD (adL b) fun m=>some (GU k (a*2 ^ (min m k.bits)))
 |.shr=>fun k a b=>aD (adL b) fun m=>some (.int k (a.fdiv (2 ^ (min m k.bits))))
def Hl (a b:ByteArray):Bool:=Op.bytesLess a.data.toList b.data.toList
def CG (op:BinOp):ByteArray->ByteArray->Option AV:=
 match op with
 |.add=>fun a b=>cond (Nat.blt 9223372036854775807 (Nat.add a.size b.size)) none (some (.str (a++b)))
 |.eql=>fun a b=>some (.bool (Dp a b))
 |.neq=>fun a b=>some (.bool (not (Dp a b)))
 |.lss=>fun a b=>some (.bool (Hl a b))
 |.leq=>fun a b=>some (.bool (or (Hl a b) (Dp a b)))
 |.gtr=>fun a b=>some (.bool (not (or (Hl a b) (Dp a b))))
 |.geq=>fun a b=>some (.bool (not (Hl a b)))
 |_=>fun _ _=>none
def pP (op:BinOp):Bool:=
 match op with
 |.shl=>true
 |.shr=>true
 |_=>false
def Zd (op:BinOp):EqK->AV->AV->Option AV:=
 match op with
 |.eql=>fun e x y=>aD (adM e x y) fun b=>some (.bool b)
 |.neq=>fun e x y=>aD (adM e x y) fun b=>some (.bool (not b))
 |_=>fun _ _ _=>none
def aiG (y:AV):BinOp->EqK->IntKind->Int->Option AV:=
 match y with
 |.int k' b=>fun op _ k a=>cond (or (pP op) (TZ k k')) (pA op k a b) none
 |_=>fun _ _ _ _=>none
def aiF (y:AV):BinOp->EqK->ByteArray->Option AV:=
 match y with
 |.str b=>fun op _ a=>CG op a b
 |_=>fun _ _ _=>none
def qJ (x:AV):BinOp->EqK->AV->Option AV:=
 match x with
 |.int k a=>fun op e y=>aiG y op e k a
 |.str a=>fun op e y=>aiF y op e a
 |x=>fun op e y=>Zd op e x y
def fillA (l:List (Nat×Nat×AV)):List AV->Option (List AV):=
 List.rec (fun cs=>some cs) (fun p _ ih cs=>
  cond (and (Nat.beq (len p.2.2.cells) p.2.1) (and (Nat.ble (Nat.add p.1 p.2.1) (len cs)) p.2.2.lies)) (ih (setR p.1 p.2.2.cells cs)) none) l
def rY (n:Nat)(z:List AV):List AV:=Nat.rec [] (fun _ ih=>app z ih) n
end
inductive RC where
 |no
 |ret
 |pend (v:AV)
 |done
inductive DF where
 |call (f:AV) (args:List AV)
 |mark (k:Nat)
structure AC where
 dfs:List DF
 rc:RC
 rnd:Option Nat
 fid:FuncId
structure AF where
 tm:Tm
 cx:AC
inductive dH where
 |ret (v:AV)
 |pan (v:AV)
inductive OpR where
 |val (v:AV) (h:AH)
 |call (f:AV) (args:List AV)
 |rcv
 |dfr (f:AV) (args:List AV)
 |pan (v:AV)
 |bad
noncomputable section
def okV (r:Option AV):AH->OpR:=Option.casesOn r (fun _=>.bad) (fun v h=>.val v h)
def okH (r:Option AH):OpR:=Option.casesOn r .bad (fun h=>.val (.tup []) h)
def qG (r:Option (AV×AH)):OpR:=Option.casesOn r .bad (fun p=>.val p.1 p.2)
def aaV (o:fD):Option (List (AV×AV)):=
 match o with
 |.map es=>some es
 |_=>none
def BG (h:AH)(k:Nat):Option (List (AV×AV)):=aD (h.get k) aaV
def lenOf (x:AV):AH->Nat->Option Nat:=
 match x with
 |.str s=>fun _ k=>cond (Nat.beq k 0) (some s.size) none
 |.nl=>fun _ k=>cond (or (Nat.beq k 1) (Nat.beq k 3)) (some 0) none
 |.ls es=>fun _ k=>cond (Nat.beq k 1) (some (len es)) none
 |.clip es=>fun _ k=>cond (Nat.beq k 1) (some (len es)) none
 |.row _ _ _ _ n=>fun _ k=>cond (Nat.beq k 1) (some n) none
 |.nilm=>fun _ k=>cond (Nat.beq k 2) (some 0) none
 |.map r=>fun h k=>cond (Nat.beq k 2) (aD (BG h r) fun es=>some (len es)) none
 |_=>fun _ _=>none
def loadAt (o:fD):Bool->Nat->Nat->Nat->Option AV:=
 match o with
 |.box cs=>fun agg sz g off=>cond (Nat.beq g 0) (rj agg sz off cs) none
 |.row g' _ _ cs _=>fun agg sz g off=>cond (Nat.beq g g') (rj agg sz off cs) none
 |_=>fun _ _ _ _=>none
def cj (x:AV):AH->Bool->Nat->Option AV:=
 match x with
 |.vptr v=>fun _ agg sz=>cond (and (mq v.isAgg agg) (Nat.beq (len v.cells) sz)) (some v) none
 |.ptr k g off=>fun h agg sz=>aD (h.get k) fun o=>loadAt o agg sz g off
 |_=>fun _ _ _=>none
def storeAt (o:fD):Nat->Nat->List AV->Option fD:=
 match o with
 |.box cs=>fun g off vs=>cond (and (Nat.beq g 0) (Nat.ble (Nat.add off (len vs)) (len cs))) (some (.box (setR off vs cs))) none
 |.row g' n agg cs fz=>fun g off vs=>cond (and (Nat.beq g g') (and (Nat.ble fz off) (Nat.ble (Nat.add off (len vs)) (len cs))))
   (some (.row g' n agg (setR off vs cs) fz)) none
 |_=>fun _ _ _=>none
def dQ (a:AV):AH->Nat->AV->Option AH:=
 match a with
 |.ptr k g off=>fun h sz v=>cond (and (Nat.beq (len v.cells) sz) v.lies)
   (aD (h.get k) fun o=>aD (storeAt o g off v.cells) fun o=>some (h.set k o)) none
 |_=>fun _ _ _=>none
def fJ (h:AH)(agg:Bool)(sz bytes:Nat)(z:List AV)(l c:AV):Option (AV×AH):=
 aD (lB l 9223372036854775807) fun n=>aD (lB c 9223372036854775807) fun m=>
  cond (and (Nat.beq n m) (and (Nat.ble (Nat.mul n bytes) 140737488355328) (Nat.beq (len z) sz)))
   (some (.row h.z 0 sz 0 n,h.new (.row 0 sz agg (rY n z) 0))) none
def xt (o:Option AX):Tm->Nat->Nat->Option Nat:=Option.casesOn o (fun _ d _=>some d) (fun x tm _ b=>lB (ev x tm) b)
def BV (x:AV):Option Nat:=
 match x with
 |.nl=>some 0
 |.ls es=>some (len es)
 |.clip es=>some (len es)
 |.row _ _ _ _ n=>some n
 |_=>none
def akY (a b:Nat):Nat:=cond (Nat.ble a b) b a
def zi (x:AV):AH->Nat->Nat->Nat->Option (AV×AH):=
 match x with
 |.nl=>fun h _ _ _=>some (.nl,h)
 |.ls es=>fun h sz l hb=>cond (ew sz es) (some (.ls (tke (Nat.sub hb l) (drp l es)),h)) none
 |.clip es=>fun h sz l hb=>cond (ew sz es) (some (.ls (tke (Nat.sub hb l) (drp l es)),h)) none
 |.row k g sz' off _=>fun h sz l hb=>cond (Nat.beq sz' sz) (some (.row k g sz (Nat.add off l) (Nat.sub hb l),h)) none
 |_=>fun _ _ _ _=>none
def Zf (x:AV):AH->Nat->Nat->Nat->Option (AV×AH):=
 match x with
 |.nl=>fun h _ _ _=>some (.nl,h)
 |.ls es=>fun h sz l hb=>cond (ew sz es) (some (.clip (tke (Nat.sub hb l) (drp l es)),h)) none
 |.clip es=>fun h sz l hb=>cond (ew sz es) (some (.clip (tke (Nat.sub hb l) (drp l es)),h)) none
 |.row k g sz' off _=>fun h sz l hb=>cond (Nat.beq sz' sz) (aD (iS h k g sz) fun r=>
   aD (chunk r.1 sz (Nat.sub hb l) (drp (Nat.mul (Nat.add off l) sz) r.2.1)) fun es=>
    some (.clip es,h.set k (.row g sz r.1 r.2.1 (akY r.2.2 (Nat.mul (Nat.add off hb) sz))))) none
 |_=>fun _ _ _ _=>none
def fq (h:AH)(sz:Nat)(x:AV)(tm:Tm)(lo hi mx:Option AX):Option (AV×AH):=
 aD (BV x) fun n=>aD (xt hi tm n n) fun hb=>aD (xt lo tm 0 hb) fun l=>
  Option.casesOn mx (zi x h sz l hb) fun m=>aD hi fun _=>aD (lB (ev m tm) n) fun m=>cond (Nat.beq m hb) (Zf x h sz l hb) none
def gQ (x:AV)(tm:Tm)(lo hi:Option AX):Option AV:=
 aD (zf x) fun s=>aD (xt hi tm s.size s.size) fun hb=>aD (xt lo tm 0 hb) fun l=>some (.str (s.extract l hb))
def OL (r:Option AV):AV->Bool->AV:=
 Option.casesOn r (fun z ok=>cond ok (.tup [z,.bool false]) z) (fun v _ ok=>cond ok (.tup [v,.bool true]) v)
def aio (m:AV):AH->Nat->AV->Option (Option AV):=
 match m with
 |.nilm=>fun _ _ _=>some none
 |.map k=>fun h t i=>aD (BG h k) fun es=>lL es t i
 |_=>fun _ _ _=>none
def fm (h:AH)(t:Nat)(z:AV)(ok:Bool)(m i:AV):Option AV:=
 aD (cN t i i) fun _=>aD (aio m h t i) fun r=>some (OL r z ok)
def afp (m:AV):Option Nat:=
 match m with
 |.map k=>some k
 |_=>none
def fK (h:AH)(t:Nat)(m k v:AV):Option AH:=
 aD (afp m) fun r=>aD (BG h r) fun es=>aD (cN t k k) fun _=>aD (lL es t k) fun _=>some (h.set r (.map (rb es t k v)))
def need (n m bytes:Nat):Bool:=and (Nat.ble (Nat.mul (Nat.add (Nat.mul 2 (Nat.add n m)) 1000) bytes) 140737488355328) (Nat.ble (Nat.add n m) 9223372036854775807)
def pS (s:AV):AH->Option (AV×AH):=
 match s with
 |.nl=>fun h=>some (.nl,h)
 |.ls es=>fun h=>some (.ls es,h)
 |.clip es=>fun h=>some (.clip es,h)
 |.row k g sz off n=>fun h=>some (.row k g sz off n,h)
 |_=>fun _=>none
def jw (s:AV):AH->Nat->Bool->Nat->List AV->Option (AV×AH):=
 match s with
 |.nl=>fun h sz agg bytes xs=>cond (need 0 (len xs) bytes) (some (.row h.z 0 sz 0 (len xs),h.new (.row 0 sz agg (flat xs) 0))) none
 |.clip es=>fun h sz agg bytes xs=>cond (and (need (len es) (len xs) bytes) (and (ew sz es) (fy es)))
   (some (.row h.z 0 sz 0 (Nat.add (len es) (len xs)),h.new (.row 0 sz agg (app (flat es) (flat xs)) 0))) none
 |.row k g sz' off n=>fun h sz agg bytes xs=>cond (Nat.beq sz' sz) (aD (iS h k g sz) fun r=>
   cond (and (mq r.1 agg) (and (Nat.ble r.2.2 (Nat.mul (Nat.add off n) sz)) (and (Nat.ble (Nat.mul (Nat.add off n) sz) (len r.2.1)) (need n (len xs) bytes))))
    (some (.row k (Nat.succ g) sz 0 (Nat.add n (len xs)),
     h.set k (.row (Nat.succ g) sz agg (app (tke (Nat.mul n sz) (drp (Nat.mul off sz) r.2.1)) (flat xs)) (Nat.sub r.2.2 (Nat.mul off sz))))) none) none
 |_=>fun _ _ _ _ _=>none
def cU (h:AH)(sz:Nat)(agg:Bool)(z:List AV)(bytes:Nat)(s x:AV):Option (AV×AH):=
 aD (iU x h sz) fun xs=>cond (and (fy xs) (Nat.beq (len z) sz)) (List.casesOn xs (pS s h) fun y ys=>jw s h sz agg bytes (y::ys)) none
def aiQ (d:AV):AH->Nat->List AV->Option (AV×AH):=
 match d with
 |.nl=>fun h _ _=>some (.int .i64 0,h)
 |.row k g sz' off n=>fun h sz xs=>cond (Nat.beq sz' sz) (aD (iS h k g sz) fun r=>
   cond (and (Nat.ble r.2.2 (Nat.mul off sz)) (Nat.ble (Nat.mul (Nat.add off n) sz) (len r.2.1)))
    (some (.int .i64 (.ofNat (rZ (len xs) n)),h.set k (.row g sz r.1 (setR (Nat.mul off sz) (flat (tke (rZ (len xs) n) xs)) r.2.1) r.2.2))) none) none
 |_=>fun _ _ _=>none
def Zc (h:AH)(sz:Nat)(d x:AV):Option (AV×AH):=aD (iU x h sz) fun xs=>cond (fy xs) (aiQ d h sz xs) none
def OY (d:AV):AH->Nat->List AV->Option AH:=
 match d with
 |.nl=>fun h _ _=>some h
 |.row k g sz' off n=>fun h sz z=>cond (Nat.beq sz' sz) (aD (iS h k g sz) fun r=>
   cond (and (Nat.beq (len z) sz) (and (Nat.ble r.2.2 (Nat.mul off sz)) (Nat.ble (Nat.mul (Nat.add off n) sz) (len r.2.1))))
    (some (h.set k (.row g sz r.1 (setR (Nat.mul off sz) (rY n z) r.2.1) r.2.2))) none) none
 |_=>fun _ _ _=>none
def Hi (less:Bool)(m n:Int):Int:=cond less (cond (leI m n) m n) (cond (leI n m) m n)
def xP (l:List AV):Bool->IntKind->Int->Option AV:=
 List.rec (fun _ k m=>some (.int k m)) (fun x _ ih less k m=>aD (zX x) fun p=>ih less k (Hi less m p.2)) l
def CJ (less:Bool)(l:List AV):Option AV:=List.casesOn l none fun x l=>aD (zX x) fun p=>xP l less p.1 p.2
def Fx {β:Type}(l:List AV)(no:β)(k:AV->β):β:=List.casesOn l no fun x l=>List.casesOn l (k x) fun _ _=>no
def ZM {β:Type}(l:List AV)(no:β)(k:AV->AV->β):β:=List.casesOn l no fun x l=>Fx l no fun y=>k x y
def tB (b:ABI):AH->List AV->OpR:=
 match b with
 |.len k=>fun h args=>Fx args .bad fun x=>okV (aD (lenOf x h k) fun n=>some (.int .i64 (.ofNat n))) h
 |.append sz agg z bytes=>fun h args=>ZM args .bad fun s x=>qG (cU h sz agg z bytes s x)
 |.copy sz _=>fun h args=>ZM args .bad fun d x=>qG (Zc h sz d x)
 |.clear sz z=>fun h args=>Fx args .bad fun d=>okH (OY d h sz z)
 |.max=>fun h args=>okV (CJ false args) h
 |.min=>fun h args=>okV (CJ true args) h
 |.recover=>fun _ _=>.rcv
def oe (c:AV):AH->AV->AV->OpR:=
 match c with
 |.bool c=>fun h a b=>.val (cond c a b) h
 |_=>fun _ _ _=>.bad
def dB (h:AH)(n:Nat)(v:AV):OpR:=cond (and (Nat.beq (len v.cells) n) v.lies) (.val (.ptr h.z 0 0) (h.new (.box v.cells))) .bad
def eO (l:List (Nat×Nat×AX)):Tm->List (Nat×Nat×AV):=List.rec (fun _=>[]) (fun p _ ih tm=>(p.1,p.2.1,ev p.2.2 tm)::ih tm) l
def cD (l:List (Nat×AX)):Tm->Nat->List (Nat×Nat×AV):=List.rec (fun _ _=>[]) (fun p _ ih tm sz=>(Nat.mul p.1 sz,sz,ev p.2 tm)::ih tm sz) l
def bT (h:AH)(z:List AV)(ps:List (Nat×Nat×AV)):OpR:=Option.casesOn (fillA ps z) .bad fun cs=>.val (.agg cs) h
def fY (frz agg:Bool)(sz:Nat)(z:List AV)(n:Nat)(ps:List (Nat×Nat×AV))(h:AH):OpR:=
 Option.casesOn (fillA ps (rY n z)) .bad fun cs=>
  cond frz (Option.casesOn (chunk agg sz n cs) .bad fun es=>.val (.clip es) h) (.val (.row h.z 0 sz 0 n) (h.new (.row 0 sz agg cs 0)))
def iK (v:AV):AH->OpR:=
 match v with
 |.ptr k g o=>fun h=>.val (.ptr k g o) h
 |.vptr v=>fun h=>.val (.vptr v) h
 |.fn f a b=>fun h=>.val (.fn f a b) h
 |_=>fun _=>.bad
def ZR (op:UnOp):AV->Option AV:=
 match op with
 |.neg=>fun v=>aD (zX v) fun p=>some (sO p.1 (Int.sub 0 p.2))
 |.not=>fun v=>aD (CW v) fun b=>some (.bool (not b))
 |_=>fun _=>none
def BH (k:IntKind)(v:AV):Option AV:=aD (zX v) fun p=>some (sO k p.2)
def rR (v:AV):Option AV:=aD (zf v) fun s=>some (.str s)
def cp (v:AV):AH->Nat->Nat->Bool->OpR:=
 match v with
 |.ptr k g off=>fun h o _ _=>.val (.ptr k g (Nat.add off o)) h
 |.vptr w=>fun h o sz agg=>okV (aD (Hz w) fun cs=>aD (rj agg sz o cs) fun v=>some (.vptr v)) h
 |_=>fun _ _ _ _=>.bad
def vS (v:AV)(o sz:Nat)(agg:Bool):Option AV:=aD (Hz v) fun cs=>rj agg sz o cs
def TI (es:List AV)(sz:Nat)(i:AV):Option AV:=
 aD (adK i) fun n=>aD (pT n es) fun v=>cond (Nat.beq (len v.cells) sz) (some (.vptr v)) none
def cz (x:AV):AH->Nat->AV->OpR:=
 match x with
 |.ls es=>fun h sz i=>okV (TI es sz i) h
 |.clip es=>fun h sz i=>okV (TI es sz i) h
 |.row k g sz' off n=>fun h sz i=>okV (cond (Nat.beq sz' sz) (aD (asIdx i n) fun n=>some (.ptr k g (Nat.mul (Nat.add off n) sz))) none) h
 |_=>fun _ _ _=>.bad
def fV (x:AV):AH->Nat->Nat->Bool->OpR:=
 match x with
 |.ptr k g off=>fun h n sz _=>.val (.ptr k g (Nat.add off (Nat.mul n sz))) h
 |.vptr w=>fun h n sz agg=>okV (aD (Hz w) fun cs=>aD (rj agg sz (Nat.mul n sz) cs) fun v=>some (.vptr v)) h
 |_=>fun _ _ _ _=>.bad
def mH (x i:AV):Option AV:=
 aD (zf x) fun s=>aD (adK i) fun n=>aD (pT n s.data.toList) fun b=>some (.int .u8 (.ofNat b.toNat))
def rS (n sz:Nat)(agg:Bool)(x i:AV):Option AV:=
 aD (Hz x) fun cs=>aD (asIdx i n) fun n=>rj agg sz (Nat.mul n sz) cs
def lh (x:AV):TypeId->AV->Bool->Option AV:=
 match x with
 |.ifc t' v=>fun t z ok=>cond (Nat.beq t' t) (some (cond ok (.tup [v,.bool true]) v)) (cond ok (some (.tup [z,.bool false])) none)
 |.nili=>fun _ z ok=>cond ok (some (.tup [z,.bool false])) none
 |_=>fun _ _ _=>none
def TV (v:AV):Option (List AV):=
 match v with
 |.tup l=>some l
 |_=>none
def jv (x:AV):OpR:=
 match x with
 |.ifc t v=>.pan (.ifc t v)
 |_=>.bad
def evOp (op:AOp):Tm->AH->OpR:=
 match op with
 |.mv x=>fun tm h=>.val (ev x tm) h
 |.pick c a b=>fun tm h=>oe (ev c tm) h (ev a tm) (ev b tm)
 |.new z=>fun _ h=>.val (.ptr h.z 0 0) (h.new (.box z))
 |.box n x=>fun tm h=>dB h n (ev x tm)
 |.build z ps=>fun tm h=>bT h z (eO ps tm)
 |.lit frz agg sz z n ps=>fun tm h=>fY frz agg sz z n (cD ps tm sz) h
 |.load agg sz x=>fun tm h=>okV (cj (ev x tm) h agg sz) h
 |.store sz a x=>fun tm h=>okH (dQ (ev a tm) h sz (ev x tm))
 |.nilChk x=>fun tm h=>iK (ev x tm) h
 |.bin op e x y=>fun tm h=>okV (qJ (ev x tm) op e (ev y tm)) h
 |.un op x=>fun tm h=>okV (ZR op (ev x tm)) h
 |.convInt k x=>fun tm h=>okV (BH k (ev x tm)) h
 |.convId x=>fun tm h=>okV (rR (ev x tm)) h
 |.mkIface t x=>fun tm h=>.val (.ifc t (ev x tm)) h
 |.mkFn f a b=>fun tm h=>.val (.fn f (evs a tm) (evs b tm)) h
 |.mkMap=>fun _ h=>.val (.map h.z) (h.new (.map []))
 |.mkSlice agg sz bytes z l c=>fun tm h=>qG (fJ h agg sz bytes z (ev l tm) (ev c tm))
 |.slice str sz x lo hi mx=>fun tm h=>cond str (okV (gQ (ev x tm) tm lo hi) h) (qG (fq h sz (ev x tm) tm lo hi mx))
 |.faddr o sz agg x=>fun tm h=>cp (ev x tm) h o sz agg
 |.field o sz agg x=>fun tm h=>okV (vS (ev x tm) o sz agg) h
 |.iaddr sz x i=>fun tm h=>cz (ev x tm) h sz (ev i tm)
 |.iaddrA n sz agg x i=>fun tm h=>Option.casesOn (asIdx (ev i tm) n) .bad fun n=>fV (ev x tm) h n sz agg
 |.strIdx x i=>fun tm h=>okV (mH (ev x tm) (ev i tm)) h
 |.arrIdx n sz agg x i=>fun tm h=>okV (rS n sz agg (ev x tm) (ev i tm)) h
 |.lookup t z x i ok=>fun tm h=>okV (fm h t z ok (ev x tm) (ev i tm)) h
 |.mapUp t m k v=>fun tm h=>okH (fK h t (ev m tm) (ev k tm) (ev v tm))
 |.assert t z x ok=>fun tm h=>okV (lh (ev x tm) t z ok) h
 |.extract x i=>fun tm h=>okV (aD (TV (ev x tm)) fun l=>pT i l) h
 |.builtin b args=>fun tm h=>tB b h (evs args tm)
 |.call f args=>fun tm _=>.call (ev f tm) (evs args tm)
 |.defer f args=>fun tm _=>.dfr (ev f tm) (evs args tm)
 |.panic x=>fun tm _=>jv (ev x tm)
end
abbrev aQ:=AV->List AV->RC->AH->Option (dH×RC×AH)
abbrev RX:=Option (AEx×AF×AH)
noncomputable section
def adJ {α:Type}(l:List α):Bool:=List.casesOn l true fun _ _=>false
def wantV (v:AV):Bool->Option Bool:=
 match v with
 |.bool c=>fun b=>some (mq c b)
 |.tup l=>fun _=>cond (adJ l) (some false) none
 |_=>fun _=>none
def wants (g:Option (Nat×Bool)):Tm->Option Bool:=Option.casesOn g (fun _=>some true) (fun p tm=>wantV (nth tm p.1) p.2)
def AF.put (fr:AF)(d:Option Nat)(v:AV):AF:=AF.casesOn fr fun tm cx=>⟨ez d tm v,cx⟩
def aah (rc:RC):Option Nat->AF->AH->RX:=
 match rc with
 |.pend v=>fun d fr h=>some (.normal,⟨ez d fr.tm v,⟨fr.cx.dfs,.done,fr.cx.rnd,fr.cx.fid⟩⟩,h)
 |.ret=>fun d fr h=>some (.normal,fr.put d .nili,h)
 |.done=>fun d fr h=>some (.normal,fr.put d .nili,h)
 |.no=>fun _ _ _=>none
def Hn (d:Option Nat)(fr:AF)(h:AH):RX:=Option.casesOn fr.cx.rnd (aah fr.cx.rc d fr h) fun _=>none
def ahA (v:AV):Bool:=
 match v with
 |.fn _ _ _=>true
 |_=>false
def TN (d:Option Nat)(f:AV)(args:List AV)(fr:AF)(h:AH):RX:=
 Option.casesOn fr.cx.rnd (cond (ahA f) (some (.normal,⟨ez d fr.tm (.tup []),⟨.call f args::fr.cx.dfs,fr.cx.rc,fr.cx.rnd,fr.cx.fid⟩⟩,h)) none) fun _=>none
def outBy (o:dH):Option Nat->AF->AH->RX:=
 match o with
 |.ret v=>fun d fr h=>some (.normal,fr.put d v,h)
 |.pan v=>fun _ fr h=>some (.panic v,fr,h)
def TL (d:Option Nat)(fr:AF)(r:Option (dH×RC×AH)):RX:=aD r fun p=>outBy p.1 d fr p.2.2
def jh (r:OpR):aQ->Option Nat->AF->AH->RX:=
 match r with
 |.val v h=>fun _ d fr _=>some (.normal,fr.put d v,h)
 |.call f args=>fun call d fr h=>TL d fr (call f args .no h)
 |.rcv=>fun _ d fr h=>Hn d fr h
 |.dfr f args=>fun _ d fr h=>TN d f args fr h
 |.pan v=>fun _ _ fr h=>some (.panic v,fr,h)
 |.bad=>fun _ _ _ _=>none
def dL (o:aV)(call:aQ)(fr:AF)(h:AH):RX:=
 aD (wants o.guard fr.tm) fun w=>cond w (jh (evOp o.op fr.tm h) call o.dst fr h) (some (.normal,fr.put o.dst (.tup []),h))
def exBy (e:AEx):AF->AH->(AF->AH->RX)->RX:=
 match e with
 |.normal=>fun fr h k=>AF.casesOn fr fun tm cx=>AH.casesOn h fun n l o=>k ⟨tm,cx⟩ ⟨n,l,o⟩
 |.exit id=>fun fr h _=>some (.exit id,fr,h)
 |.ret=>fun fr h _=>some (.ret,fr,h)
 |.panic v=>fun fr h _=>some (.panic v,fr,h)
def andThen (r:RX)(k:AF->AH->RX):RX:=aD r fun p=>exBy p.1 p.2.1 p.2.2 k
def sQ (l:List aV):aQ->AF->AH->RX:=
 List.rec (fun _ fr h=>some (.normal,fr,h)) (fun o _ ih call fr h=>andThen (dL o call fr h) (ih call)) l
end
mutual
def AV.beq:AV->AV->Bool
 |.bool a,.bool b=>a==b
 |.int k a,.int k' b=>k==k'&&a==b
 |.str a,.str b=>a==b
 |.nilp,.nilp=>true
 |.ptr k g o,.ptr k' g' o'=>Nat.beq k k'&&Nat.beq g g'&&Nat.beq o o'
 |.vptr v,.vptr v'=>AV.beq v v'
 |.nl,.nl=>true
 |.ls a,.ls b=>AV.beqs a b
 |.clip a,.clip b=>AV.beqs a b
 |.row k g z o n,.row k' g' z' o' n'=>Nat.beq k k'&&Nat.beq g g'&&Nat.beq z z'&&Nat.beq o o'&&Nat.beq n n'
 |.nilm,.nilm=>true
 |.map k,.map k'=>Nat.beq k k'
 |.fn f a b,.fn f' a' b'=>Nat.beq f f'&&AV.beqs a a'&&AV.beqs b b'
 |.yld l,.yld l'=>Nat.beq l l'
 |.nilf,.nilf=>true
 |.ifc t v,.ifc t' v'=>Nat.beq t t'&&AV.beq v v'
 |.nili,.nili=>true
 |.agg a,.agg b=>AV.beqs a b
 |.tup a,.tup b=>AV.beqs a b
 |_,_=>false
def AV.beqs:List AV->List AV->Bool
 |[],[]=>true
 |a::l,b::m=>AV.beq a b&&AV.beqs l m
 |_,_=>false
end
structure Rd where
 tm:Tm
 op:AOp
 v:AV
 lo:Nat
 hi:Nat
structure DS where
 fr:AF
 h:AH
 nk:Nat
 hs:List AH
 rds:List Rd
noncomputable section
def pH (r:OpR):AV->Bool:=
 match r with
 |.val u _=>fun v=>AV.beq u v
 |_=>fun _=>false
def gJ (l:List AH):Rd->Nat->Bool:=
 List.rec (fun _ _=>true) (fun h _ ih r m=>and (or (Nat.blt m r.lo) (or (Nat.blt r.hi m) (pH (evOp r.op r.tm h) r.v))) (ih r (Nat.succ m))) l
def rdsOk (l:List Rd):List AH->Bool:=List.rec (fun _=>true) (fun r _ ih hs=>and (gJ hs r 0) (ih hs)) l
def xX (l:List (aV×DI)):Tm->Tm:=List.rec (fun tm=>tm) (fun p _ ih tm=>ih (ez p.1.dst tm .any)) l
def birth (op:AOp):AH->AH:=
 match op with
 |.new z=>fun h=>h.new (.box z)
 |_=>fun h=>h
def kK (l:List (aV×DI)):AH->AH:=List.rec (fun h=>h) (fun p _ ih h=>ih (birth p.1.op h)) l
def Bo (s:DS):RX:=cond (rdsOk s.rds s.hs) (some (.normal,s.fr,s.h)) none
def jW (e:AEx):DS->AF->(DS->RX)->RX:=
 match e with
 |.normal=>fun s fr k=>k ⟨fr,s.h,s.nk,s.hs,s.rds⟩
 |_=>fun _ _ _=>none
def lV (r:OpR):DS->aV->DI->(DS->RX)->RX:=
 match r with
 |.val v _=>fun s o d k=>k ⟨s.fr.put o.dst v,s.h,s.nk,s.hs,cond (Nat.beq d.lo d.hi) s.rds (⟨s.fr.tm,o.op,v,d.lo,d.hi⟩::s.rds)⟩
 |_=>fun _ _ _ _=>none
def EY (s:DS)(o:aV)(d:DI)(k:DS->RX):RX:=
 aD (wants o.guard s.fr.tm) fun w=>cond w (lV (evOp o.op s.fr.tm s.h) s o d k) (k ⟨s.fr.put o.dst (.tup []),s.h,s.nk,s.hs,s.rds⟩)
def rK (c:Cls):aQ->aV->DI->DS->(DS->RX)->RX:=
 match c with
 |.born=>fun _ o _ s k=>k ⟨s.fr.put o.dst (.ptr s.nk 0 0),s.h,Nat.succ s.nk,s.hs,s.rds⟩
 |.acts=>fun _ _ _ _ _=>none
 |.still=>fun call o _ s k=>aD (dL o call s.fr s.h) fun p=>jW p.1 s p.2.1 k
 |.reads=>fun _ o d s k=>EY s o d k
def evRest (l:List (aV×DI)):aQ->Nat->DS->RX:=
 List.rec (fun _ _ s=>Bo s) (fun p _ ih call c s=>cond (Nat.blt c p.2.lo) (cond (Hr p.1.op.cls) none (ih call c s)) (rK p.1.op.cls call p.1 p.2 s (ih call c))) l
def Pa (call:aQ)(all tl:List (aV×DI))(fin:Bool)(s:DS)(v:AV)(fr:AF)(h:AH):RX:=
 cond fin (cond (rdsOk s.rds s.hs) (some (.panic v,⟨xX all fr.tm,fr.cx⟩,h)) none) (aD (evRest tl call (Nat.pred (len s.hs)) s) fun _=>some (.panic v,⟨xX all fr.tm,fr.cx⟩,h))
def vU (e:AEx):aQ->List (aV×DI)->List (aV×DI)->Bool->DS->AF->AH->(DS->RX)->RX:=
 match e with
 |.normal=>fun _ _ _ _ s fr h k=>k ⟨fr,h,s.nk,s.hs++[h],s.rds⟩
 |.panic v=>fun call all tl fin s fr h _=>Pa call all tl fin s v fr h
 |_=>fun _ _ _ _ _ _ _ _=>none
def oR (c:Cls):aQ->List (aV×DI)->List (aV×DI)->aV->DI->DS->(DS->RX)->RX:=
 match c with
 |.born=>fun _ _ _ o _ s k=>k ⟨s.fr.put o.dst (.ptr s.nk 0 0),s.h,Nat.succ s.nk,s.hs,s.rds⟩
 |.acts=>fun call all tl o d s k=>aD (dL o call s.fr s.h) fun p=>vU p.1 call all tl d.fin s p.2.1 p.2.2 k
 |.still=>fun call _ _ o _ s k=>aD (dL o call s.fr s.h) fun p=>jW p.1 s p.2.1 k
 |.reads=>fun _ _ _ o d s k=>EY s o d k
def ji (l:List (aV×DI)):aQ->List (aV×DI)->DS->RX:=
 List.rec (fun _ _ s=>Bo s) (fun p tl ih call all s=>oR p.1.op.cls call all tl p.1 p.2 s (ih call all)) l
def sZ (ops:List (aV×DI))(fr:AF)(h:AH):DS:=⟨fr,kK ops h,h.z,[kK ops h],[]⟩
def Tj (n:Nat):(AF->AH->RX)->AF->AH->RX:=
 Nat.rec (fun _ _ _=>none) (fun _ ih step fr h=>andThen (step fr h) (ih step)) n
def oa (ps:List Nat):List AV->Tm->Tm:=List.rec (fun _ tm=>tm) (fun p _ ih as tm=>List.casesOn as tm fun a as=>ih as (tm.put p a)) ps
def gO {β:Type}(o:fD)(no:β):(LoopState->Option AEx->Tm->List Nat->aF->aF->FuncId->β)->β:=
 match o with
 |.loop st pend tm ps as b f=>fun k=>k st pend tm ps as b f
 |_=>fun _=>no
def rE (fr:AF)(ps:List Nat)(as b:aF)(h:AH):Option (Nat×List DF×AH):=
 Option.casesOn fr.cx.rnd (some (Nat.succ h.z,[.mark h.z],(h.new (.dfd false)).new (.loop .ready none fr.tm ps as b fr.cx.fid)))
  fun l=>aD (h.get l) fun o=>gO o none fun _ _ _ _ _ _ _=>some (h.z,[],h.new (.loop .ready none fr.tm ps as b fr.cx.fid))
def rB (s:LoopState):Bool:=LoopState.casesOn s false true false false
def OP (s:LoopState):Bool:=LoopState.casesOn s true false false false
def pO (fr:AF)(l:Nat)(h:AH):RX:=
 aD (h.get l) fun o=>gO o none fun st pend tm ps as b f=>
  cond (rB st) none (Option.casesOn pend (some (.normal,fr,h.set l (.loop .exhausted none tm ps as b f)))
   fun e=>some (e,fr,h.set l (.loop .exhausted (some e) tm ps as b f)))
def wA (o:dH):AF->Nat->AH->RX:=
 match o with
 |.ret _=>fun fr l h=>pO fr l h
 |.pan v=>fun fr _ h=>some (.panic v,fr,h)
def xV (mk:List DF)(fr:AF):AF:=⟨fr.tm,⟨mk++fr.cx.dfs,fr.cx.rc,fr.cx.rnd,fr.cx.fid⟩⟩
def OX (call:aQ)(f:AX)(ps:List Nat)(as b:aF)(fr:AF)(h:AH):RX:=
 aD (rE fr ps as b h) fun p=>aD (call (ev f fr.tm) [.yld p.1] .no p.2.2) fun q=>wA q.1 (xV p.2.1 fr) p.1 q.2.2
def Iy (c:AV):(AF->AH->RX)->(AF->AH->RX)->AF->AH->RX:=
 match c with
 |.bool t=>fun a b fr h=>cond t (a fr h) (b fr h)
 |_=>fun _ _ _ _=>none
def aaT (e:AEx):Nat->AEx:=
 match e with
 |.exit j=>fun id=>cond (Nat.beq j id) .normal (.exit j)
 |e=>fun _=>e
def aaS (id:Nat)(r:RX):RX:=aD r fun p=>some (aaT p.1 id,p.2.1,p.2.2)
def evCode (c:aF):aQ->Nat->AF->AH->RX:=
 aF.rec
  (fun _ _ fr h=>some (.normal,fr,h))
  (fun ops call _ fr h=>sQ ops call fr h)
  (fun ops call _ fr h=>ji ops call ops (sZ ops fr h))
  (fun _ _ a b call n fr h=>andThen (a call n fr h) (b call n))
  (fun c _ _ a b call n fr h=>Iy (ev c fr.tm) (a call n) (b call n) fr h)
  (fun id _ a call n fr h=>aaS id (a call n fr h))
  (fun _ a call n fr h=>Tj n (a call n) fr h)
  (fun f ps as b _ _ call _ fr h=>OX call f ps as b fr h)
  (fun id _ _ fr h=>some (.exit id,fr,h))
  (fun _ a call n fr h=>a call n fr h)
  (fun _ _ fr h=>some (.ret,fr,h))
  c
end
inductive Md where
 |returning
 |panicking (v:AV)
noncomputable section
def Ze (rc:RC):Md->AH->Option (Md×AH):=
 match rc with
 |.ret=>fun m h=>match m with
  |.returning=>some (.returning,h)
  |.panicking _=>none
 |.done=>fun m h=>match m with
  |.returning=>none
  |.panicking _=>some (.returning,h)
 |.pend _=>fun m h=>match m with
  |.returning=>none
  |.panicking v=>some (.panicking v,h)
 |.no=>fun _ _=>none
def Ip (o:dH):RC->Md->AH->Option (Md×AH):=
 match o with
 |.ret _=>fun rc m h=>Ze rc m h
 |.pan _=>fun _ _ _=>none
def ahv (m:Md):RC:=
 match m with
 |.returning=>.ret
 |.panicking v=>.pend v
def afv (o:fD):Option Bool:=
 match o with
 |.dfd t=>some t
 |_=>none
def aaY (d:DF):aQ->Md->AH->Option (Md×AH):=
 match d with
 |.mark k=>fun _ m h=>aD (h.get k) fun o=>aD (afv o) fun t=>cond t none (some (m,h.set k (.dfd true)))
 |.call f as=>fun call m h=>aD (call f as (ahv m) h) fun q=>Ip q.1 q.2.1 m q.2.2
def kJ (l:List DF):aQ->Md->AH->Option (Md×AH):=
 List.rec (fun _ m h=>some (m,h)) (fun d _ ih call m h=>aD (aaY d call m h) fun p=>ih call p.1 p.2) l
def Io (r:bK):Tm->AH->Option AV:=
 match r with
 |.tmp t=>fun tm _=>some (nth tm t)
 |.cell a agg sz=>fun tm h=>cj (nth tm a) h agg sz
def hO (l:List bK):Tm->AH->Option (List AV):=
 List.rec (fun _ _=>some []) (fun r _ ih tm h=>aD (Io r tm h) fun v=>aD (ih tm h) fun vs=>some (v::vs)) l
def one (l:List AV):AV:=Fx l (.tup l) fun v=>v
def Th (f:AV->AV)(l:List AV):List AV:=List.rec [] (fun x _ ih=>f x::ih) l
def mU (h:AH)(v:AV)(k g sz off n:Nat)(f:AV->AV):AV:=
 Option.casesOn (aD (h.get k) afr) v fun r=>
  cond (and (Nat.beq g r.1) (Nat.beq sz r.2.1)) (Option.casesOn (chunk r.2.2.1 r.2.1 n (drp (Nat.mul off r.2.1) r.2.2.2.1)) v fun es=>.ls (Th f es)) v
def frz1 (v:AV):AH->Nat->(AV->AV)->AV:=
 match v with
 |.agg cs=>fun _ _ f=>.agg (Th f cs)
 |.tup vs=>fun _ _ f=>.tup (Th f vs)
 |.row k g sz off n=>fun h base f=>cond (Nat.ble base k) (mU h (.row k g sz off n) k g sz off n f) (.row k g sz off n)
 |v=>fun _ _ _=>v
def frz (n:Nat):AH->Nat->AV->AV:=Nat.rec (fun _ _ v=>v) (fun _ ih h base v=>frz1 v h base (ih h base)) n
def letGo (h0 h:AH)(rc:RC)(v:AV):Option (dH×RC×AH):=
 cond (Nat.ble h0.z h.low) (some (.ret (frz 4 h h0.z v),rc,⟨h.z,h0.low,h0.objs⟩)) (some (.ret v,rc,⟨h.z,rZ h.low h0.low,h.objs⟩))
def Im (pure:Bool)(h0 h:AH)(rc:RC)(vs:List AV):Option (dH×RC×AH):=
 cond pure (letGo h0 h rc (one vs)) (some (.ret (one vs),rc,h))
def lowBack (pure:Bool)(h0 h:AH):AH:=cond pure ⟨h.z,rZ h.low h0.low,h.objs⟩ h
def aft (m:Md):Bool->AH->xr->AF->AH->Option (dH×RC×AH):=
 match m with
 |.returning=>fun pure h0 fn fr h=>aD (hO fn.results fr.tm h) fun vs=>Im pure h0 h fr.cx.rc vs
 |.panicking v=>fun pure h0 _ fr h=>some (.pan v,fr.cx.rc,lowBack pure h0 h)
def xg (call:aQ)(pure:Bool)(h0:AH)(fn:xr)(fr:AF)(m:Md)(h:AH):Option (dH×RC×AH):=
 aD (kJ fr.cx.dfs call m h) fun p=>aft p.1 pure h0 fn fr p.2
end
structure Env where
 cf:FuncId->Option xr
 pure:FuncId->Bool
noncomputable section
def cT (as:List AV):Tm:=Tr.ofList as
def lowered (pure:Bool)(h:AH):AH:=cond pure ⟨h.z,h.z,h.objs⟩ h
def fnEx (e:AEx):aQ->Bool->AH->xr->AF->AH->Option (dH×RC×AH):=
 match e with
 |.normal=>fun call pure h0 fn fr h=>xg call pure h0 fn fr .returning h
 |.ret=>fun call pure h0 fn fr h=>xg call pure h0 fn fr .returning h
 |.panic v=>fun call pure h0 fn fr h=>xg call pure h0 fn fr (.panicking v) h
 |.exit _=>fun _ _ _ _ _ _=>none
def lE (E:Env)(call:aQ)(n:Nat)(f:FuncId)(as:List AV)(rc:RC)(h:AH):Option (dH×RC×AH):=
 aD (E.cf f) fun fn=>aD (evCode fn.body call n ⟨cT as,⟨[],rc,none,f⟩⟩ (lowered (E.pure f) h)) fun p=>fnEx p.1 call (E.pure f) h fn p.2.1 p.2.2
def mO (h:AH)(l:Nat)(st:LoopState)(pend:Option AEx):Option AH:=
 aD (h.get l) fun o=>gO o none fun _ _ tm ps as b f=>some (h.set l (.loop st pend tm ps as b f))
def ug (b:Bool)(h:Option AH):Option (dH×RC×AH):=aD h fun h=>some (.ret (.bool b),.no,h)
def ZU (e:AEx):Nat->AH->Option (dH×RC×AH):=
 match e with
 |.normal=>fun l h=>ug true (mO h l .ready none)
 |.ret=>fun l h=>ug false (mO h l .done (some .ret))
 |.exit id=>fun l h=>ug false (mO h l .done (some (.exit id)))
 |.panic v=>fun _ h=>some (.pan v,.no,h)
def oE (h:AH)(l:Nat):Option AH:=
 aD (h.get l) fun o=>gO o none fun st pend tm ps as b f=>cond (OP st) (some (h.set l (.loop .busy pend tm ps as b f))) none
def EN (e:AEx):Bool:=
 match e with
 |.normal=>true
 |_=>false
def Aa (call:aQ)(n:Nat)(l:Nat)(b:aF)(r:RX):Option (dH×RC×AH):=
 aD r fun p=>cond (EN p.1) (aD (oE p.2.2 l) fun h=>aD (evCode b call n p.2.1 h) fun q=>cond (adJ q.2.1.cx.dfs) (ZU q.1 l q.2.2) none) none
def zh (call:aQ)(n:Nat)(l:Nat)(args:List AV)(h:AH):Option (dH×RC×AH):=
 aD (h.get l) fun o=>gO o none fun _ _ tm ps as b f=>
  cond (Nat.beq (len args) (len ps)) (Aa call n l b (evCode as call n ⟨oa ps args tm,⟨[],.no,some l,f⟩⟩ h)) none
def isNo (r:RC):Bool:=
 match r with
 |.no=>true
 |_=>false
def wZ (fv:AV):Env->aQ->Nat->List AV->RC->AH->Option (dH×RC×AH):=
 match fv with
 |.fn f first caps=>fun E call n args rc h=>lE E call n f (app first (app args caps)) rc h
 |.yld l=>fun _ call n args rc h=>cond (isNo rc) (zh call n l args h) none
 |_=>fun _ _ _ _ _ _=>none
end
