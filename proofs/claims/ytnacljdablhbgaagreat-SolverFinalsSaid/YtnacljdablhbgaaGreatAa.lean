/- AbsGo: binary tries over the natural numbers, with their laws (plain data; no condition). Written by recursors, so that the kernel evaluates them quickly. -/
import GoSem.Step
import Derived.Orders
noncomputable section
namespace Go.AG
theorem wO {α:Type}{l:List α}{i:Nat}(h:i<l.length):l[i]?=some l[i]:=List.getElem?_eq_getElem h
theorem wS {α:Type}{l:List α}{i:Nat}{a:α}(h:l[i]?=some a):a∈l:=List.mem_of_getElem? h
theorem Fv (n:Nat):n<=n:=Nat.le_refl n
theorem HD {p:Prop}[i:Decidable p](h:¬p):decide p=false:=decide_eq_false h
theorem HE {p:Prop}[i:Decidable p](h:p):decide p=true:=decide_eq_true h
theorem waa {α β:Type}{l:List α}(f:α->β):(l.map f).length=l.length:=List.length_map f
theorem wab {α:Type}(l:List α):l++[]=l:=List.append_nil l
theorem wac (n:Nat):0+n=n:=Nat.zero_add n
theorem wad {c:Prop}{h:Decidable c}(n:¬c){α:Type}{t e:α}:ite c t e=e:=if_neg n
theorem wae {c:Prop}{h:Decidable c}(n:c){α:Type}{t e:α}:ite c t e=t:=if_pos n
theorem waf {α:Type}{o:Option α}:o≠none↔∃x,o=some x:=Option.ne_none_iff_exists'
theorem wag {α:Type}{a:α}{l:List α}:a∈l↔∃i,∃h:i<l.length,l[i]=a:=List.mem_iff_getElem
theorem wah {α:Type}{l:List α}{i:Nat}{a:α}:l[i]?=some a↔∃h:i<l.length,l[i]=a:=List.getElem?_eq_some_iff
inductive Tr (α:Type) where
 |lf
 |nd (v:Option α) (l r:Tr α)
theorem Dr {a b:Nat}(h:a≠b):Nat.beq a b=false:=by
 cases e:Nat.beq a b with
 |false=>rfl
 |true=>exact absurd (Nat.eq_of_beq_eq_true e) h
namespace Tr
variable {α:Type}
def get (t:Tr α):Nat->Option α:=
 Tr.rec (fun _=>none) (fun v _ _ gl gr n=>cond (Nat.beq n 0) v (cond (Nat.beq (Nat.mod n 2) 1) (gl (Nat.div n 2)) (gr (Nat.pred (Nat.div n 2))))) t
def Dp (f:Nat):Tr α->Nat->α->Tr α:=
 Nat.rec (fun t _ _=>t) (fun _ pf t=>Tr.casesOn t
  (fun n x=>cond (Nat.beq n 0) (.nd (some x) .lf .lf) (cond (Nat.beq (Nat.mod n 2) 1) (.nd none (pf .lf (Nat.div n 2) x) .lf) (.nd none .lf (pf .lf (Nat.pred (Nat.div n 2)) x))))
  (fun v l r n x=>cond (Nat.beq n 0) (.nd (some x) l r) (cond (Nat.beq (Nat.mod n 2) 1) (.nd v (pf l (Nat.div n 2) x) r) (.nd v l (pf r (Nat.pred (Nat.div n 2)) x))))) f
def put (t:Tr α)(n:Nat)(x:α):Tr α:=Dp (Nat.succ n) t n x
def my (l:List α):Nat->Tr α->Tr α:=
 List.rec (fun _ t=>t) (fun x _ ih n t=>ih (Nat.succ n) (put t n x)) l
def ofList (l:List α):Tr α:=my l 0 .lf
theorem adN (n:Nat):(Tr.lf:Tr α).get n=none:=rfl
theorem Av (v:Option α)(l r:Tr α)(n:Nat):
  (Tr.nd v l r).get n=cond (Nat.beq n 0) v (cond (Nat.beq (n % 2) 1) (l.get (n / 2)) (r.get (n / 2-1))):=rfl
theorem WH (f:Nat)(v:Option α)(l r:Tr α)(n:Nat)(x:α):Dp (f+1) (.nd v l r) n x =
  cond (Nat.beq n 0) (.nd (some x) l r) (cond (Nat.beq (n % 2) 1) (.nd v (Dp f l (n / 2) x) r) (.nd v l (Dp f r (n / 2-1) x))):=rfl
theorem WI (f:Nat)(n:Nat)(x:α):Dp (f+1) .lf n x =
  cond (Nat.beq n 0) (.nd (some x) .lf .lf) (cond (Nat.beq (n % 2) 1) (.nd none (Dp f .lf (n / 2) x) .lf) (.nd none .lf (Dp f .lf (n / 2-1) x))):=rfl
theorem Oy (f:Nat):∀(t:Tr α) (n m:Nat) (x:α),n<f->(Dp f t n x).get m=if m=n then some x else t.get m:=by
 induction f with
 |zero=>intro t n m x h;omega
 |succ f ih=>
  intro t n m x h;have key:∀(v:Option α) (l r:Tr α),
    (cond (Nat.beq n 0) (Tr.nd (some x) l r) (cond (Nat.beq (n % 2) 1) (.nd v (Dp f l (n / 2) x) r) (.nd v l (Dp f r (n / 2-1) x)))).get m
     = if m=n then some x else (Tr.nd v l r).get m:=by
   intro v l r;by_cases h0:n=0
   ·subst h0;simp only[Nat.beq_refl,cond_true,Av];by_cases hm:m=0
    ·subst hm;simp
    ·have:Nat.beq m 0=false:=Dr hm;simp[this,hm]
   ·have b0:Nat.beq n 0=false:=Dr h0;simp only[b0,cond_false];by_cases h1:n % 2=1
    ·simp only[h1,Nat.beq_refl,cond_true,Av];by_cases hm:m=0
     ·subst hm;simp[Ne.symm h0]
     ·have bm:Nat.beq m 0=false:=Dr hm;simp only[bm,cond_false];by_cases hm1:m % 2=1
      ·simp only[hm1,Nat.beq_refl,cond_true];rw[ih _ _ _ _ (by omega)];by_cases e:m=n
       ·simp[e]
       ·rw[if_neg (by omega),if_neg e]
      ·have:Nat.beq (m % 2) 1=false:=Dr hm1;simp only[this,cond_false];rw[if_neg (by intro e;subst e;exact hm1 h1)]
    ·have b1:Nat.beq (n % 2) 1=false:=Dr h1;simp only[b1,cond_false,Av];by_cases hm:m=0
     ·subst hm;simp[Ne.symm h0]
     ·have bm:Nat.beq m 0=false:=Dr hm;simp only[bm,cond_false];by_cases hm1:m % 2=1
      ·simp only[hm1,Nat.beq_refl,cond_true];rw[if_neg (by intro e;subst e;exact h1 hm1)]
      ·have:Nat.beq (m % 2) 1=false:=Dr hm1;simp only[this,cond_false];rw[ih _ _ _ _ (by omega)];by_cases e:m=n
       ·simp[e]
       ·rw[if_neg (by omega),if_neg e]
  cases t with
  |nd v l r=>rw[WH];exact key v l r
  |lf=>
   have h1:=key none .lf .lf;have h2:(Tr.nd (α:=α) none .lf .lf).get m=(Tr.lf:Tr α).get m:=by
    simp only[Av,adN];cases Nat.beq m 0<;>cases Nat.beq (m % 2) 1<;>rfl
   rw[h2]at h1;rw[<-h1,WI]
theorem get_put (t:Tr α)(n m:Nat)(x:α):(t.put n x).get m=if m=n then some x else t.get m:=
 Oy _ _ _ _ _ (Nat.lt_succ_self n)
theorem cB (t:Tr α)(n:Nat)(x:α):(t.put n x).get n=some x:=by simp[get_put]
theorem cA (t:Tr α){n m:Nat}(x:α)(h:m≠n):(t.put n x).get m=t.get m:=by simp[get_put,h]
theorem tU (l:List α):∀(n:Nat) (t:Tr α) (m:Nat),
  (my l n t).get m=if n<=m/\m<n+l.length then l[m-n]? else t.get m:=by
 induction l with
 |nil=>intro n t m;rw[if_neg (by simp only[List.length_nil];omega)];rfl
 |cons x l ih=>
  intro n t m;have e:my (x::l) n t=my l (n+1) (t.put n x):=rfl;rw[e,ih,get_put];simp only[List.length_cons];by_cases h:n+1<=m/\m<n+1+l.length
  ·rw[if_pos h,if_pos (by omega)];have:m-n=(m-(n+1))+1:=by omega
   rw[this,List.getElem?_cons_succ]
  ·rw[if_neg h];by_cases e:m=n
   ·subst e;simp
   ·rw[if_neg e,if_neg (by omega)]
theorem get_ofList (l:List α)(m:Nat):(ofList l).get m=l[m]?:=by
 unfold ofList;rw[tU];simp only[Nat.zero_le,true_and,Nat.zero_add,Nat.sub_zero];by_cases h:m<l.length
 ·rw[if_pos h]
 ·rw[if_neg h,List.getElem?_eq_none (by omega)];rfl
end Tr
inductive AV where
 |bool (b:Bool)
 |int (k:IntKind) (n:Int)
 |str (s:ByteArray)
 |nilp
 |ptr (k g off:Nat)
 |vptr (v:AV)
 |nl
 |ls (es:List AV)
 |clip (es:List AV)
 |row (k g sz off len:Nat)
 |nilm
 |map (k:Nat)
 |fn (f:FuncId) (first caps:List AV)
 |yld (l:Nat)
 |nilf
 |ifc (t:TypeId) (v:AV)
 |nili
 |agg (cs:List AV)
 |tup (vs:List AV)
 |any
 deriving Inhabited
def AV.cells:AV->List AV
 |.agg cs=>cs
 |v=>[v]
def AV.isAgg:AV->Bool
 |.agg _=>true
 |_=>false
def AV.isCell:AV->Bool
 |.agg _|.tup _|.any=>false
 |_=>true
def AV.lies:AV->Bool
 |.tup _|.any=>false
 |_=>true
inductive AX where
 |t (n:Nat)
 |c (v:AV)
 deriving Inhabited
inductive EqK where
 |boolK
 |num
 |ptr
 |slice
 |map
 |func
 |iface (c:Bool)
 |struct (offs:List (Nat×Nat))
 deriving Inhabited
inductive ABI where
 |len (k:Nat)
 |append (sz:Nat) (agg:Bool) (zero:List AV) (bytes:Nat)
 |copy (sz:Nat) (agg:Bool)
 |recover
 |max
 |min
 |clear (sz:Nat) (zero:List AV)
 deriving Inhabited
inductive AOp where
 |mv (x:AX)
 |pick (c a b:AX)
 |new (zero:List AV)
 |box (n:Nat) (x:AX)
 |build (zero:List AV) (parts:List (Nat×Nat×AX))
 |lit (frz agg:Bool) (sz:Nat) (zero:List AV) (len:Nat) (parts:List (Nat×AX))
 |load (agg:Bool) (sz:Nat) (x:AX)
 |store (sz:Nat) (a x:AX)
 |nilChk (x:AX)
 |bin (op:BinOp) (eqk:EqK) (x y:AX)
 |un (op:UnOp) (x:AX)
 |convInt (k:IntKind) (x:AX)
 |convId (x:AX)
 |mkIface (t:TypeId) (x:AX)
 |mkFn (f:FuncId) (first caps:List AX)
 |mkMap
 |mkSlice (agg:Bool) (sz bytes:Nat) (zero:List AV) (len cap:AX)
 |slice (str:Bool) (sz:Nat) (x:AX) (lo hi mx:Option AX)
 |faddr (off sz:Nat) (agg:Bool) (x:AX)
 |field (off sz:Nat) (agg:Bool) (x:AX)
 |iaddr (sz:Nat) (x i:AX)
 |iaddrA (len sz:Nat) (agg:Bool) (x i:AX)
 |strIdx (x i:AX)
 |arrIdx (len sz:Nat) (agg:Bool) (x i:AX)
 |lookup (kt:Nat) (zero:AV) (x i:AX) (ok:Bool)
 |mapUp (kt:Nat) (m k v:AX)
 |assert (t:TypeId) (zero:AV) (x:AX) (ok:Bool)
 |extract (x:AX) (i:Nat)
 |builtin (b:ABI) (args:List AX)
 |call (f:AX) (args:List AX)
 |defer (f:AX) (args:List AX)
 |panic (x:AX)
 deriving Inhabited
inductive Cls where
 |still
 |reads
 |born
 |acts
 deriving DecidableEq
def AOp.cls:AOp->Cls
 |.load _ _ _|.lookup _ _ _ _ _|.builtin (.len _) _=>.reads
 |.new _=>.born
 |.box _ _|.lit false _ _ _ _ _|.store _ _ _|.mkMap|.mkSlice _ _ _ _ _ _|.slice _ _ _ _ _ (some _)
 |.mapUp _ _ _ _|.builtin (.append _ _ _ _) _|.builtin (.copy _ _) _|.builtin .recover _|.builtin (.clear _ _) _
 |.call _ _|.defer _ _|.panic _=>.acts
 |_=>.still
structure aX where
 dst:Option Nat
 op:AOp
 guard:Option (Nat×Bool)
 deriving Inhabited
structure DI where
 lo:Nat
 hi:Nat
 fin:Bool
 deriving Inhabited
inductive aw where
 |skip
 |region (ops:List aX)
 |draw (ops:List (aX×DI))
 |seq (a b:aw)
 |cond (c:AX) (a b:aw)
 |block (id:Nat) (a:aw)
 |loop (a:aw)
 |rangeFunc (f:AX) (params:List Nat) (assign body:aw)
 |exit (id:Nat)
 |scope (a:aw)
 |ret
 deriving Inhabited
inductive bF where
 |tmp (t:Nat)
 |cell (a:Nat) (agg:Bool) (sz:Nat)
 deriving Inhabited
structure tC where
 ntmps:Nat
 results:List bF
 body:aw
 deriving Inhabited
noncomputable section
def aq {α β:Type}(o:Option α):(α->Option β)->Option β:=Option.casesOn o (fun _=>none) (fun a k=>k a)
def jx {α β:Type}(f:α->Option β)(l:List α):Option (List β):=
 List.rec (some []) (fun a _ ih=>aq (f a) fun b=>aq ih fun r=>some (b::r)) l
def ZC (d:TypeDesc):Tr TypeInfo->Option TypeDesc:=
 match d with
 |.named _ u=>fun T=>aq (T.get u) fun i=>some i.desc
 |d=>fun _=>some d
def und (T:Tr TypeInfo)(t:TypeId):Option TypeDesc:=aq (T.get t) fun i=>ZC i.desc T
def aggD (d:TypeDesc):Bool:=
 match d with
 |.struct _=>true
 |.array _ _=>true
 |_=>false
def cn (T:Tr TypeInfo)(t:TypeId):Bool:=Option.casesOn (und T t) false aggD
def szT (T:Tr TypeInfo)(t:TypeId):Option Nat:=aq (T.get t) fun i=>aq (ZC i.desc T) fun _=>some i.size
def ofSl (a:Option Addr):Nat->Nat->Option AV:=
 match a with
 |none=>fun l c=>bif Nat.beq l 0&&Nat.beq c 0 then some .nl else none
 |some _=>fun _ _=>none
def ofFn (f:Fn):Array Value->Array Value->Option AV:=
 match f with
 |.func f=>fun a b=>bif Nat.beq a.toList.length 0&&Nat.beq b.toList.length 0 then some (.fn f [] []) else none
 |_=>fun _ _=>none
def aO (l:List AV):Bool:=List.rec true (fun a _ ih=>a.isCell&&ih) l
mutual
def ofV (v:Value):Option AV:=
 match v with
 |.bool b=>some (.bool b)
 |.int k n=>some (.int k n)
 |.string s=>some (.str s)
 |.pointer a=>match a with
  |none=>some .nilp
  |some _=>none
 |.slice a l c=>ofSl a l c
 |.map r=>match r with
  |none=>some .nilm
  |some _=>none
 |.nilFunc=>some .nilf
 |.nilIface=>some .nili
 |.func f a b=>ofFn f a b
 |.agg ⟨cs⟩=>aq (MH cs) fun l=>bif aO l then some (.agg l) else none
 |.tuple ⟨vs⟩=>aq (MH vs) fun l=>some (.tup l)
 |.iface t v=>aq (ofV v) fun a=>some (.ifc t a)
 |_=>none
def MH (l:List Value):Option (List AV):=
 match l with
 |[]=>some []
 |v::l=>aq (ofV v) fun a=>aq (MH l) fun r=>some (a::r)
end
def oG (a:Bool):Bool->Bool:=Bool.casesOn a (fun b=>Bool.casesOn b true false) (fun b=>b)
def jS (T:Tr TypeInfo)(t:TypeId):Option AV:=
 aq (T.get t) fun i=>aq i.zero fun z=>aq (ofV z) fun v=>
  bif Nat.beq v.cells.length i.size&&aO v.cells&&oG v.isAgg (cn T t) then some v else none
def cX (x:Operand):Option AX:=
 match x with
 |.tmp t=>some (.t t)
 |.const v=>aq (ofV v) fun a=>some (.c a)
 |.global _=>none
 |.func f=>some (.c (.fn f [] []))
def isC (x:Operand):Bool:=
 match x with
 |.const _=>true
 |_=>false
def LU (d:TypeDesc):Option Nat:=
 match d with
 |.bool=>some 0
 |.int _=>some 1
 |.string=>some 2
 |_=>none
def mq (T:Tr TypeInfo)(f:Field):Option (Nat×Nat):=
 if f.name = "_" then none else aq (und T f.type) fun d=>aq (LU d) fun k=>aq (szT T f.type) fun _=>some (f.offset,k)
def eqD (d:TypeDesc):Program->Tr TypeInfo->TypeId->Bool->Option EqK:=
 match d with
 |.bool=>fun _ _ _ _=>some .boolK
 |.int _=>fun _ _ _ _=>some .num
 |.string=>fun _ _ _ _=>some .num
 |.pointer e=>fun _ T _ _=>aq (szT T e) fun n=>bif Nat.beq n 0 then none else some .ptr
 |.slice _=>fun _ _ _ _=>some .slice
 |.map _ _=>fun _ _ _ _=>some .map
 |.func _ _ _=>fun _ _ _ _=>some .func
 |.interface _=>fun _ _ _ c=>some (.iface c)
 |.struct fs=>fun P T t _=>bif P.stoodInHeld t||P.eqGuardType P.depth t then none else
   aq (jx (mq T) fs.toList) fun l=>some (.struct l)
 |_=>fun _ _ _ _=>none
def eqK (P:Program)(T:Tr TypeInfo)(t:TypeId)(c:Bool):Option EqK:=aq (und T t) fun d=>eqD d P T t c
def cXs (l:Array Operand):Option (List AX):=jx cX l.toList
def nJ (o:Option Operand):Option (Option AX):=Option.casesOn o (some none) fun x=>aq (cX x) fun a=>some (some a)
def Wg (d:TypeDesc):Option (Array Field):=
 match d with
 |.struct fs=>some fs
 |_=>none
def acW (d:TypeDesc):Option TypeId:=
 match d with
 |.slice e=>some e
 |_=>none
def MS (T:Tr TypeInfo)(t:TypeId):Option (Array Field):=aq (und T t) Wg
def rG (T:Tr TypeInfo)(t:TypeId):Option TypeId:=aq (und T t) acW
def Hh (T:Tr TypeInfo)(fs:List Field)(p:Nat×Operand):Option (Nat×Nat×AX):=
 aq fs[p.1]? fun f=>aq (szT T f.type) fun n=>aq (cX p.2) fun x=>some (f.offset,n,x)
def Hi (n:Nat)(p:Nat×Operand):Option (Nat×Nat×AX):=aq (cX p.2) fun x=>some (p.1*n,n,x)
def Yt (T:Tr TypeInfo)(z:AV)(ps:List (Nat×Operand))(fs:Array Field):Option AOp:=
 aq (jx (fun f=>szT T f.type) fs.toList) fun _=>aq (jx (Hh T fs.toList) ps) fun ps=>some (.build z.cells ps)
def Yv (T:Tr TypeInfo)(z:AV)(ps:List (Nat×Operand))(e:TypeId):Option AOp:=
 aq (szT T e) fun n=>aq (jx (Hi n) ps) fun ps=>some (.build z.cells ps)
def Yu (d:TypeDesc):Tr TypeInfo->AV->List (Nat×Operand)->Option AOp:=
 match d with
 |.struct fs=>fun T z ps=>Yt T z ps fs
 |.array _ e=>fun T z ps=>Yv T z ps e
 |_=>fun _ _ _=>none
def TP (T:Tr TypeInfo)(t:TypeId)(parts:Array (Nat×Operand)):Option AOp:=
 aq (jS T t) fun z=>aq (und T t) fun d=>Yu d T z parts.toList
def CU (p:Nat×Operand):Option (Nat×AX):=aq (cX p.2) fun x=>some (p.1,x)
def cLit (T:Tr TypeInfo)(frz:Bool)(t:TypeId)(len:Nat)(parts:Array (Nat×Operand)):Option AOp:=
 aq (rG T t) fun e=>aq (szT T e) fun n=>aq (jS T e) fun z=>aq (jx CU parts.toList) fun ps=>
  bif Nat.ble (len*n) 16777216&&Nat.blt 0 n then some (.lit frz (cn T e) n z.cells len ps) else none
def lenD (d:TypeDesc):Option Nat:=
 match d with
 |.string=>some 0
 |.slice _=>some 1
 |.map _ _=>some 2
 |_=>none
def kC (T:Tr TypeInfo)(tys:Array TypeId)(i:Nat):Option TypeId:=aq tys.toList[i]? fun t=>rG T t
def ru (b:Builtin):Tr TypeInfo->Array TypeId->List AX->Option AOp:=
 match b with
 |.len=>fun T tys args=>aq tys.toList[0]? fun t=>aq (und T t) fun d=>aq (lenD d) fun k=>some (.builtin (.len k) args)
 |.append=>fun T tys args=>aq (kC T tys 0) fun e=>aq (kC T tys 1) fun _=>aq (szT T e) fun n=>aq (jS T e) fun z=>aq (T.get e) fun i=>
   bif Nat.blt 0 n then some (.builtin (.append n (cn T e) z.cells i.bytes) args) else none
 |.copy=>fun T tys args=>aq (kC T tys 0) fun e=>aq (kC T tys 1) fun _=>aq (szT T e) fun n=>
   bif Nat.blt 0 n then some (.builtin (.copy n (cn T e)) args) else none
 |.clear=>fun T tys args=>aq (kC T tys 0) fun e=>aq (szT T e) fun n=>aq (jS T e) fun z=>
   bif Nat.blt 0 n then some (.builtin (.clear n z.cells) args) else none
 |.recover=>fun _ _ args=>some (.builtin .recover args)
 |.max=>fun _ _ args=>some (.builtin .max args)
 |.min=>fun _ _ args=>some (.builtin .min args)
 |_=>fun _ _ _=>none
def mU (T:Tr TypeInfo)(t:TypeId)(f:Nat):Option (Nat×Nat×Bool):=
 aq (MS T t) fun fs=>aq fs.toList[f]? fun f=>aq (szT T f.type) fun n=>
  bif Nat.blt 0 n then some (f.offset,n,cn T f.type) else none
def abn (agg:Bool)(n:Nat):Bool:=agg||Nat.beq n 1
def intK (d:TypeDesc):Option IntKind:=
 match d with
 |.int k=>some k
 |_=>none
def abA (d:TypeDesc):TypeDesc->AX->Option AOp:=
 match d with
 |.int _=>fun e x=>aq (intK e) fun k=>some (.convInt k x)
 |.string=>fun e x=>match e with
  |.string=>some (.convId x)
  |_=>none
 |_=>fun _ _=>none
def uV (d:TypeDesc):Bool:=
 match d with
 |.interface _=>true
 |_=>false
def cMkFn (f:Fn):Array Operand->Array Operand->Option AOp:=
 match f with
 |.func f=>fun a b=>aq (cXs a) fun a=>aq (cXs b) fun b=>some (.mkFn f a b)
 |_=>fun _ _=>none
def Cb (d:TypeDesc):Tr TypeInfo->AX->Option AX->Option AX->Option AX->Option AOp:=
 match d with
 |.slice e=>fun T x lo hi mx=>aq (szT T e) fun n=>bif Nat.blt 0 n then some (.slice false n x lo hi mx) else none
 |.string=>fun _ x lo hi mx=>match mx with
  |none=>some (.slice true 0 x lo hi none)
  |some _=>none
 |_=>fun _ _ _ _ _=>none
def adM (d:TypeDesc):Tr TypeInfo->AX->AX->Option AOp:=
 match d with
 |.slice e=>fun T x i=>aq (szT T e) fun n=>some (.iaddr n x i)
 |.array len e=>fun T x i=>aq (szT T e) fun n=>some (.iaddrA len n (cn T e) x i)
 |_=>fun _ _ _=>none
def adL (d:TypeDesc):Tr TypeInfo->AX->AX->Option AOp:=
 match d with
 |.string=>fun _ x i=>some (.strIdx x i)
 |.array len e=>fun T x i=>aq (szT T e) fun n=>some (.arrIdx len n (cn T e) x i)
 |_=>fun _ _ _=>none
def mapD (d:TypeDesc):Option (TypeId×TypeId):=
 match d with
 |.map k e=>some (k,e)
 |_=>none
def kZ (T:Tr TypeInfo)(t:TypeId):Option (Nat×TypeId):=
 aq (und T t) fun d=>aq (mapD d) fun ke=>aq (und T ke.1) fun k=>aq (LU k) fun n=>some (n,ke.2)
def Ys (c:Callee):Tr TypeInfo->Array TypeId->List AX->Option AOp:=
 match c with
 |.value f=>fun _ _ args=>aq (cX f) fun f=>some (.call f args)
 |.invoke _ _=>fun _ _ _=>none
 |.builtin b=>fun T tys args=>ru b T tys args
def ad5 (c:Callee):List AX->Option AOp:=
 match c with
 |.value f=>fun args=>aq (cX f) fun f=>some (.defer f args)
 |_=>fun _=>none
def cOp (op:Op):Program->Tr TypeInfo->(TypeId->Bool)->Option AOp:=
 match op with
 |.move x=>fun _ _ _=>aq (cX x) fun x=>some (.mv x)
 |.assign x=>fun _ _ _=>aq (cX x) fun x=>some (.mv x)
 |.pick c a b=>fun _ _ _=>aq (cX c) fun c=>aq (cX a) fun a=>aq (cX b) fun b=>some (.pick c a b)
 |.alloc t=>fun _ T _=>aq (jS T t) fun z=>some (.new z.cells)
 |.box t x=>fun _ T _=>aq (szT T t) fun n=>aq (cX x) fun x=>some (.box n x)
 |.build t parts=>fun _ T _=>TP T t parts
 |.buildSlice t len parts=>fun _ T keep=>cLit T (!(keep t)) t len parts
 |.load t a=>fun _ T _=>aq (szT T t) fun n=>aq (cX a) fun a=>bif abn (cn T t) n then some (.load (cn T t) n a) else none
 |.store t a x=>fun _ T _=>aq (szT T t) fun n=>aq (cX a) fun a=>aq (cX x) fun x=>some (.store n a x)
 |.nilCheck x=>fun _ _ _=>aq (cX x) fun x=>some (.nilChk x)
 |.binOp op t x y _=>fun P T _=>aq (eqK P T t (isC x||isC y)) fun e=>aq (cX x) fun x=>aq (cX y) fun y=>some (.bin op e x y)
 |.unOp op _ x=>fun _ _ _=>aq (cX x) fun x=>some (.un op x)
 |.convert src dst x=>fun _ T _=>aq (und T src) fun d=>aq (und T dst) fun e=>aq (cX x) fun x=>abA d e x
 |.makeInterface t x=>fun _ T _=>aq (und T t) fun d=>bif uV d then none else aq (cX x) fun x=>some (.mkIface t x)
 |.makeFunc f first caps=>fun _ _ _=>cMkFn f first caps
 |.makeMap _ r=>fun _ _ _=>match r with
  |none=>some .mkMap
  |some _=>none
 |.makeSlice t l c=>fun _ T _=>aq (rG T t) fun e=>aq (szT T e) fun n=>aq (jS T e) fun z=>aq (T.get e) fun i=>
   aq (cX l) fun l=>aq (cX c) fun c=>bif Nat.blt 0 n then some (.mkSlice (cn T e) n i.bytes z.cells l c) else none
 |.slice t x lo hi mx=>fun _ T _=>aq (cX x) fun x=>aq (nJ lo) fun lo=>aq (nJ hi) fun hi=>aq (nJ mx) fun mx=>
   aq (und T t) fun d=>Cb d T x lo hi mx
 |.fieldAddr s x f=>fun _ T _=>aq (mU T s f) fun p=>aq (cX x) fun x=>some (.faddr p.1 p.2.1 p.2.2 x)
 |.field s x f=>fun _ T _=>aq (mU T s f) fun p=>aq (cX x) fun x=>some (.field p.1 p.2.1 p.2.2 x)
 |.indexAddr t x i=>fun _ T _=>aq (cX x) fun x=>aq (cX i) fun i=>aq (und T t) fun d=>adM d T x i
 |.index t x i=>fun _ T _=>aq (cX x) fun x=>aq (cX i) fun i=>aq (und T t) fun d=>adL d T x i
 |.lookup t x i ok=>fun _ T _=>aq (kZ T t) fun e=>aq (jS T e.2) fun z=>aq (cX x) fun x=>aq (cX i) fun i=>some (.lookup e.1 z x i ok)
 |.mapUpdate t m k v=>fun _ T _=>aq (kZ T t) fun e=>aq (cX m) fun m=>aq (cX k) fun k=>aq (cX v) fun v=>some (.mapUp e.1 m k v)
 |.typeAssert x _ t ok=>fun _ T _=>aq (und T t) fun d=>bif uV d then none else aq (cX x) fun x=>aq (jS T t) fun z=>some (.assert t z x ok)
 |.extract x i=>fun _ _ _=>aq (cX x) fun x=>some (.extract x i)
 |.call c=>fun _ T _=>aq (cXs c.args) fun args=>Ys c.callee T c.argTypes args
 |.defer c=>fun _ _ _=>aq (cXs c.args) fun args=>ad5 c.callee args
 |.panic x=>fun _ _ _=>aq (cX x) fun x=>some (.panic x)
 |_=>fun _ _ _=>none
def Mx (d:Option Tmp):Nat->Bool:=Option.casesOn d (fun _=>true) (fun d nt=>Nat.blt d nt)
def ad4 (g:Option (Nat×Bool)):List Oper->Option Nat->AOp->Option aX:=
 match g with
 |none=>fun _ d op=>some ⟨d,op,none⟩
 |some (j,b)=>fun ops d op=>aq ops[j]? fun o=>aq o.dst fun t=>some ⟨d,op,some (t,b)⟩
def BC (P:Program)(T:Tr TypeInfo)(keep:TypeId->Bool)(nt:Nat)(ops:List Oper)(o:Oper):Option aX:=
 aq (cOp o.op P T keep) fun op=>bif Mx o.dst nt then ad4 o.guard ops o.dst op else none
def bit (m i:Nat):Bool:=Nat.beq (Nat.land (Nat.shiftRight m i) 1) 1
def gR (m i:Nat):Nat:=Nat.lor m (Nat.shiftLeft 1 i)
def Hp (x:AX):Nat->Nat:=
 match x with
 |.t n=>fun m=>gR m n
 |.c _=>fun m=>m
def rU (l:List AX):Nat->Nat:=List.rec (fun m=>m) (fun x _ ih m=>ih (Hp x m)) l
def AOp.args (op:AOp):List AX:=
 match op with
 |.mv x=>[x]
 |.pick c a b=>[c,a,b]
 |.new _=>[]
 |.box _ x=>[x]
 |.build _ ps=>ps.map (·.2.2)
 |.lit _ _ _ _ _ ps=>ps.map (·.2)
 |.load _ _ x=>[x]
 |.store _ a x=>[a,x]
 |.nilChk x=>[x]
 |.bin _ _ x y=>[x,y]
 |.un _ x=>[x]
 |.convInt _ x=>[x]
 |.convId x=>[x]
 |.mkIface _ x=>[x]
 |.mkFn _ a b=>a++b
 |.mkMap=>[]
 |.mkSlice _ _ _ _ l c=>[l,c]
 |.slice _ _ x lo hi mx=>x::(lo.toList++(hi.toList++mx.toList))
 |.faddr _ _ _ x=>[x]
 |.field _ _ _ x=>[x]
 |.iaddr _ x i=>[x,i]
 |.iaddrA _ _ _ x i=>[x,i]
 |.strIdx x i=>[x,i]
 |.arrIdx _ _ _ x i=>[x,i]
 |.lookup _ _ x i _=>[x,i]
 |.mapUp _ m k v=>[m,k,v]
 |.assert _ _ x _=>[x]
 |.extract x _=>[x]
 |.builtin _ l=>l
 |.call f l=>f::l
 |.defer f l=>f::l
 |.panic x=>[x]
def Lb (g:Option (Nat×Bool)):Nat:=Option.casesOn g 0 fun p=>gR 0 p.1
def lG (d:Option Nat):Nat:=Option.casesOn d 0 fun d=>gR 0 d
def nF (o:aX):Nat:=rU o.op.args (Lb o.guard)
def yz (c:Cls):Bool:=
 match c with
 |.acts=>true
 |_=>false
structure OS where
 pre:Nat
 dm:Nat
 lm:Nat
 acts:Bool
def Fa (acc:List Nat)(after:List Nat):Nat:=
 List.rec (fun m=>m) (fun j _ ih m=>ih (Nat.lor (gR m j) ((acc[j]?).getD 0))) after 0
def eA (o:Oper):List Nat:=(o.after.toList.filter (Region.binds .any)).map (·.on)
def ml (i:Nat)(l:List Nat):Bool:=List.rec true (fun j _ ih=>Nat.blt j i&&ih) l
def kW (l:List Oper):Nat->List Nat->Option (List Nat):=
 List.rec (fun _ acc=>some acc) (fun o _ ih i acc=>bif ml i (eA o) then ih (Nat.succ i) (acc++[Fa acc (eA o)]) else none) l
def tV (l:List aX):List Nat->List OS:=
 List.rec (fun _=>[]) (fun o _ ih ps=>List.casesOn ps [] fun p ps=>⟨p,lG o.dst,nF o,yz o.op.cls⟩::ih ps) l
def UE (n:Nat):Bool:=Nat.beq n 0
def wT (x y:OS):Bool:=UE (Nat.land x.dm (Nat.lor y.lm y.dm))&&UE (Nat.land y.dm x.lm) && !(x.acts&&y.acts)
def wG (y:OS)(l:List OS):Nat->Bool:=List.rec (fun _=>true) (fun x _ ih i=>(bit y.pre i||wT x y)&&ih (Nat.succ i)) l
def rK (l:List OS):List OS->Bool:=
 List.rec (fun _=>true) (fun y _ ih acc=>wG y acc 0&&ih (acc++[y])) l
def abK (c:Cls):Bool:=
 match c with
 |.born=>true
 |_=>false
def uY (l:List aX):Bool:=List.rec true (fun o _ ih=>(!(abK o.op.cls)||(Option.casesOn o.guard true fun _=>false))&&ih) l
def gS (f:Nat->OS->Bool)(l:List OS):Nat->Nat:=List.rec (fun _=>0) (fun x _ ih i=>bif f i x then Nat.succ (ih (Nat.succ i)) else ih (Nat.succ i)) l
def VY (f:Nat->OS->Bool)(l:List OS):Nat->Bool:=List.rec (fun _=>true) (fun x _ ih i=>f i x&&ih (Nat.succ i)) l
def Fy (all:List OS)(i:Nat)(x:OS):DI:=
 {lo:=gS (fun k y=>y.acts&&bit x.pre k) all 0,
  hi:=gS (fun _ y=>y.acts && !(bit y.pre i)) all 0,
  fin:=VY (fun k y=>Nat.ble k i||bit y.pre i) all 0}
def qC (all:List OS)(l:List aX):Nat->List OS->List (aX×DI):=
 List.rec (fun _ _=>[]) (fun o _ ih i ss=>List.casesOn ss [] fun s ss=>(o,Fy all i s)::ih (Nat.succ i) ss) l
def abJ (ops:List Oper)(l:List aX):Option aw:=
 aq (kW ops 0 []) fun ps=>
  bif rK (tV l ps) []&&uY l then some (.draw (qC (tV l ps) l 0 (tV l ps))) else none
def Yq (P:Program)(T:Tr TypeInfo)(keep:TypeId->Bool)(nt:Nat)(ops:List Oper)(draw:Bool):Option aw:=
 aq (jx (BC P T keep nt ops) ops) fun l=>bif draw then abJ ops l else some (.region l)
def jJ (c:Code):Program->Tr TypeInfo->(TypeId->Bool)->Nat->Option aw:=
 Code.rec
  (fun _ _ _ _=>some .skip)
  (fun _ ops draw P T keep nt=>Yq P T keep nt ops.toList draw)
  (fun _ _ a b P T keep nt=>aq (a P T keep nt) fun a=>aq (b P T keep nt) fun b=>some (.seq a b))
  (fun c _ _ a b P T keep nt=>aq (cX c) fun c=>aq (a P T keep nt) fun a=>aq (b P T keep nt) fun b=>some (.cond c a b))
  (fun id _ a P T keep nt=>aq (a P T keep nt) fun a=>some (.block id a))
  (fun _ a P T keep nt=>aq (a P T keep nt) fun a=>some (.loop a))
  (fun f ps _ _ a b P T keep nt=>aq (cX f) fun f=>aq (a P T keep nt) fun a=>aq (b P T keep nt) fun b=>
   bif ml nt ps.toList then some (.rangeFunc f ps.toList a b) else none)
  (fun id _ _ _ _=>some (.exit id))
  (fun _ a P T keep nt=>aq (a P T keep nt) fun a=>some (.scope a))
  (fun _ _ _ _ _=>some .skip)
  (fun _ _ _ _ _=>none)
  (fun _ _ _ _=>some .ret)
  (fun _ _ _ _ _=>none)
  c
def UA (T:Tr TypeInfo)(r:ResultVar):Option bF:=
 match r with
 |.tmp t=>some (.tmp t)
 |.cell a t=>aq (szT T t) fun n=>bif abn (cn T t) n then some (.cell a (cn T t) n) else none
def abI (P:Program)(T:Tr TypeInfo)(keep:TypeId->Bool)(fn:Func):Option tC:=
 aq fn.body fun c=>aq (jJ c P T keep fn.ntmps) fun body=>aq (jx (UA T) fn.results.toList) fun results=>
  some {ntmps:=fn.ntmps,results,body}
end
abbrev Tm:=Tr AV
inductive AEx where
 |normal
 |exit (id:Nat)
 |ret
 |panic (v:AV)
inductive eI where
 |box (cells:List AV)
 |row (g sz:Nat) (agg:Bool) (cells:List AV) (fz:Nat)
 |map (es:List (AV×AV))
 |loop (st:LoopState) (pend:Option AEx) (tm:Tm) (params:List Nat) (assign body:aw) (fn:FuncId)
 |dfd (taken:Bool)
structure AH where
 z:Nat
 low:Nat
 objs:Tr eI
noncomputable section
def AH.get (h:AH)(k:Nat):Option eI:=h.objs.get k
def gz (a b:Nat):Nat:=cond (Nat.ble a b) a b
def AH.set (h:AH)(k:Nat)(x:eI):AH:=AH.casesOn h fun n l o=>⟨n,gz k l,o.put k x⟩
def AH.new (h:AH)(x:eI):AH:=AH.casesOn h fun n l o=>⟨Nat.succ n,l,o.put n x⟩
def nth (t:Tm)(n:Nat):AV:=Option.casesOn (t.get n) (.tup []) fun v=>v
def ev (x:AX):Tm->AV:=AX.casesOn x (fun n tm=>nth tm n) (fun v _=>v)
def evs (l:List AX):Tm->List AV:=List.rec (fun _=>[]) (fun x _ ih tm=>ev x tm::ih tm) l
def fC (d:Option Nat):Tm->AV->Tm:=Option.casesOn d (fun tm _=>tm) (fun d tm v=>tm.put d v)
def app {α:Type}(a:List α):List α->List α:=List.rec (fun b=>b) (fun x _ ih b=>x::ih b) a
def drp {α:Type}(n:Nat):List α->List α:=Nat.rec (fun l=>l) (fun _ ih l=>List.casesOn l [] fun _ l=>ih l) n
def tke {α:Type}(n:Nat):List α->List α:=Nat.rec (fun _=>[]) (fun _ ih l=>List.casesOn l [] fun x l=>x::ih l) n
def len {α:Type}(l:List α):Nat:=List.rec 0 (fun _ _ ih=>Nat.succ ih) l
def pK {α:Type}(n:Nat):List α->Option α:=
 Nat.rec (fun l=>List.casesOn l none fun x _=>some x) (fun _ ih l=>List.casesOn l none fun _ l=>ih l) n
def over {α:Type}(vs:List α):List α->List α:=List.rec (fun cs=>cs) (fun v _ ih cs=>List.casesOn cs [] fun _ cs=>v::ih cs) vs
def setR {α:Type}(off:Nat):List α->List α->List α:=Nat.rec (fun vs cs=>over vs cs) (fun _ ih vs cs=>List.casesOn cs [] fun c cs=>c::ih vs cs) off
def pN (agg:Bool):Nat->Nat->List AV->Option AV:=
 Bool.casesOn agg (fun sz off cs=>cond (Nat.beq sz 1) (pK off cs) none)
  (fun sz off cs=>cond (Nat.ble (Nat.add off sz) (len cs)) (some (.agg (tke sz (drp off cs)))) none)
def chunk (agg:Bool)(sz:Nat)(n:Nat):List AV->Option (List AV):=
 Nat.rec (fun _=>some []) (fun _ ih cs=>aq (pN agg sz 0 cs) fun v=>aq (ih (drp sz cs)) fun r=>some (v::r)) n
def fl (sz:Nat)(l:List AV):Bool:=List.rec true (fun e _ ih=>and (Nat.beq (len e.cells) sz) ih) l
def iu (l:List AV):Bool:=List.rec true (fun e _ ih=>and e.lies ih) l
def abq (o:eI):Option (Nat×Nat×Bool×List AV×Nat):=
 match o with
 |.row g sz agg cs fz=>some (g,sz,agg,cs,fz)
 |_=>none
def lg (h:AH)(k g sz:Nat):Option (Bool×List AV×Nat):=
 aq (h.get k) fun o=>aq (abq o) fun r=>cond (and (Nat.beq g r.1) (Nat.beq r.2.1 sz)) (some r.2.2) none
def sa (x:AV):AH->Nat->Option (List AV):=
 match x with
 |.nl=>fun _ _=>some []
 |.ls es=>fun _ sz=>cond (fl sz es) (some es) none
 |.clip es=>fun _ sz=>cond (fl sz es) (some es) none
 |.row k g sz' off n=>fun h sz=>cond (Nat.beq sz' sz) (aq (lg h k g sz) fun r=>chunk r.1 sz n (drp (Nat.mul off sz) r.2.1)) none
 |_=>fun _ _=>none
def flat (l:List AV):List AV:=List.rec [] (fun v _ ih=>app v.cells ih) l
def Zp (n:Int):Option Nat:=Int.casesOn n (fun m=>some m) (fun _=>none)
def Zo (v:AV):Option Nat:=
 match v with
 |.int _ n=>Zp n
 |_=>none
def asIdx (v:AV)(bound:Nat):Option Nat:=aq (Zo v) fun m=>cond (Nat.blt m bound) (some m) none
def lX (v:AV)(bound:Nat):Option Nat:=aq (Zo v) fun m=>cond (Nat.ble m bound) (some m) none
def Mt (k:IntKind):Nat:=IntKind.casesOn k 0 1 2 3 4 5 6 7
def LZ (a b:IntKind):Bool:=Nat.beq (Mt a) (Mt b)
def BU (a b:Int):Bool:=
 Int.casesOn a (fun m=>Int.casesOn b (fun n=>Nat.beq m n) (fun _=>false)) (fun m=>Int.casesOn b (fun _=>false) (fun n=>Nat.beq m n))
def leI (a b:Int):Bool:=
 Int.casesOn a (fun m=>Int.casesOn b (fun n=>Nat.ble m n) (fun _=>false)) (fun m=>Int.casesOn b (fun _=>true) (fun n=>Nat.ble n m))
def aeW (a:List UInt8):List UInt8->Bool:=
 List.rec (fun b=>List.casesOn b true fun _ _=>false) (fun x _ ih b=>List.casesOn b false fun y b=>and (Nat.beq x.toNat y.toNat) (ih b)) a
def Ds (a b:ByteArray):Bool:=aeW a.data.toList b.data.toList
def zc (v:AV):Option (IntKind×Int):=
 match v with
 |.int k n=>some (k,n)
 |_=>none
def BF (v:AV):Option Bool:=
 match v with
 |.bool b=>some b
 |_=>none
def yr (x:AV):Option ByteArray:=
 match x with
 |.str s=>some s
 |_=>none
def cE (t:Nat)(a b:AV):Option Bool:=
 cond (Nat.beq t 1) (aq (zc a) fun p=>aq (zc b) fun q=>cond (LZ p.1 q.1) (some (BU p.2 q.2)) none)
  (cond (Nat.beq t 2) (aq (yr a) fun p=>aq (yr b) fun q=>some (Ds p q))
   (aq (BF a) fun p=>aq (BF b) fun q=>some (oG p q)))
def jI (l:List (AV×AV)):Nat->AV->Option (Option AV):=
 List.rec (fun _ _=>some none) (fun e _ ih t k=>aq (cE t k e.1) fun b=>cond b (some (some e.2)) (ih t k)) l
def pH (l:List (AV×AV)):Nat->AV->AV->List (AV×AV):=
 List.rec (fun _ k v=>[(k,v)]) (fun e l ih t k v=>Option.casesOn (cE t k e.1) (e::ih t k v) fun b=>cond b ((k,v)::l) (e::ih t k v)) l
def rS (l:List (Nat×Nat)):List AV->List AV->Option Bool:=
 List.rec (fun _ _=>some true) (fun o _ ih a b=>aq (pK o.1 a) fun x=>aq (pK o.1 b) fun y=>aq (cE o.2 x y) fun s=>cond s (ih a b) (some false)) l
def Uv (v:AV):Nat:=
 match v with
 |.nilp=>0
 |.ptr _ _ _=>1
 |.vptr _=>1
 |_=>2
def abB (l:List AV):Nat:=List.casesOn l 2 fun _ _=>1
def Zm (v:AV):Nat:=
 match v with
 |.nl=>0
 |.row _ _ _ _ n=>Nat.casesOn n 2 fun _=>1
 |.ls l=>abB l
 |.clip l=>abB l
 |_=>2
def Uw (v:AV):Nat:=
 match v with
 |.nilm=>0
 |.map _=>1
 |_=>2
def Ux (v:AV):Nat:=
 match v with
 |.nilf=>0
 |.fn _ _ _=>1
 |_=>2
def Dq (v:AV):Nat:=
 match v with
 |.nili=>0
 |.ifc _ _=>1
 |_=>2
def rZ (a b:Nat):Option Bool:=
 cond (Nat.beq (Nat.add a b) 0) (some true) (cond (Nat.beq (Nat.add a b) 1) (some false) none)
def Ma (v:AV):Option (List AV):=
 match v with
 |.agg l=>some l
 |_=>none
def Zq (e:EqK):AV->AV->Option Bool:=
 match e with
 |.boolK=>fun x y=>cE 0 x y
 |.num=>fun _ _=>none
 |.ptr=>fun x y=>rZ (Uv x) (Uv y)
 |.slice=>fun x y=>cond (Nat.beq (Zm y) 0) (rZ (Zm x) 0) none
 |.map=>fun x y=>rZ (Uw x) (Uw y)
 |.func=>fun x y=>rZ (Ux x) (Ux y)
 |.iface c=>fun x y=>cond (or c (Nat.beq (Nat.add (Dq x) (Dq y)) 1)) (rZ (Dq x) (Dq y)) none
 |.struct l=>fun x y=>aq (Ma x) fun a=>aq (Ma y) fun b=>rS l a b
def EN (k:IntKind)(n:Int):AV:=.int k (k.wrap n)
def Pv (n:Int):AV:=
 Int.casesOn n (fun m=>cond (Nat.blt m 9223372036854775808) (.int .i64 (.ofNat m)) (EN .i64 (.ofNat m)))
  (fun m=>cond (Nat.blt m 9223372036854775808) (.int .i64 (.negSucc m)) (EN .i64 (.negSucc m)))
def nB (k:IntKind)(n:Int):AV:=cond (Nat.beq (Mt k) 3) (Pv n) (EN k n)
def AD (k:IntKind)(r:BitVec k.bits):Option AV:=some (EN k r.toNat)
def mQ (op:BinOp):IntKind->Int->Int->Option AV:=
 match op with
 |.add=>fun k a b=>some (nB k (Int.add a b))
 |.sub=>fun k a b=>some (nB k (Int.sub a b))
 |.mul=>fun k a b=>some (nB k (Int.mul a b))
 |.quo=>fun k a b=>cond (BU b 0) none (some (nB k (Int.tdiv a b)))
 |.rem=>fun k a b=>cond (BU b 0) none (some (.int k (Int.tmod a b)))
 |.eql=>fun _ a b=>some (.bool (BU a b))
 |.neq=>fun _ a b=>some (.bool (not (BU a b)))
 |.lss=>fun _ a b=>some (.bool (not (leI b a)))
 |.leq=>fun _ a b=>some (.bool (leI a b))
 |.gtr=>fun _ a b=>some (.bool (not (leI a b)))
 |.geq=>fun _ a b=>some (.bool (leI b a))
 |.and=>fun k a b=>AD k (BitVec.ofInt k.bits a &&& BitVec.ofInt k.bits b)
 |.or=>fun k a b=>AD k (BitVec.ofInt k.bits a ||| BitVec.ofInt k.bits b)
 |.xor=>fun k a b=>AD k (BitVec.ofInt k.bits a ^^^ BitVec.ofInt k.bits b)
 |.andNot=>fun k a b=>AD k (BitVec.ofInt k.bits a &&& ~~~(BitVec.ofInt k.bits b))
 |.shl=>fun k a b=>aq (Zp b) fun m=>some (EN k (a*2 ^ (min m k.bits)))
 |.shr=>fun k a b=>aq (Zp b) fun m=>some (.int k (a.fdiv (2 ^ (min m k.bits))))
def Fh (a b:ByteArray):Bool:=Op.bytesLess a.data.toList b.data.toList
def Fj (op:BinOp):ByteArray->ByteArray->Option AV:=
 match op with
 |.add=>fun a b=>cond (Nat.blt 9223372036854775807 (Nat.add a.size b.size)) none (some (.str (a++b)))
 |.eql=>fun a b=>some (.bool (Ds a b))
 |.neq=>fun a b=>some (.bool (not (Ds a b)))
 |.lss=>fun a b=>some (.bool (Fh a b))
 |.leq=>fun a b=>some (.bool (or (Fh a b) (Ds a b)))
 |.gtr=>fun a b=>some (.bool (not (or (Fh a b) (Ds a b))))
 |.geq=>fun a b=>some (.bool (not (Fh a b)))
 |_=>fun _ _=>none
def oQ (op:BinOp):Bool:=
 match op with
 |.shl=>true
 |.shr=>true
 |_=>false
def TJ (op:BinOp):EqK->AV->AV->Option AV:=
 match op with
 |.eql=>fun e x y=>aq (Zq e x y) fun b=>some (.bool b)
 |.neq=>fun e x y=>aq (Zq e x y) fun b=>some (.bool (not b))
 |_=>fun _ _ _=>none
def adS (y:AV):BinOp->EqK->IntKind->Int->Option AV:=
 match y with
 |.int k' b=>fun op _ k a=>cond (or (oQ op) (LZ k k')) (mQ op k a b) none
 |_=>fun _ _ _ _=>none
def adR (y:AV):BinOp->EqK->ByteArray->Option AV:=
 match y with
 |.str b=>fun op _ a=>Fj op a b
 |_=>fun _ _ _=>none
def mR (x:AV):BinOp->EqK->AV->Option AV:=
 match x with
 |.int k a=>fun op e y=>adS y op e k a
 |.str a=>fun op e y=>adR y op e a
 |x=>fun op e y=>TJ op e x y
def fillA (l:List (Nat×Nat×AV)):List AV->Option (List AV):=
 List.rec (fun cs=>some cs) (fun p _ ih cs=>
  cond (and (Nat.beq (len p.2.2.cells) p.2.1) (and (Nat.ble (Nat.add p.1 p.2.1) (len cs)) p.2.2.lies)) (ih (setR p.1 p.2.2.cells cs)) none) l
def pI (n:Nat)(z:List AV):List AV:=Nat.rec [] (fun _ ih=>app z ih) n
end
inductive RC where
 |no
 |ret
 |pend (v:AV)
 |done
inductive DF where
 |call (f:AV) (args:List AV)
 |mark (k:Nat)
structure AC where
 dfs:List DF
 rc:RC
 rnd:Option Nat
 fid:FuncId
structure AF where
 tm:Tm
 cx:AC
inductive bI where
 |ret (v:AV)
 |pan (v:AV)
inductive OpR where
 |val (v:AV) (h:AH)
 |call (f:AV) (args:List AV)
 |rcv
 |dfr (f:AV) (args:List AV)
 |pan (v:AV)
 |bad
noncomputable section
def okV (r:Option AV):AH->OpR:=Option.casesOn r (fun _=>.bad) (fun v h=>.val v h)
def okH (r:Option AH):OpR:=Option.casesOn r .bad (fun h=>.val (.tup []) h)
def pJ (r:Option (AV×AH)):OpR:=Option.casesOn r .bad (fun p=>.val p.1 p.2)
def Fg (o:eI):Option (List (AV×AV)):=
 match o with
 |.map es=>some es
 |_=>none
def Aw (h:AH)(k:Nat):Option (List (AV×AV)):=aq (h.get k) Fg
def lenOf (x:AV):AH->Nat->Option Nat:=
 match x with
 |.str s=>fun _ k=>cond (Nat.beq k 0) (some s.size) none
 |.nl=>fun _ k=>cond (Nat.beq k 1) (some 0) none
 |.ls es=>fun _ k=>cond (Nat.beq k 1) (some (len es)) none
 |.clip es=>fun _ k=>cond (Nat.beq k 1) (some (len es)) none
 |.row _ _ _ _ n=>fun _ k=>cond (Nat.beq k 1) (some n) none
 |.nilm=>fun _ k=>cond (Nat.beq k 2) (some 0) none
 |.map r=>fun h k=>cond (Nat.beq k 2) (aq (Aw h r) fun es=>some (len es)) none
 |_=>fun _ _=>none
def loadAt (o:eI):Bool->Nat->Nat->Nat->Option AV:=
 match o with
 |.box cs=>fun agg sz g off=>cond (Nat.beq g 0) (pN agg sz off cs) none
 |.row g' _ _ cs _=>fun agg sz g off=>cond (Nat.beq g g') (pN agg sz off cs) none
 |_=>fun _ _ _ _=>none
def dH (x:AV):AH->Bool->Nat->Option AV:=
 match x with
 |.vptr v=>fun _ agg sz=>cond (and (oG v.isAgg agg) (Nat.beq (len v.cells) sz)) (some v) none
 |.ptr k g off=>fun h agg sz=>aq (h.get k) fun o=>loadAt o agg sz g off
 |_=>fun _ _ _=>none
def storeAt (o:eI):Nat->Nat->List AV->Option eI:=
 match o with
 |.box cs=>fun g off vs=>cond (and (Nat.beq g 0) (Nat.ble (Nat.add off (len vs)) (len cs))) (some (.box (setR off vs cs))) none
 |.row g' n agg cs fz=>fun g off vs=>cond (and (Nat.beq g g') (and (Nat.ble fz off) (Nat.ble (Nat.add off (len vs)) (len cs))))
   (some (.row g' n agg (setR off vs cs) fz)) none
 |_=>fun _ _ _=>none
def cR (a:AV):AH->Nat->AV->Option AH:=
 match a with
 |.ptr k g off=>fun h sz v=>cond (and (Nat.beq (len v.cells) sz) v.lies)
   (aq (h.get k) fun o=>aq (storeAt o g off v.cells) fun o=>some (h.set k o)) none
 |_=>fun _ _ _=>none
def fq (h:AH)(agg:Bool)(sz bytes:Nat)(z:List AV)(l c:AV):Option (AV×AH):=
 aq (lX l 9223372036854775807) fun n=>aq (lX c 9223372036854775807) fun m=>
  cond (and (Nat.beq n m) (and (Nat.ble (Nat.mul n bytes) 140737488355328) (Nat.beq (len z) sz)))
   (some (.row h.z 0 sz 0 n,h.new (.row 0 sz agg (pI n z) 0))) none
def wW (o:Option AX):Tm->Nat->Nat->Option Nat:=Option.casesOn o (fun _ d _=>some d) (fun x tm _ b=>lX (ev x tm) b)
def yt (x:AV):Option Nat:=
 match x with
 |.nl=>some 0
 |.ls es=>some (len es)
 |.clip es=>some (len es)
 |.row _ _ _ _ n=>some n
 |_=>none
def aeK (a b:Nat):Nat:=cond (Nat.ble a b) b a
def By (x:AV):AH->Nat->Nat->Nat->Option (AV×AH):=
 match x with
 |.nl=>fun h _ _ _=>some (.nl,h)
 |.ls es=>fun h sz l hb=>cond (fl sz es) (some (.ls (tke (Nat.sub hb l) (drp l es)),h)) none
 |.clip es=>fun h sz l hb=>cond (fl sz es) (some (.ls (tke (Nat.sub hb l) (drp l es)),h)) none
 |.row k g sz' off _=>fun h sz l hb=>cond (Nat.beq sz' sz) (some (.row k g sz (Nat.add off l) (Nat.sub hb l),h)) none
 |_=>fun _ _ _ _=>none
def TL (x:AV):AH->Nat->Nat->Nat->Option (AV×AH):=
 match x with
 |.nl=>fun h _ _ _=>some (.nl,h)
 |.ls es=>fun h sz l hb=>cond (fl sz es) (some (.clip (tke (Nat.sub hb l) (drp l es)),h)) none
 |.clip es=>fun h sz l hb=>cond (fl sz es) (some (.clip (tke (Nat.sub hb l) (drp l es)),h)) none
 |.row k g sz' off _=>fun h sz l hb=>cond (Nat.beq sz' sz) (aq (lg h k g sz) fun r=>
   aq (chunk r.1 sz (Nat.sub hb l) (drp (Nat.mul (Nat.add off l) sz) r.2.1)) fun es=>
    some (.clip es,h.set k (.row g sz r.1 r.2.1 (aeK r.2.2 (Nat.mul (Nat.add off hb) sz))))) none
 |_=>fun _ _ _ _=>none
def ix (h:AH)(sz:Nat)(x:AV)(tm:Tm)(lo hi mx:Option AX):Option (AV×AH):=
 aq (yt x) fun n=>aq (wW hi tm n n) fun hb=>aq (wW lo tm 0 hb) fun l=>
  Option.casesOn mx (By x h sz l hb) fun m=>aq hi fun _=>aq (lX (ev m tm) n) fun m=>cond (Nat.beq m hb) (TL x h sz l hb) none
def ic (x:AV)(tm:Tm)(lo hi:Option AX):Option AV:=
 aq (yr x) fun s=>aq (wW hi tm s.size s.size) fun hb=>aq (wW lo tm 0 hb) fun l=>some (.str (s.extract l hb))
def zC (r:Option AV):AV->Bool->AV:=
 Option.casesOn r (fun z ok=>cond ok (.tup [z,.bool false]) z) (fun v _ ok=>cond ok (.tup [v,.bool true]) v)
def adG (m:AV):AH->Nat->AV->Option (Option AV):=
 match m with
 |.nilm=>fun _ _ _=>some none
 |.map k=>fun h t i=>aq (Aw h k) fun es=>jI es t i
 |_=>fun _ _ _=>none
def gZ (h:AH)(t:Nat)(z:AV)(ok:Bool)(m i:AV):Option AV:=
 aq (cE t i i) fun _=>aq (adG m h t i) fun r=>some (zC r z ok)
def abo (m:AV):Option Nat:=
 match m with
 |.map k=>some k
 |_=>none
def kN (h:AH)(t:Nat)(m k v:AV):Option AH:=
 aq (abo m) fun r=>aq (Aw h r) fun es=>aq (cE t k k) fun _=>aq (jI es t k) fun _=>some (h.set r (.map (pH es t k v)))
def need (n m bytes:Nat):Bool:=and (Nat.ble (Nat.mul (Nat.add (Nat.mul 2 (Nat.add n m)) 1000) bytes) 140737488355328) (Nat.ble (Nat.add n m) 9223372036854775807)
def mX (s:AV):AH->Option (AV×AH):=
 match s with
 |.nl=>fun h=>some (.nl,h)
 |.ls es=>fun h=>some (.ls es,h)
 |.clip es=>fun h=>some (.clip es,h)
 |.row k g sz off n=>fun h=>some (.row k g sz off n,h)
 |_=>fun _=>none
def kQ (s:AV):AH->Nat->Bool->Nat->List AV->Option (AV×AH):=
 match s with
 |.nl=>fun h sz agg bytes xs=>cond (need 0 (len xs) bytes) (some (.row h.z 0 sz 0 (len xs),h.new (.row 0 sz agg (flat xs) 0))) none
 |.clip es=>fun h sz agg bytes xs=>cond (and (need (len es) (len xs) bytes) (and (fl sz es) (iu es)))
   (some (.row h.z 0 sz 0 (Nat.add (len es) (len xs)),h.new (.row 0 sz agg (app (flat es) (flat xs)) 0))) none
 |.row k g sz' off n=>fun h sz agg bytes xs=>cond (Nat.beq sz' sz) (aq (lg h k g sz) fun r=>
   cond (and (oG r.1 agg) (and (Nat.ble r.2.2 (Nat.mul (Nat.add off n) sz)) (and (Nat.ble (Nat.mul (Nat.add off n) sz) (len r.2.1)) (need n (len xs) bytes))))
    (some (.row k (Nat.succ g) sz 0 (Nat.add n (len xs)),
     h.set k (.row (Nat.succ g) sz agg (app (tke (Nat.mul n sz) (drp (Nat.mul off sz) r.2.1)) (flat xs)) (Nat.sub r.2.2 (Nat.mul off sz))))) none) none
 |_=>fun _ _ _ _ _=>none
def dO (h:AH)(sz:Nat)(agg:Bool)(z:List AV)(bytes:Nat)(s x:AV):Option (AV×AH):=
 aq (sa x h sz) fun xs=>cond (and (iu xs) (Nat.beq (len z) sz)) (List.casesOn xs (mX s h) fun y ys=>kQ s h sz agg bytes (y::ys)) none
def adZ (d:AV):AH->Nat->List AV->Option (AV×AH):=
 match d with
 |.nl=>fun h _ _=>some (.int .i64 0,h)
 |.row k g sz' off n=>fun h sz xs=>cond (Nat.beq sz' sz) (aq (lg h k g sz) fun r=>
   cond (and (Nat.ble r.2.2 (Nat.mul off sz)) (Nat.ble (Nat.mul (Nat.add off n) sz) (len r.2.1)))
    (some (.int .i64 (.ofNat (gz (len xs) n)),h.set k (.row g sz r.1 (setR (Nat.mul off sz) (flat (tke (gz (len xs) n) xs)) r.2.1) r.2.2))) none) none
 |_=>fun _ _ _=>none
def TI (h:AH)(sz:Nat)(d x:AV):Option (AV×AH):=aq (sa x h sz) fun xs=>cond (iu xs) (adZ d h sz xs) none
def IH (d:AV):AH->Nat->List AV->Option AH:=
 match d with
 |.nl=>fun h _ _=>some h
 |.row k g sz' off n=>fun h sz z=>cond (Nat.beq sz' sz) (aq (lg h k g sz) fun r=>
   cond (and (Nat.beq (len z) sz) (and (Nat.ble r.2.2 (Nat.mul off sz)) (Nat.ble (Nat.mul (Nat.add off n) sz) (len r.2.1))))
    (some (h.set k (.row g sz r.1 (setR (Nat.mul off sz) (pI n z) r.2.1) r.2.2))) none) none
 |_=>fun _ _ _=>none
def Fb (less:Bool)(m n:Int):Int:=cond less (cond (leI m n) m n) (cond (leI n m) m n)
def wP (l:List AV):Bool->IntKind->Int->Option AV:=
 List.rec (fun _ k m=>some (.int k m)) (fun x _ ih less k m=>aq (zc x) fun p=>ih less k (Fb less m p.2)) l
def vY (less:Bool)(l:List AV):Option AV:=List.casesOn l none fun x l=>aq (zc x) fun p=>wP l less p.1 p.2
def Fw {β:Type}(l:List AV)(no:β)(k:AV->β):β:=List.casesOn l no fun x l=>List.casesOn l (k x) fun _ _=>no
def Uu {β:Type}(l:List AV)(no:β)(k:AV->AV->β):β:=List.casesOn l no fun x l=>Fw l no fun y=>k x y
def sK (b:ABI):AH->List AV->OpR:=
 match b with
 |.len k=>fun h args=>Fw args .bad fun x=>okV (aq (lenOf x h k) fun n=>some (.int .i64 (.ofNat n))) h
 |.append sz agg z bytes=>fun h args=>Uu args .bad fun s x=>pJ (dO h sz agg z bytes s x)
 |.copy sz _=>fun h args=>Uu args .bad fun d x=>pJ (TI h sz d x)
 |.clear sz z=>fun h args=>Fw args .bad fun d=>okH (IH d h sz z)
 |.max=>fun h args=>okV (vY false args) h
 |.min=>fun h args=>okV (vY true args) h
 |.recover=>fun _ _=>.rcv
def nv (c:AV):AH->AV->AV->OpR:=
 match c with
 |.bool c=>fun h a b=>.val (cond c a b) h
 |_=>fun _ _ _=>.bad
def gU (h:AH)(n:Nat)(v:AV):OpR:=cond (and (Nat.beq (len v.cells) n) v.lies) (.val (.ptr h.z 0 0) (h.new (.box v.cells))) .bad
def eW (l:List (Nat×Nat×AX)):Tm->List (Nat×Nat×AV):=List.rec (fun _=>[]) (fun p _ ih tm=>(p.1,p.2.1,ev p.2.2 tm)::ih tm) l
def cr (l:List (Nat×AX)):Tm->Nat->List (Nat×Nat×AV):=List.rec (fun _ _=>[]) (fun p _ ih tm sz=>(Nat.mul p.1 sz,sz,ev p.2 tm)::ih tm sz) l
def cP (h:AH)(z:List AV)(ps:List (Nat×Nat×AV)):OpR:=Option.casesOn (fillA ps z) .bad fun cs=>.val (.agg cs) h
def iS (frz agg:Bool)(sz:Nat)(z:List AV)(n:Nat)(ps:List (Nat×Nat×AV))(h:AH):OpR:=
 Option.casesOn (fillA ps (pI n z)) .bad fun cs=>
  cond frz (Option.casesOn (chunk agg sz n cs) .bad fun es=>.val (.clip es) h) (.val (.row h.z 0 sz 0 n) (h.new (.row 0 sz agg cs 0)))
def iN (v:AV):AH->OpR:=
 match v with
 |.ptr k g o=>fun h=>.val (.ptr k g o) h
 |.vptr v=>fun h=>.val (.vptr v) h
 |.fn f a b=>fun h=>.val (.fn f a b) h
 |_=>fun _=>.bad
def Fx (op:UnOp):AV->Option AV:=
 match op with
 |.neg=>fun v=>aq (zc v) fun p=>some (nB p.1 (Int.sub 0 p.2))
 |.not=>fun v=>aq (BF v) fun b=>some (.bool (not b))
 |_=>fun _=>none
def Ax (k:IntKind)(v:AV):Option AV:=aq (zc v) fun p=>some (nB k p.2)
def rf (v:AV):Option AV:=aq (yr v) fun s=>some (.str s)
def eM (v:AV):AH->Nat->Nat->Bool->OpR:=
 match v with
 |.ptr k g off=>fun h o _ _=>.val (.ptr k g (Nat.add off o)) h
 |.vptr w=>fun h o sz agg=>okV (aq (Ma w) fun cs=>aq (pN agg sz o cs) fun v=>some (.vptr v)) h
 |_=>fun _ _ _ _=>.bad
def uW (v:AV)(o sz:Nat)(agg:Bool):Option AV:=aq (Ma v) fun cs=>pN agg sz o cs
def Ms (es:List AV)(sz:Nat)(i:AV):Option AV:=
 aq (Zo i) fun n=>aq (pK n es) fun v=>cond (Nat.beq (len v.cells) sz) (some (.vptr v)) none
def cz (x:AV):AH->Nat->AV->OpR:=
 match x with
 |.ls es=>fun h sz i=>okV (Ms es sz i) h
 |.clip es=>fun h sz i=>okV (Ms es sz i) h
 |.row k g sz' off n=>fun h sz i=>okV (cond (Nat.beq sz' sz) (aq (asIdx i n) fun n=>some (.ptr k g (Nat.mul (Nat.add off n) sz))) none) h
 |_=>fun _ _ _=>.bad
def gi (x:AV):AH->Nat->Nat->Bool->OpR:=
 match x with
 |.ptr k g off=>fun h n sz _=>.val (.ptr k g (Nat.add off (Nat.mul n sz))) h
 |.vptr w=>fun h n sz agg=>okV (aq (Ma w) fun cs=>aq (pN agg sz (Nat.mul n sz) cs) fun v=>some (.vptr v)) h
 |_=>fun _ _ _ _=>.bad
def mg (x i:AV):Option AV:=
 aq (yr x) fun s=>aq (Zo i) fun n=>aq (pK n s.data.toList) fun b=>some (.int .u8 (.ofNat b.toNat))
def rh (n sz:Nat)(agg:Bool)(x i:AV):Option AV:=
 aq (Ma x) fun cs=>aq (asIdx i n) fun n=>pN agg sz (Nat.mul n sz) cs
def kX (x:AV):TypeId->AV->Bool->Option AV:=
 match x with
 |.ifc t' v=>fun t z ok=>cond (Nat.beq t' t) (some (cond ok (.tup [v,.bool true]) v)) (cond ok (some (.tup [z,.bool false])) none)
 |.nili=>fun _ z ok=>cond ok (some (.tup [z,.bool false])) none
 |_=>fun _ _ _=>none
def ME (v:AV):Option (List AV):=
 match v with
 |.tup l=>some l
 |_=>none
def jC (x:AV):OpR:=
 match x with
 |.ifc t v=>.pan (.ifc t v)
 |_=>.bad
def evOp (op:AOp):Tm->AH->OpR:=
 match op with
 |.mv x=>fun tm h=>.val (ev x tm) h
 |.pick c a b=>fun tm h=>nv (ev c tm) h (ev a tm) (ev b tm)
 |.new z=>fun _ h=>.val (.ptr h.z 0 0) (h.new (.box z))
 |.box n x=>fun tm h=>gU h n (ev x tm)
 |.build z ps=>fun tm h=>cP h z (eW ps tm)
 |.lit frz agg sz z n ps=>fun tm h=>iS frz agg sz z n (cr ps tm sz) h
 |.load agg sz x=>fun tm h=>okV (dH (ev x tm) h agg sz) h
 |.store sz a x=>fun tm h=>okH (cR (ev a tm) h sz (ev x tm))
 |.nilChk x=>fun tm h=>iN (ev x tm) h
 |.bin op e x y=>fun tm h=>okV (mR (ev x tm) op e (ev y tm)) h
 |.un op x=>fun tm h=>okV (Fx op (ev x tm)) h
 |.convInt k x=>fun tm h=>okV (Ax k (ev x tm)) h
 |.convId x=>fun tm h=>okV (rf (ev x tm)) h
 |.mkIface t x=>fun tm h=>.val (.ifc t (ev x tm)) h
 |.mkFn f a b=>fun tm h=>.val (.fn f (evs a tm) (evs b tm)) h
 |.mkMap=>fun _ h=>.val (.map h.z) (h.new (.map []))
 |.mkSlice agg sz bytes z l c=>fun tm h=>pJ (fq h agg sz bytes z (ev l tm) (ev c tm))
 |.slice str sz x lo hi mx=>fun tm h=>cond str (okV (ic (ev x tm) tm lo hi) h) (pJ (ix h sz (ev x tm) tm lo hi mx))
 |.faddr o sz agg x=>fun tm h=>eM (ev x tm) h o sz agg
 |.field o sz agg x=>fun tm h=>okV (uW (ev x tm) o sz agg) h
 |.iaddr sz x i=>fun tm h=>cz (ev x tm) h sz (ev i tm)
 |.iaddrA n sz agg x i=>fun tm h=>Option.casesOn (asIdx (ev i tm) n) .bad fun n=>gi (ev x tm) h n sz agg
 |.strIdx x i=>fun tm h=>okV (mg (ev x tm) (ev i tm)) h
 |.arrIdx n sz agg x i=>fun tm h=>okV (rh n sz agg (ev x tm) (ev i tm)) h
 |.lookup t z x i ok=>fun tm h=>okV (gZ h t z ok (ev x tm) (ev i tm)) h
 |.mapUp t m k v=>fun tm h=>okH (kN h t (ev m tm) (ev k tm) (ev v tm))
 |.assert t z x ok=>fun tm h=>okV (kX (ev x tm) t z ok) h
 |.extract x i=>fun tm h=>okV (aq (ME (ev x tm)) fun l=>pK i l) h
 |.builtin b args=>fun tm h=>sK b h (evs args tm)
 |.call f args=>fun tm _=>.call (ev f tm) (evs args tm)
 |.defer f args=>fun tm _=>.dfr (ev f tm) (evs args tm)
 |.panic x=>fun tm _=>jC (ev x tm)
end
abbrev aG:=AV->List AV->RC->AH->Option (bI×RC×AH)
abbrev RX:=Option (AEx×AF×AH)
noncomputable section
def Zn {α:Type}(l:List α):Bool:=List.casesOn l true fun _ _=>false
def wantV (v:AV):Bool->Option Bool:=
 match v with
 |.bool c=>fun b=>some (oG c b)
 |.tup l=>fun _=>cond (Zn l) (some false) none
 |_=>fun _=>none
def wants (g:Option (Nat×Bool)):Tm->Option Bool:=Option.casesOn g (fun _=>some true) (fun p tm=>wantV (nth tm p.1) p.2)
def AF.put (fr:AF)(d:Option Nat)(v:AV):AF:=AF.casesOn fr fun tm cx=>⟨fC d tm v,cx⟩
def VC (rc:RC):Option Nat->AF->AH->RX:=
 match rc with
 |.pend v=>fun d fr h=>some (.normal,⟨fC d fr.tm v,⟨fr.cx.dfs,.done,fr.cx.rnd,fr.cx.fid⟩⟩,h)
 |.ret=>fun d fr h=>some (.normal,fr.put d .nili,h)
 |.done=>fun d fr h=>some (.normal,fr.put d .nili,h)
 |.no=>fun _ _ _=>none
def Fk (d:Option Nat)(fr:AF)(h:AH):RX:=Option.casesOn fr.cx.rnd (VC fr.cx.rc d fr h) fun _=>none
def acy (v:AV):Bool:=
 match v with
 |.fn _ _ _=>true
 |_=>false
def Mw (d:Option Nat)(f:AV)(args:List AV)(fr:AF)(h:AH):RX:=
 Option.casesOn fr.cx.rnd (cond (acy f) (some (.normal,⟨fC d fr.tm (.tup []),⟨.call f args::fr.cx.dfs,fr.cx.rc,fr.cx.rnd,fr.cx.fid⟩⟩,h)) none) fun _=>none
def outBy (o:bI):Option Nat->AF->AH->RX:=
 match o with
 |.ret v=>fun d fr h=>some (.normal,fr.put d v,h)
 |.pan v=>fun _ fr h=>some (.panic v,fr,h)
def Mv (d:Option Nat)(fr:AF)(r:Option (bI×RC×AH)):RX:=aq r fun p=>outBy p.1 d fr p.2.2
def kF (r:OpR):aG->Option Nat->AF->AH->RX:=
 match r with
 |.val v h=>fun _ d fr _=>some (.normal,fr.put d v,h)
 |.call f args=>fun call d fr h=>Mv d fr (call f args .no h)
 |.rcv=>fun _ d fr h=>Fk d fr h
 |.dfr f args=>fun _ d fr h=>Mw d f args fr h
 |.pan v=>fun _ _ fr h=>some (.panic v,fr,h)
 |.bad=>fun _ _ _ _=>none
def fA (o:aX)(call:aG)(fr:AF)(h:AH):RX:=
 aq (wants o.guard fr.tm) fun w=>cond w (kF (evOp o.op fr.tm h) call o.dst fr h) (some (.normal,fr.put o.dst (.tup []),h))
def exBy (e:AEx):AF->AH->(AF->AH->RX)->RX:=
 match e with
 |.normal=>fun fr h k=>AF.casesOn fr fun tm cx=>AH.casesOn h fun n l o=>k ⟨tm,cx⟩ ⟨n,l,o⟩
 |.exit id=>fun fr h _=>some (.exit id,fr,h)
 |.ret=>fun fr h _=>some (.ret,fr,h)
 |.panic v=>fun fr h _=>some (.panic v,fr,h)
def jH (r:RX)(k:AF->AH->RX):RX:=aq r fun p=>exBy p.1 p.2.1 p.2.2 k
def rY (l:List aX):aG->AF->AH->RX:=
 List.rec (fun _ fr h=>some (.normal,fr,h)) (fun o _ ih call fr h=>jH (fA o call fr h) (ih call)) l
end
mutual
def AV.beq:AV->AV->Bool
 |.bool a,.bool b=>a==b
 |.int k a,.int k' b=>k==k'&&a==b
 |.str a,.str b=>a==b
 |.nilp,.nilp=>true
 |.ptr k g o,.ptr k' g' o'=>Nat.beq k k'&&Nat.beq g g'&&Nat.beq o o'
 |.vptr v,.vptr v'=>AV.beq v v'
 |.nl,.nl=>true
 |.ls a,.ls b=>AV.beqs a b
 |.clip a,.clip b=>AV.beqs a b
 |.row k g z o n,.row k' g' z' o' n'=>Nat.beq k k'&&Nat.beq g g'&&Nat.beq z z'&&Nat.beq o o'&&Nat.beq n n'
 |.nilm,.nilm=>true
 |.map k,.map k'=>Nat.beq k k'
 |.fn f a b,.fn f' a' b'=>Nat.beq f f'&&AV.beqs a a'&&AV.beqs b b'
 |.yld l,.yld l'=>Nat.beq l l'
 |.nilf,.nilf=>true
 |.ifc t v,.ifc t' v'=>Nat.beq t t'&&AV.beq v v'
 |.nili,.nili=>true
 |.agg a,.agg b=>AV.beqs a b
 |.tup a,.tup b=>AV.beqs a b
 |_,_=>false
def AV.beqs:List AV->List AV->Bool
 |[],[]=>true
 |a::l,b::m=>AV.beq a b&&AV.beqs l m
 |_,_=>false
end
structure Rd where
 tm:Tm
 op:AOp
 v:AV
 lo:Nat
 hi:Nat
structure DS where
 fr:AF
 h:AH
 nk:Nat
 hs:List AH
 rds:List Rd
noncomputable section
def oN (r:OpR):AV->Bool:=
 match r with
 |.val u _=>fun v=>AV.beq u v
 |_=>fun _=>false
def gX (l:List AH):Rd->Nat->Bool:=
 List.rec (fun _ _=>true) (fun h _ ih r m=>and (or (Nat.blt m r.lo) (or (Nat.blt r.hi m) (oN (evOp r.op r.tm h) r.v))) (ih r (Nat.succ m))) l
def rdsOk (l:List Rd):List AH->Bool:=List.rec (fun _=>true) (fun r _ ih hs=>and (gX hs r 0) (ih hs)) l
def BS (l:List (aX×DI)):Tm->Tm:=List.rec (fun tm=>tm) (fun p _ ih tm=>ih (fC p.1.dst tm .any)) l
def birth (op:AOp):AH->AH:=
 match op with
 |.new z=>fun h=>h.new (.box z)
 |_=>fun h=>h
def kI (l:List (aX×DI)):AH->AH:=List.rec (fun h=>h) (fun p _ ih h=>ih (birth p.1.op h)) l
def IN (s:DS):RX:=cond (rdsOk s.rds s.hs) (some (.normal,s.fr,s.h)) none
def IM (all:List (aX×DI))(fin:Bool)(s:DS)(v:AV)(fr:AF)(h:AH):RX:=
 cond (and fin (rdsOk s.rds s.hs)) (some (.panic v,⟨BS all fr.tm,fr.cx⟩,h)) none
def uX (e:AEx):List (aX×DI)->Bool->DS->AF->AH->(DS->RX)->RX:=
 match e with
 |.normal=>fun _ _ s fr h k=>k ⟨fr,h,s.nk,s.hs++[h],s.rds⟩
 |.panic v=>fun all fin s fr h _=>IM all fin s v fr h
 |_=>fun _ _ _ _ _ _=>none
def sM (e:AEx):DS->AF->(DS->RX)->RX:=
 match e with
 |.normal=>fun s fr k=>k ⟨fr,s.h,s.nk,s.hs,s.rds⟩
 |_=>fun _ _ _=>none
def rT (r:OpR):DS->aX->DI->(DS->RX)->RX:=
 match r with
 |.val v _=>fun s o d k=>k ⟨s.fr.put o.dst v,s.h,s.nk,s.hs,cond (Nat.beq d.lo d.hi) s.rds (⟨s.fr.tm,o.op,v,d.lo,d.hi⟩::s.rds)⟩
 |_=>fun _ _ _ _=>none
def OM (s:DS)(o:aX)(d:DI)(k:DS->RX):RX:=
 aq (wants o.guard s.fr.tm) fun w=>cond w (rT (evOp o.op s.fr.tm s.h) s o d k) (k ⟨s.fr.put o.dst (.tup []),s.h,s.nk,s.hs,s.rds⟩)
def rj (c:Cls):aG->List (aX×DI)->aX->DI->DS->(DS->RX)->RX:=
 match c with
 |.born=>fun _ _ o _ s k=>k ⟨s.fr.put o.dst (.ptr s.nk 0 0),s.h,Nat.succ s.nk,s.hs,s.rds⟩
 |.acts=>fun call all o d s k=>aq (fA o call s.fr s.h) fun p=>uX p.1 all d.fin s p.2.1 p.2.2 k
 |.still=>fun call _ o _ s k=>aq (fA o call s.fr s.h) fun p=>sM p.1 s p.2.1 k
 |.reads=>fun _ _ o d s k=>OM s o d k
def ji (l:List (aX×DI)):aG->List (aX×DI)->DS->RX:=
 List.rec (fun _ _ s=>IN s) (fun p _ ih call all s=>rj p.1.op.cls call all p.1 p.2 s (ih call all)) l
def xd (ops:List (aX×DI))(fr:AF)(h:AH):DS:=⟨fr,kI ops h,h.z,[kI ops h],[]⟩
def LY (n:Nat):(AF->AH->RX)->AF->AH->RX:=
 Nat.rec (fun _ _ _=>none) (fun _ ih step fr h=>jH (step fr h) (ih step)) n
def nq (ps:List Nat):List AV->Tm->Tm:=List.rec (fun _ tm=>tm) (fun p _ ih as tm=>List.casesOn as tm fun a as=>ih as (tm.put p a)) ps
def hY {β:Type}(o:eI)(no:β):(LoopState->Option AEx->Tm->List Nat->aw->aw->FuncId->β)->β:=
 match o with
 |.loop st pend tm ps as b f=>fun k=>k st pend tm ps as b f
 |_=>fun _=>no
def wQ (fr:AF)(ps:List Nat)(as b:aw)(h:AH):Option (Nat×List DF×AH):=
 Option.casesOn fr.cx.rnd (some (Nat.succ h.z,[.mark h.z],(h.new (.dfd false)).new (.loop .ready none fr.tm ps as b fr.cx.fid)))
  fun l=>aq (h.get l) fun o=>hY o none fun _ _ _ _ _ _ _=>some (h.z,[],h.new (.loop .ready none fr.tm ps as b fr.cx.fid))
def wM (s:LoopState):Bool:=LoopState.casesOn s false true false false
def IF (s:LoopState):Bool:=LoopState.casesOn s true false false false
def uT (fr:AF)(l:Nat)(h:AH):RX:=
 aq (h.get l) fun o=>hY o none fun st pend tm ps as b f=>
  cond (wM st) none (Option.casesOn pend (some (.normal,fr,h.set l (.loop .exhausted none tm ps as b f)))
   fun e=>some (e,fr,h.set l (.loop .exhausted (some e) tm ps as b f)))
def CD (o:bI):AF->Nat->AH->RX:=
 match o with
 |.ret _=>fun fr l h=>uT fr l h
 |.pan v=>fun fr _ h=>some (.panic v,fr,h)
def AK (mk:List DF)(fr:AF):AF:=⟨fr.tm,⟨mk++fr.cx.dfs,fr.cx.rc,fr.cx.rnd,fr.cx.fid⟩⟩
def IG (call:aG)(f:AX)(ps:List Nat)(as b:aw)(fr:AF)(h:AH):RX:=
 aq (wQ fr ps as b h) fun p=>aq (call (ev f fr.tm) [.yld p.1] .no p.2.2) fun q=>CD q.1 (AK p.2.1 fr) p.1 q.2.2
def Hq (c:AV):(AF->AH->RX)->(AF->AH->RX)->AF->AH->RX:=
 match c with
 |.bool t=>fun a b fr h=>cond t (a fr h) (b fr h)
 |_=>fun _ _ _ _=>none
def VE (e:AEx):Nat->AEx:=
 match e with
 |.exit j=>fun id=>cond (Nat.beq j id) .normal (.exit j)
 |e=>fun _=>e
def VD (id:Nat)(r:RX):RX:=aq r fun p=>some (VE p.1 id,p.2.1,p.2.2)
def evCode (c:aw):aG->Nat->AF->AH->RX:=
 aw.rec
  (fun _ _ fr h=>some (.normal,fr,h))
  (fun ops call _ fr h=>rY ops call fr h)
  (fun ops call _ fr h=>ji ops call ops (xd ops fr h))
  (fun _ _ a b call n fr h=>jH (a call n fr h) (b call n))
  (fun c _ _ a b call n fr h=>Hq (ev c fr.tm) (a call n) (b call n) fr h)
  (fun id _ a call n fr h=>VD id (a call n fr h))
  (fun _ a call n fr h=>LY n (a call n) fr h)
  (fun f ps as b _ _ call _ fr h=>IG call f ps as b fr h)
  (fun id _ _ fr h=>some (.exit id,fr,h))
  (fun _ a call n fr h=>a call n fr h)
  (fun _ _ fr h=>some (.ret,fr,h))
  c
end
inductive Md where
 |returning
 |panicking (v:AV)
noncomputable section
def TK (rc:RC):Md->AH->Option (Md×AH):=
 match rc with
 |.ret=>fun m h=>match m with
  |.returning=>some (.returning,h)
  |.panicking _=>none
 |.done=>fun m h=>match m with
  |.returning=>none
  |.panicking _=>some (.returning,h)
 |.pend _=>fun m h=>match m with
  |.returning=>none
  |.panicking v=>some (.panicking v,h)
 |.no=>fun _ _=>none
def GY (o:bI):RC->Md->AH->Option (Md×AH):=
 match o with
 |.ret _=>fun rc m h=>TK rc m h
 |.pan _=>fun _ _ _=>none
def aco (m:Md):RC:=
 match m with
 |.returning=>.ret
 |.panicking v=>.pend v
def abz (o:eI):Option Bool:=
 match o with
 |.dfd t=>some t
 |_=>none
def VQ (d:DF):aG->Md->AH->Option (Md×AH):=
 match d with
 |.mark k=>fun _ m h=>aq (h.get k) fun o=>aq (abz o) fun t=>cond t none (some (m,h.set k (.dfd true)))
 |.call f as=>fun call m h=>aq (call f as (aco m) h) fun q=>GY q.1 q.2.1 m q.2.2
def jK (l:List DF):aG->Md->AH->Option (Md×AH):=
 List.rec (fun _ m h=>some (m,h)) (fun d _ ih call m h=>aq (VQ d call m h) fun p=>ih call p.1 p.2) l
def GX (r:bF):Tm->AH->Option AV:=
 match r with
 |.tmp t=>fun tm _=>some (nth tm t)
 |.cell a agg sz=>fun tm h=>dH (nth tm a) h agg sz
def fF (l:List bF):Tm->AH->Option (List AV):=
 List.rec (fun _ _=>some []) (fun r _ ih tm h=>aq (GX r tm h) fun v=>aq (ih tm h) fun vs=>some (v::vs)) l
def one (l:List AV):AV:=Fw l (.tup l) fun v=>v
def we (f:AV->AV)(l:List AV):List AV:=List.rec [] (fun x _ ih=>f x::ih) l
def jh (h:AH)(v:AV)(k g sz off n:Nat)(f:AV->AV):AV:=
 Option.casesOn (aq (h.get k) abq) v fun r=>
  cond (and (Nat.beq g r.1) (Nat.beq sz r.2.1)) (Option.casesOn (chunk r.2.2.1 r.2.1 n (drp (Nat.mul off r.2.1) r.2.2.2.1)) v fun es=>.ls (we f es)) v
def frz1 (v:AV):AH->Nat->(AV->AV)->AV:=
 match v with
 |.agg cs=>fun _ _ f=>.agg (we f cs)
 |.tup vs=>fun _ _ f=>.tup (we f vs)
 |.row k g sz off n=>fun h base f=>cond (Nat.ble base k) (jh h (.row k g sz off n) k g sz off n f) (.row k g sz off n)
 |v=>fun _ _ _=>v
def frz (n:Nat):AH->Nat->AV->AV:=Nat.rec (fun _ _ v=>v) (fun _ ih h base v=>frz1 v h base (ih h base)) n
def VJ (h0 h:AH)(rc:RC)(v:AV):Option (bI×RC×AH):=
 cond (Nat.ble h0.z h.low) (some (.ret (frz 4 h h0.z v),rc,⟨h.z,h0.low,h0.objs⟩)) (some (.ret v,rc,⟨h.z,gz h.low h0.low,h.objs⟩))
def qM (pure:Bool)(h0 h:AH)(rc:RC)(vs:List AV):Option (bI×RC×AH):=
 cond pure (VJ h0 h rc (one vs)) (some (.ret (one vs),rc,h))
def lowBack (pure:Bool)(h0 h:AH):AH:=cond pure ⟨h.z,gz h.low h0.low,h.objs⟩ h
def VP (m:Md):Bool->AH->tC->AF->AH->Option (bI×RC×AH):=
 match m with
 |.returning=>fun pure h0 fn fr h=>aq (fF fn.results fr.tm h) fun vs=>qM pure h0 h fr.cx.rc vs
 |.panicking v=>fun pure h0 _ fr h=>some (.pan v,fr.cx.rc,lowBack pure h0 h)
def tz (call:aG)(pure:Bool)(h0:AH)(fn:tC)(fr:AF)(m:Md)(h:AH):Option (bI×RC×AH):=
 aq (jK fr.cx.dfs call m h) fun p=>VP p.1 pure h0 fn fr p.2
end
structure Env where
 cf:FuncId->Option tC
 pure:FuncId->Bool
noncomputable section
def bn (as:List AV):Tm:=Tr.ofList as
def lowered (pure:Bool)(h:AH):AH:=cond pure ⟨h.z,h.z,h.objs⟩ h
def fnEx (e:AEx):aG->Bool->AH->tC->AF->AH->Option (bI×RC×AH):=
 match e with
 |.normal=>fun call pure h0 fn fr h=>tz call pure h0 fn fr .returning h
 |.ret=>fun call pure h0 fn fr h=>tz call pure h0 fn fr .returning h
 |.panic v=>fun call pure h0 fn fr h=>tz call pure h0 fn fr (.panicking v) h
 |.exit _=>fun _ _ _ _ _ _=>none
def dZ (E:Env)(call:aG)(n:Nat)(f:FuncId)(as:List AV)(rc:RC)(h:AH):Option (bI×RC×AH):=
 aq (E.cf f) fun fn=>aq (evCode fn.body call n ⟨bn as,⟨[],rc,none,f⟩⟩ (lowered (E.pure f) h)) fun p=>fnEx p.1 call (E.pure f) h fn p.2.1 p.2.2
def kB (h:AH)(l:Nat)(st:LoopState)(pend:Option AEx):Option AH:=
 aq (h.get l) fun o=>hY o none fun _ _ tm ps as b f=>some (h.set l (.loop st pend tm ps as b f))
def wA (b:Bool)(h:Option AH):Option (bI×RC×AH):=aq h fun h=>some (.ret (.bool b),.no,h)
def ZA (e:AEx):Nat->AH->Option (bI×RC×AH):=
 match e with
 |.normal=>fun l h=>wA true (kB h l .ready none)
 |.ret=>fun l h=>wA false (kB h l .done (some .ret))
 |.exit id=>fun l h=>wA false (kB h l .done (some (.exit id)))
 |.panic v=>fun _ h=>some (.pan v,.no,h)
def nQ (h:AH)(l:Nat):Option AH:=
 aq (h.get l) fun o=>hY o none fun st pend tm ps as b f=>cond (IF st) (some (h.set l (.loop .busy pend tm ps as b f))) none
def CG (e:AEx):Bool:=
 match e with
 |.normal=>true
 |_=>false
def zf (call:aG)(n:Nat)(l:Nat)(b:aw)(r:RX):Option (bI×RC×AH):=
 aq r fun p=>cond (CG p.1) (aq (nQ p.2.2 l) fun h=>aq (evCode b call n p.2.1 h) fun q=>cond (Zn q.2.1.cx.dfs) (ZA q.1 l q.2.2) none) none
def nG (call:aG)(n:Nat)(l:Nat)(args:List AV)(h:AH):Option (bI×RC×AH):=
 aq (h.get l) fun o=>hY o none fun _ _ tm ps as b f=>
  cond (Nat.beq (len args) (len ps)) (zf call n l b (evCode as call n ⟨nq ps args tm,⟨[],.no,some l,f⟩⟩ h)) none
def aeM (r:RC):Bool:=
 match r with
 |.no=>true
 |_=>false
def vX (fv:AV):Env->aG->Nat->List AV->RC->AH->Option (bI×RC×AH):=
 match fv with
 |.fn f first caps=>fun E call n args rc h=>dZ E call n f (app first (app args caps)) rc h
 |.yld l=>fun _ call n args rc h=>cond (aeM rc) (nG call n l args h) none
 |_=>fun _ _ _ _ _ _=>none
def evCall (E:Env)(n:Nat):aG:=
 Nat.rec (fun _ _ _ _=>none) (fun n ih fv args rc h=>vX fv E ih n args rc h) n
end
variable {α β:Type}
theorem aF {a:α}{k:α->Option β}: aq (some a) k=k a:=rfl
theorem pA {k:α->Option β}: aq (none:Option α) k=none:=rfl
theorem ah {o:Option α}{k:α->Option β}{b:β}(h:aq o k=some b):∃a,o=some a/\k a=some b:=by
 cases o with
 |none=>cases h
 |some a=>exact⟨a,rfl,h⟩
theorem Pc {o:Option α}{k:α->Option β}{a:α}(h:o=some a):aq o k=k a:=by subst h;rfl
theorem aH {c:Bool}{x:Option α}{b:α}(h:cond c x none=some b):c=true/\x=some b:=by
 cases c with
 |false=>cases h
 |true=>exact⟨rfl,h⟩
theorem fZ {c:Bool}{x:Option α}{b:α}(h:cond c none x=some b):c=false/\x=some b:=by
 cases c with
 |true=>cases h
 |false=>exact⟨rfl,h⟩
theorem dd {a b:Bool}(h:and a b=true):a=true/\b=true:=by
 cases a<;>cases b<;>first|exact⟨rfl,rfl⟩|cases h
theorem beq_eq {a b:Nat}(h:Nat.beq a b=true):a=b:=Nat.eq_of_beq_eq_true h
theorem eG {a b:Nat}(h:Nat.ble a b=true):a<=b:=Nat.le_of_ble_eq_true h
theorem jL {a b:Nat}(h:Nat.blt a b=true):a<b:=Nat.le_of_ble_eq_true h
theorem lV {a b:Nat}(h:Nat.ble a b=false):b<a:=by
 rcases Nat.lt_or_ge b a with x|x
 ·exact x
 ·rw[Nat.ble_eq_true_of_le x]at h;cases h
theorem LB {a b:Nat}(h:Nat.blt a b=false):b<=a:=Nat.le_of_lt_succ (lV h)
theorem fk (a b:List α):app a b=a++b:=by
 induction a with
 |nil=>rfl
 |cons x a ih=>show x::app a b=_;rw[ih];rfl
theorem bH (l:List α):len l=l.length:=by
 induction l with
 |nil=>rfl
 |cons x a ih=>show Nat.succ (len a)=_;rw[ih];rfl
theorem fM (n:Nat):∀l:List α,drp n l=l.drop n:=by
 induction n with
 |zero=>intro l;rfl
 |succ n ih=>intro l;cases l with
  |nil=>rfl
  |cons x l=>show drp n l=_;rw[ih];rfl
theorem lz (n:Nat):∀l:List α,tke n l=l.take n:=by
 induction n with
 |zero=>intro l;cases l<;>rfl
 |succ n ih=>intro l;cases l with
  |nil=>rfl
  |cons x l=>show x::tke n l=_;rw[ih];rfl
theorem iQ (n:Nat):∀l:List α,pK n l=l[n]?:=by
 induction n with
 |zero=>intro l;cases l<;>rfl
 |succ n ih=>intro l;cases l with
  |nil=>rfl
  |cons x l=>show pK n l=_;rw[ih];rfl
theorem Co (cs:List α):over [] cs=cs:=rfl
theorem lK (v c:α)(vs cs:List α):over (v::vs) (c::cs)=v::over vs cs:=rfl
theorem xj (vs cs:List α):setR 0 vs cs=over vs cs:=rfl
theorem gK (n:Nat)(vs:List α)(c:α)(cs:List α):setR (n+1) vs (c::cs)=c::setR n vs cs:=rfl
theorem Bi (vs:List α):∀cs:List α,(over vs cs).length=cs.length:=by
 induction vs with
 |nil=>intro cs;rfl
 |cons v vs ih=>intro cs;cases cs with
  |nil=>rfl
  |cons c cs=>rw[lK];simp[ih]
theorem jq (off:Nat)(vs:List α):∀cs:List α,(setR off vs cs).length=cs.length:=by
 induction off with
 |zero=>intro cs;exact Bi vs cs
 |succ n ih=>intro cs;cases cs with
  |nil=>rfl
  |cons c cs=>rw[gK];simp[ih]
theorem Nz (vs:List α):∀(cs:List α) (i:Nat),vs.length<=cs.length->(over vs cs)[i]?=if i<vs.length then vs[i]? else cs[i]?:=by
 induction vs with
 |nil=>intro cs i _;simp[Co]
 |cons v vs ih=>intro cs i h;cases cs with
  |nil=>simp at h
  |cons c cs=>
   rw[lK];cases i with
   |zero=>simp
   |succ i=>simp only[List.getElem?_cons_succ,List.length_cons,Nat.succ_lt_succ_iff];exact ih cs i (by simpa using h)
theorem nT (off:Nat)(vs:List α):∀(cs:List α) (i:Nat),off+vs.length<=cs.length->
  (setR off vs cs)[i]?=if off<=i/\i<off+vs.length then vs[i-off]? else cs[i]?:=by
 induction off with
 |zero=>intro cs i h;rw[xj,Nz vs cs i (by omega)];simp
 |succ n ih=>intro cs i h;cases cs with
  |nil=>simp at h
  |cons c cs=>
   rw[gK];cases i with
   |zero=>rw[if_neg (by omega)];rfl
   |succ i=>
    simp only[List.getElem?_cons_succ];rw[ih cs i (by simp only[List.length_cons]at h;omega)];by_cases hc:n<=i/\i<n+vs.length
    ·rw[if_pos hc,if_pos (by omega)];congr 1;omega
    ·rw[if_neg hc,if_neg (by omega)]
theorem Kz (f:α->Option β)(a:α)(l:List α):jx f (a::l)=aq (f a) fun b=>aq (jx f l) fun r=>some (b::r):=rfl
theorem bT {f:α->Option β}{a:α}{l:List α}{r:List β}(h:jx f (a::l)=some r):∃b r',f a=some b/\jx f l=some r'/\r=b::r':=by
 rw[Kz]at h;obtain⟨b,hb,h⟩:=ah h;obtain⟨r',hr,h⟩:=ah h;cases h;exact⟨b,r',hb,hr,rfl⟩
theorem tf {f:α->Option β}: ∀{l:List α} {r:List β},jx f l=some r->r.length=l.length:=by
 intro l;induction l with
 |nil=>intro r h;cases h;rfl
 |cons a l ih=>intro r h;obtain⟨b,r',_,hr,rfl⟩:=bT h;simp[ih hr]
theorem mc:flat []=[]:=rfl
theorem bO (v:AV)(l:List AV):flat (v::l)=v.cells++flat l:=by show app v.cells (flat l)=_;rw[fk]
theorem zK (tm:Tm):evs [] tm=[]:=rfl
theorem mf (x:AX)(l:List AX)(tm:Tm):evs (x::l) tm=ev x tm::evs l tm:=rfl
theorem qw:aO []=true:=rfl
theorem bQ (a:AV)(l:List AV):aO (a::l)=(a.isCell&&aO l):=rfl
theorem BO (a:AV)(l:List AV):iu (a::l)=and a.lies (iu l):=rfl
theorem ue (sz:Nat)(a:AV)(l:List AV):fl sz (a::l)=and (Nat.beq (len a.cells) sz) (fl sz l):=rfl
theorem dw (l:List AV):aO l=true↔∀a∈l,a.isCell=true:=by
 induction l with
 |nil=>simp[qw]
 |cons a l ih=>simp[bQ,ih]
theorem eY (a b:List AV):aO (a++b)=(aO a&&aO b):=by
 induction a with
 |nil=>simp[qw]
 |cons x a ih=>simp[bQ,ih,Bool.and_assoc]
theorem xh (sz:Nat)(l:List AV):fl sz l=true↔∀a∈l,a.cells.length=sz:=by
 induction l with
 |nil=>simp[fl]
 |cons a l ih=>
  rw[ue,bH];constructor
  ·intro h;obtain⟨h1,h2⟩:=dd h;intro x hx;cases hx with
   |head=>exact beq_eq h1
   |tail _ hx=>exact ih.1 h2 x hx
  ·intro h;rw[ih.2 fun x hx=>h x (.tail _ hx),h a (.head _),Nat.beq_refl];rfl
theorem vh {a b:Bool}(h:oG a b=true):a=b:=by cases a<;>cases b<;>first|rfl|cases h
theorem xt (a b:Bool):oG a b=(a==b):=by cases a<;>cases b<;>rfl
