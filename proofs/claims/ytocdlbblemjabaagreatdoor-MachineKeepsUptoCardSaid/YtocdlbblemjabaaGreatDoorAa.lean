/- AbsGo: binary tries over the natural numbers, with their laws (plain data; no condition). Written by recursors, so that the kernel evaluates them quickly. -/
import GoSem.Step
import Derived.Orders
noncomputable section
namespace Go.AG
theorem o_{p:Prop}(h:p:=by omega):p:=h
theorem d_{p:Prop}[Decidable p](h:¬p:=by omega):decide p=false:=decide_eq_false h
theorem t_{p:Prop}[Decidable p](h:p:=by omega):decide p=true:=decide_eq_true h
theorem a_ {α:Type}{l:List α}{i:Nat}(h:i<l.length):l[i]?=some l[i]:=List.getElem?_eq_getElem h
theorem m_ {α:Type}{l:List α}{i:Nat}{a:α}(h:l[i]?=some a):a∈l:=List.mem_of_getElem? h
theorem e_ (n:Nat):n≤n:=Nat.le_refl n
theorem D_ {p:Prop}[i:Decidable p](h:¬p):decide p=false:=decide_eq_false h
theorem T_ {p:Prop}[i:Decidable p](h:p):decide p=true:=decide_eq_true h
theorem L_ {α β:Type}{l:List α}(f:α→β):(l.map f).length=l.length:=List.length_map f
theorem A_ {α:Type}(l:List α):l++[]=l:=List.append_nil l
theorem z_ (n:Nat):0+n=n:=Nat.zero_add n
theorem N_ {c:Prop}{h:Decidable c}(n:¬c){α:Type}{t e:α}:ite c t e=e:=if_neg n
theorem P_ {c:Prop}{h:Decidable c}(n:c){α:Type}{t e:α}:ite c t e=t:=if_pos n
theorem E_ {α:Type}{l:List α}{i:Nat}{a:α}:l[i]?=some a↔∃ h:i<l.length,l[i]=a:=List.getElem?_eq_some_iff
inductive Tr (α:Type) where
 |lf
 |nd (v:Option α) (l r:Tr α)
theorem Dn {a b:Nat}(h:a≠b):Nat.beq a b=false:=by
 cases e:Nat.beq a b with
 |false=>rfl
 |true=>exact absurd (Nat.eq_of_beq_eq_true e) h
namespace Tr
variable {α:Type}
def get (t:Tr α):Nat->Option α:=
 Tr.rec (fun _=>none) (fun v _ _ gl gr n=>cond (Nat.beq n 0) v (cond (Nat.beq (Nat.mod n 2) 1) (gl (Nat.div n 2)) (gr (Nat.pred (Nat.div n 2))))) t
def Fw (f:Nat):Tr α->Nat->α->Tr α:=
 Nat.rec (fun t _ _=>t) (fun _ pf t=>Tr.casesOn t
  (fun n x=>cond (Nat.beq n 0) (.nd (some x) .lf .lf) (cond (Nat.beq (Nat.mod n 2) 1) (.nd none (pf .lf (Nat.div n 2) x) .lf) (.nd none .lf (pf .lf (Nat.pred (Nat.div n 2)) x))))
  (fun v l r n x=>cond (Nat.beq n 0) (.nd (some x) l r) (cond (Nat.beq (Nat.mod n 2) 1) (.nd v (pf l (Nat.div n 2) x) r) (.nd v l (pf r (Nat.pred (Nat.div n 2)) x))))) f
def put (t:Tr α)(n:Nat)(x:α):Tr α:=Fw (Nat.succ n) t n x
def mZ (l:List α):Nat->Tr α->Tr α:=
 List.rec (fun _ t=>t) (fun x _ ih n t=>ih (Nat.succ n) (put t n x)) l
def ofList (l:List α):Tr α:=mZ l 0 .lf
theorem aiz (n:Nat):(Tr.lf:Tr α).get n=none:=rfl
theorem BF (v:Option α)(l r:Tr α)(n:Nat):
  (Tr.nd v l r).get n=cond (Nat.beq n 0) v (cond (Nat.beq (n % 2) 1) (l.get (n / 2)) (r.get (n / 2-1))):=rfl
theorem ab1 (f:Nat)(v:Option α)(l r:Tr α)(n:Nat)(x:α):Fw (f+1) (.nd v l r) n x =
  cond (Nat.beq n 0) (.nd (some x) l r) (cond (Nat.beq (n % 2) 1) (.nd v (Fw f l (n / 2) x) r) (.nd v l (Fw f r (n / 2-1) x))):=rfl
theorem ab2 (f:Nat)(n:Nat)(x:α):Fw (f+1) .lf n x =
  cond (Nat.beq n 0) (.nd (some x) .lf .lf) (cond (Nat.beq (n % 2) 1) (.nd none (Fw f .lf (n / 2) x) .lf) (.nd none .lf (Fw f .lf (n / 2-1) x))):=rfl
theorem VN (f:Nat):∀ (t:Tr α) (n m:Nat) (x:α),n<f->(Fw f t n x).get m=if m=n then some x else t.get m:=by
 induction f with
 |zero=>intro t n m x h;omega
 |succ f ih=>
  intro t n m x h;have key:∀ (v:Option α) (l r:Tr α),
    (cond (Nat.beq n 0) (Tr.nd (some x) l r) (cond (Nat.beq (n % 2) 1) (.nd v (Fw f l (n / 2) x) r) (.nd v l (Fw f r (n / 2-1) x)))).get m
     = if m=n then some x else (Tr.nd v l r).get m:=by
   intro v l r;by_cases h0:n=0
   ·subst h0;simp only[Nat.beq_refl,cond_true,BF];by_cases hm:m=0
    ·subst hm;simp
    ·have:Nat.beq m 0=false:=Dn hm;simp[this,hm]
   ·have b0:Nat.beq n 0=false:=Dn h0;simp only[b0,cond_false];by_cases h1:n % 2=1
    ·simp only[h1,Nat.beq_refl,cond_true,BF];by_cases hm:m=0
     ·subst hm;simp[Ne.symm h0]
     ·have bm:Nat.beq m 0=false:=Dn hm;simp only[bm,cond_false];by_cases hm1:m % 2=1
      ·simp only[hm1,Nat.beq_refl,cond_true];rw[ih _ _ _ _ o_];by_cases e:m=n
       ·simp[e]
       ·rw[N_ o_,N_ e]
      ·have:Nat.beq (m % 2) 1=false:=Dn hm1;simp only[this,cond_false];rw[N_ (by intro e;subst e;exact hm1 h1)]
    ·have b1:Nat.beq (n % 2) 1=false:=Dn h1;simp only[b1,cond_false,BF];by_cases hm:m=0
     ·subst hm;simp[Ne.symm h0]
     ·have bm:Nat.beq m 0=false:=Dn hm;simp only[bm,cond_false];by_cases hm1:m % 2=1
      ·simp only[hm1,Nat.beq_refl,cond_true];rw[N_ (by intro e;subst e;exact h1 hm1)]
      ·have:Nat.beq (m % 2) 1=false:=Dn hm1;simp only[this,cond_false];rw[ih _ _ _ _ o_];by_cases e:m=n
       ·simp[e]
       ·rw[N_ o_,N_ e]
  cases t with
  |nd v l r=>rw[ab1];exact key v l r
  |lf=>
   have h1:=key none .lf .lf;have h2:(Tr.nd (α:=α) none .lf .lf).get m=(Tr.lf:Tr α).get m:=by
    simp only[BF,aiz];cases Nat.beq m 0<;>cases Nat.beq (m % 2) 1<;>rfl
   rw[h2]at h1;rw[<- h1,ab2]
theorem get_put (t:Tr α)(n m:Nat)(x:α):(t.put n x).get m=if m=n then some x else t.get m:=
 VN _ _ _ _ _ (Nat.lt_succ_self n)
theorem uv (l:List α):∀ (n:Nat) (t:Tr α) (m:Nat),
  (mZ l n t).get m=if n<=m/\m<n+l.length then l[m-n]? else t.get m:=by
 induction l with
 |nil=>intro n t m;rw[N_ (by simp only[List.length_nil];omega)];rfl
 |cons x l ih=>
  intro n t m;have e:mZ (x::l) n t=mZ l (n+1) (t.put n x):=rfl;rw[e,ih,get_put];simp only[List.length_cons];by_cases h:n+1<=m/\m<n+1+l.length
  ·rw[P_ h,P_ o_];have:m-n=(m-(n+1))+1:=o_;rw[this,List.getElem?_cons_succ]
  ·rw[N_ h];by_cases e:m=n
   ·subst e;simp
   ·rw[N_ e,N_ o_]
theorem get_ofList (l:List α)(m:Nat):(ofList l).get m=l[m]?:=by
 unfold ofList;rw[uv];simp only[Nat.zero_le,true_and,z_,Nat.sub_zero];by_cases h:m<l.length
 ·rw[P_ h]
 ·rw[N_ h,List.getElem?_eq_none o_];rfl
end Tr
inductive AV where
 |bool (b:Bool)
 |int (k:IntKind) (n:Int)
 |str (s:ByteArray)
 |nilp
 |ptr (k g off:Nat)
 |vptr (v:AV)
 |nl
 |ls (es:List AV)
 |clip (es:List AV)
 |row (k g sz off len:Nat)
 |nilm
 |map (k:Nat)
 |fn (f:FuncId) (first caps:List AV)
 |yld (l:Nat)
 |nilf
 |ifc (t:TypeId) (v:AV)
 |nili
 |agg (cs:List AV)
 |tup (vs:List AV)
 |any
 deriving Inhabited
abbrev i_ (x:Int):AV:=.int .i64 x
def AV.cells:AV->List AV
 |.agg cs=>cs
 |v=>[v]
def AV.isAgg:AV->Bool
 |.agg _=>true
 |_=>false
def AV.isCell:AV->Bool
 |.agg _|.tup _|.any=>false
 |_=>true
def AV.lies:AV->Bool
 |.tup _|.any=>false
 |_=>true
inductive AX where
 |t (n:Nat)
 |c (v:AV)
 deriving Inhabited
inductive EqK where
 |boolK
 |num
 |ptr
 |slice
 |map
 |func
 |iface (c:Bool)
 |struct (offs:List (Nat×Nat))
 deriving Inhabited
inductive ABI where
 |len (k:Nat)
 |append (sz:Nat) (agg:Bool) (zero:List AV) (bytes:Nat)
 |copy (sz:Nat) (agg:Bool)
 |recover
 |max
 |min
 |clear (sz:Nat) (zero:List AV)
 deriving Inhabited
inductive AOp where
 |mv (x:AX)
 |pick (c a b:AX)
 |new (zero:List AV)
 |box (n:Nat) (x:AX)
 |build (zero:List AV) (parts:List (Nat×Nat×AX))
 |lit (frz agg:Bool) (sz:Nat) (zero:List AV) (len:Nat) (parts:List (Nat×AX))
 |load (agg:Bool) (sz:Nat) (x:AX)
 |store (sz:Nat) (a x:AX)
 |nilChk (x:AX)
 |bin (op:BinOp) (eqk:EqK) (x y:AX)
 |un (op:UnOp) (x:AX)
 |convInt (k:IntKind) (x:AX)
 |convId (x:AX)
 |mkIface (t:TypeId) (x:AX)
 |mkFn (f:FuncId) (first caps:List AX)
 |mkMap
 |mkSlice (agg:Bool) (sz bytes:Nat) (zero:List AV) (len cap:AX)
 |slice (str:Bool) (sz:Nat) (x:AX) (lo hi mx:Option AX)
 |faddr (off sz:Nat) (agg:Bool) (x:AX)
 |field (off sz:Nat) (agg:Bool) (x:AX)
 |iaddr (sz:Nat) (x i:AX)
 |iaddrA (len sz:Nat) (agg:Bool) (x i:AX)
 |strIdx (x i:AX)
 |arrIdx (len sz:Nat) (agg:Bool) (x i:AX)
 |lookup (kt:Nat) (zero:AV) (x i:AX) (ok:Bool)
 |mapUp (kt:Nat) (m k v:AX)
 |assert (t:TypeId) (zero:AV) (x:AX) (ok:Bool)
 |extract (x:AX) (i:Nat)
 |builtin (b:ABI) (args:List AX)
 |call (f:AX) (args:List AX)
 |defer (f:AX) (args:List AX)
 |panic (x:AX)
 deriving Inhabited
inductive Cls where
 |still
 |reads
 |born
 |acts
 deriving DecidableEq
def AOp.cls:AOp->Cls
 |.load _ _ _|.lookup _ _ _ _ _|.builtin (.len _) _=>.reads
 |.new _=>.born
 |.box _ _|.lit false _ _ _ _ _|.store _ _ _|.mkMap|.mkSlice _ _ _ _ _ _|.slice _ _ _ _ _ (some _)
 |.mapUp _ _ _ _|.builtin (.append _ _ _ _) _|.builtin (.copy _ _) _|.builtin .recover _|.builtin (.clear _ _) _
 |.call _ _|.defer _ _|.panic _=>.acts
 |_=>.still
structure aV where
 dst:Option Nat
 op:AOp
 guard:Option (Nat×Bool)
 deriving Inhabited
structure DI where
 lo:Nat
 hi:Nat
 fin:Bool
 deriving Inhabited
inductive aF where
 |skip
 |region (ops:List aV)
 |draw (ops:List (aV×DI))
 |seq (a b:aF)
 |cond (c:AX) (a b:aF)
 |block (id:Nat) (a:aF)
 |loop (a:aF)
 |rangeFunc (f:AX) (params:List Nat) (assign body:aF)
 |exit (id:Nat)
 |scope (a:aF)
 |ret
 deriving Inhabited
inductive bK where
 |tmp (t:Nat)
 |cell (a:Nat) (agg:Bool) (sz:Nat)
 deriving Inhabited
structure xr where
 ntmps:Nat
 results:List bK
 body:aF
 deriving Inhabited
noncomputable section
def aD {α β:Type}(o:Option α):(α->Option β)->Option β:=Option.casesOn o (fun _=>none) (fun a k=>k a)
def hX {α β:Type}(f:α->Option β)(l:List α):Option (List β):=
 List.rec (some []) (fun a _ ih=>aD (f a) fun b=>aD ih fun r=>some (b::r)) l
def adU (d:TypeDesc):Tr TypeInfo->Option TypeDesc:=
 match d with
 |.named _ u=>fun T=>aD (T.get u) fun i=>some i.desc
 |d=>fun _=>some d
def und (T:Tr TypeInfo)(t:TypeId):Option TypeDesc:=aD (T.get t) fun i=>adU i.desc T
def aggD (d:TypeDesc):Bool:=
 match d with
 |.struct _=>true
 |.array _ _=>true
 |_=>false
def cm (T:Tr TypeInfo)(t:TypeId):Bool:=Option.casesOn (und T t) false aggD
def szT (T:Tr TypeInfo)(t:TypeId):Option Nat:=aD (T.get t) fun i=>aD (adU i.desc T) fun _=>some i.size
def ofSl (a:Option Addr):Nat->Nat->Option AV:=
 match a with
 |none=>fun l c=>bif Nat.beq l 0&&Nat.beq c 0 then some .nl else none
 |some _=>fun _ _=>none
def ofFn (f:Fn):Array Value->Array Value->Option AV:=
 match f with
 |.func f=>fun a b=>bif Nat.beq a.toList.length 0&&Nat.beq b.toList.length 0 then some (.fn f [] []) else none
 |_=>fun _ _=>none
def aR (l:List AV):Bool:=List.rec true (fun a _ ih=>a.isCell&&ih) l
mutual
def ofV (v:Value):Option AV:=
 match v with
 |.bool b=>some (.bool b)
 |.int k n=>some (.int k n)
 |.string s=>some (.str s)
 |.pointer a=>match a with
  |none=>some .nilp
  |some _=>none
 |.slice a l c=>ofSl a l c
 |.map r=>match r with
  |none=>some .nilm
  |some _=>none
 |.nilFunc=>some .nilf
 |.nilIface=>some .nili
 |.func f a b=>ofFn f a b
 |.agg ⟨cs⟩=>aD (TW cs) fun l=>bif aR l then some (.agg l) else none
 |.tuple ⟨vs⟩=>aD (TW vs) fun l=>some (.tup l)
 |.iface t v=>aD (ofV v) fun a=>some (.ifc t a)
 |_=>none
def TW (l:List Value):Option (List AV):=
 match l with
 |[]=>some []
 |v::l=>aD (ofV v) fun a=>aD (TW l) fun r=>some (a::r)
end
def mq (a:Bool):Bool->Bool:=Bool.casesOn a (fun b=>Bool.casesOn b true false) (fun b=>b)
def jN (T:Tr TypeInfo)(t:TypeId):Option AV:=
 aD (T.get t) fun i=>aD i.zero fun z=>aD (ofV z) fun v=>
  bif Nat.beq v.cells.length i.size&&aR v.cells&&mq v.isAgg (cm T t) then some v else none
def cX (x:Operand):Option AX:=
 match x with
 |.tmp t=>some (.t t)
 |.const v=>aD (ofV v) fun a=>some (.c a)
 |.global _=>none
 |.func f=>some (.c (.fn f [] []))
def isC (x:Operand):Bool:=
 match x with
 |.const _=>true
 |_=>false
def Hw (d:TypeDesc):Option Nat:=
 match d with
 |.bool=>some 0
 |.int _=>some 1
 |.string=>some 2
 |_=>none
def eT (T:Tr TypeInfo)(f:Field):Option (Nat×Nat):=
 if f.name = "_" then none else aD (und T f.type) fun d=>aD (Hw d) fun k=>aD (szT T f.type) fun _=>some (f.offset,k)
def eqD (d:TypeDesc):Program->Tr TypeInfo->TypeId->Bool->Option EqK:=
 match d with
 |.bool=>fun _ _ _ _=>some .boolK
 |.int _=>fun _ _ _ _=>some .num
 |.string=>fun _ _ _ _=>some .num
 |.pointer e=>fun _ T _ _=>aD (szT T e) fun n=>bif Nat.beq n 0 then none else some .ptr
 |.slice _=>fun _ _ _ _=>some .slice
 |.map _ _=>fun _ _ _ _=>some .map
 |.func _ _ _=>fun _ _ _ _=>some .func
 |.interface _=>fun _ _ _ c=>some (.iface c)
 |.struct fs=>fun P T t _=>bif P.stoodInHeld t||P.eqGuardType P.depth t then none else
   aD (hX (eT T) fs.toList) fun l=>some (.struct l)
 |_=>fun _ _ _ _=>none
def eqK (P:Program)(T:Tr TypeInfo)(t:TypeId)(c:Bool):Option EqK:=aD (und T t) fun d=>eqD d P T t c
def cXs (l:Array Operand):Option (List AX):=hX cX l.toList
def oA (o:Option Operand):Option (Option AX):=Option.casesOn o (some none) fun x=>aD (cX x) fun a=>some (some a)
def abt (d:TypeDesc):Option (Array Field):=
 match d with
 |.struct fs=>some fs
 |_=>none
def WZ (d:TypeDesc):Option TypeId:=
 match d with
 |.slice e=>some e
 |_=>none
def Uj (T:Tr TypeInfo)(t:TypeId):Option (Array Field):=aD (und T t) abt
def pF (T:Tr TypeInfo)(t:TypeId):Option TypeId:=aD (und T t) WZ
def Is (T:Tr TypeInfo)(fs:List Field)(p:Nat×Operand):Option (Nat×Nat×AX):=
 aD fs[p.1]? fun f=>aD (szT T f.type) fun n=>aD (cX p.2) fun x=>some (f.offset,n,x)
def Iu (n:Nat)(p:Nat×Operand):Option (Nat×Nat×AX):=aD (cX p.2) fun x=>some (p.1*n,n,x)
def adi (T:Tr TypeInfo)(z:AV)(ps:List (Nat×Operand))(fs:Array Field):Option AOp:=
 aD (hX (fun f=>szT T f.type) fs.toList) fun _=>aD (hX (Is T fs.toList) ps) fun ps=>some (.build z.cells ps)
def adk (T:Tr TypeInfo)(z:AV)(ps:List (Nat×Operand))(e:TypeId):Option AOp:=
 aD (szT T e) fun n=>aD (hX (Iu n) ps) fun ps=>some (.build z.cells ps)
def adj (d:TypeDesc):Tr TypeInfo->AV->List (Nat×Operand)->Option AOp:=
 match d with
 |.struct fs=>fun T z ps=>adi T z ps fs
 |.array _ e=>fun T z ps=>adk T z ps e
 |_=>fun _ _ _=>none
def Zr (T:Tr TypeInfo)(t:TypeId)(parts:Array (Nat×Operand)):Option AOp:=
 aD (jN T t) fun z=>aD (und T t) fun d=>adj d T z parts.toList
def Fg (p:Nat×Operand):Option (Nat×AX):=aD (cX p.2) fun x=>some (p.1,x)
def cLit (T:Tr TypeInfo)(frz:Bool)(t:TypeId)(len:Nat)(parts:Array (Nat×Operand)):Option AOp:=
 aD (pF T t) fun e=>aD (szT T e) fun n=>aD (jN T e) fun z=>aD (hX Fg parts.toList) fun ps=>
  bif Nat.ble (len*n) 16777216&&Nat.blt 0 n then some (.lit frz (cm T e) n z.cells len ps) else none
def lenD (d:TypeDesc):Option Nat:=
 match d with
 |.string=>some 0
 |.slice _=>some 1
 |.map _ _=>some 2
 |_=>none
def iD (T:Tr TypeInfo)(tys:Array TypeId)(i:Nat):Option TypeId:=aD tys.toList[i]? fun t=>pF T t
def rW (b:Builtin):Tr TypeInfo->Array TypeId->List AX->Option AOp:=
 match b with
 |.len=>fun T tys args=>aD tys.toList[0]? fun t=>aD (und T t) fun d=>aD (lenD d) fun k=>some (.builtin (.len k) args)
 |.cap=>fun T tys args=>aD (iD T tys 0) fun _=>some (.builtin (.len 3) args)
 |.append=>fun T tys args=>aD (iD T tys 0) fun e=>aD (iD T tys 1) fun _=>aD (szT T e) fun n=>aD (jN T e) fun z=>aD (T.get e) fun i=>
   bif Nat.blt 0 n then some (.builtin (.append n (cm T e) z.cells i.bytes) args) else none
 |.copy=>fun T tys args=>aD (iD T tys 0) fun e=>aD (iD T tys 1) fun _=>aD (szT T e) fun n=>
   bif Nat.blt 0 n then some (.builtin (.copy n (cm T e)) args) else none
 |.clear=>fun T tys args=>aD (iD T tys 0) fun e=>aD (szT T e) fun n=>aD (jN T e) fun z=>
   bif Nat.blt 0 n then some (.builtin (.clear n z.cells) args) else none
 |.recover=>fun _ _ args=>some (.builtin .recover args)
 |.max=>fun _ _ args=>some (.builtin .max args)
 |.min=>fun _ _ args=>some (.builtin .min args)
 |_=>fun _ _ _=>none
def nT (T:Tr TypeInfo)(t:TypeId)(f:Nat):Option (Nat×Nat×Bool):=
 aD (Uj T t) fun fs=>aD fs.toList[f]? fun f=>aD (szT T f.type) fun n=>
  bif Nat.blt 0 n then some (f.offset,n,cm T f.type) else none
def afn (agg:Bool)(n:Nat):Bool:=agg||Nat.beq n 1
def intK (d:TypeDesc):Option IntKind:=
 match d with
 |.int k=>some k
 |_=>none
def afx (d:TypeDesc):TypeDesc->AX->Option AOp:=
 match d with
 |.int _=>fun e x=>aD (intK e) fun k=>some (.convInt k x)
 |.string=>fun e x=>match e with
  |.string=>some (.convId x)
  |_=>none
 |_=>fun _ _=>none
def vR (d:TypeDesc):Bool:=
 match d with
 |.interface _=>true
 |_=>false
def cMkFn (f:Fn):Array Operand->Array Operand->Option AOp:=
 match f with
 |.func f=>fun a b=>aD (cXs a) fun a=>aD (cXs b) fun b=>some (.mkFn f a b)
 |_=>fun _ _=>none
def DE (d:TypeDesc):Tr TypeInfo->AX->Option AX->Option AX->Option AX->Option AOp:=
 match d with
 |.slice e=>fun T x lo hi mx=>aD (szT T e) fun n=>bif Nat.blt 0 n then some (.slice false n x lo hi mx) else none
 |.string=>fun _ x lo hi mx=>match mx with
  |none=>some (.slice true 0 x lo hi none)
  |some _=>none
 |_=>fun _ _ _ _ _=>none
def aix (d:TypeDesc):Tr TypeInfo->AX->AX->Option AOp:=
 match d with
 |.slice e=>fun T x i=>aD (szT T e) fun n=>some (.iaddr n x i)
 |.array len e=>fun T x i=>aD (szT T e) fun n=>some (.iaddrA len n (cm T e) x i)
 |_=>fun _ _ _=>none
def aiw (d:TypeDesc):Tr TypeInfo->AX->AX->Option AOp:=
 match d with
 |.string=>fun _ x i=>some (.strIdx x i)
 |.array len e=>fun T x i=>aD (szT T e) fun n=>some (.arrIdx len n (cm T e) x i)
 |_=>fun _ _ _=>none
def mapD (d:TypeDesc):Option (TypeId×TypeId):=
 match d with
 |.map k e=>some (k,e)
 |_=>none
def Il (l:List (Nat×Nat)):Bool:=
 match l with
 |[(0,1),(1,1)]=>true
 |_=>false
def pairD (d:TypeDesc):Program->Tr TypeInfo->TypeId->Option Nat:=
 match d with
 |.struct fs=>fun P T t=>bif P.stoodInHeld t then none else aD (hX (eT T) fs.toList) fun l=>bif Il l then some 3 else none
 |_=>fun _ _ _=>none
def TX (P:Program)(T:Tr TypeInfo)(t:TypeId)(d:TypeDesc):Option Nat:=Option.casesOn (Hw d) (pairD d P T t) fun n=>some n
def lv (P:Program)(T:Tr TypeInfo)(t:TypeId):Option (Nat×TypeId):=
 aD (und T t) fun d=>aD (mapD d) fun ke=>aD (und T ke.1) fun k=>aD (TX P T ke.1 k) fun n=>some (n,ke.2)
def adh (c:Callee):Tr TypeInfo->Array TypeId->List AX->Option AOp:=
 match c with
 |.value f=>fun _ _ args=>aD (cX f) fun f=>some (.call f args)
 |.invoke _ _=>fun _ _ _=>none
 |.builtin b=>fun T tys args=>rW b T tys args
def aki (c:Callee):List AX->Option AOp:=
 match c with
 |.value f=>fun args=>aD (cX f) fun f=>some (.defer f args)
 |_=>fun _=>none
def cOp (op:Op):Program->Tr TypeInfo->(TypeId->Bool)->Option AOp:=
 match op with
 |.move x=>fun _ _ _=>aD (cX x) fun x=>some (.mv x)
 |.assign x=>fun _ _ _=>aD (cX x) fun x=>some (.mv x)
 |.pick c a b=>fun _ _ _=>aD (cX c) fun c=>aD (cX a) fun a=>aD (cX b) fun b=>some (.pick c a b)
 |.alloc t=>fun _ T _=>aD (jN T t) fun z=>some (.new z.cells)
 |.box t x=>fun _ T _=>aD (szT T t) fun n=>aD (cX x) fun x=>some (.box n x)
 |.build t parts=>fun _ T _=>Zr T t parts
 |.buildSlice t len parts=>fun _ T keep=>cLit T (!(keep t)) t len parts
 |.load t a=>fun _ T _=>aD (szT T t) fun n=>aD (cX a) fun a=>bif afn (cm T t) n then some (.load (cm T t) n a) else none
 |.store t a x=>fun _ T _=>aD (szT T t) fun n=>aD (cX a) fun a=>aD (cX x) fun x=>some (.store n a x)
 |.nilCheck x=>fun _ _ _=>aD (cX x) fun x=>some (.nilChk x)
 |.binOp op t x y _=>fun P T _=>aD (eqK P T t (isC x||isC y)) fun e=>aD (cX x) fun x=>aD (cX y) fun y=>some (.bin op e x y)
 |.unOp op _ x=>fun _ _ _=>aD (cX x) fun x=>some (.un op x)
 |.convert src dst x=>fun _ T _=>aD (und T src) fun d=>aD (und T dst) fun e=>aD (cX x) fun x=>afx d e x
 |.makeInterface t x=>fun _ T _=>aD (und T t) fun d=>bif vR d then none else aD (cX x) fun x=>some (.mkIface t x)
 |.makeFunc f first caps=>fun _ _ _=>cMkFn f first caps
 |.makeMap _ r=>fun _ _ _=>match r with
  |none=>some .mkMap
  |some _=>none
 |.makeSlice t l c=>fun _ T _=>aD (pF T t) fun e=>aD (szT T e) fun n=>aD (jN T e) fun z=>aD (T.get e) fun i=>
   aD (cX l) fun l=>aD (cX c) fun c=>bif Nat.blt 0 n then some (.mkSlice (cm T e) n i.bytes z.cells l c) else none
 |.slice t x lo hi mx=>fun _ T _=>aD (cX x) fun x=>aD (oA lo) fun lo=>aD (oA hi) fun hi=>aD (oA mx) fun mx=>
   aD (und T t) fun d=>DE d T x lo hi mx
 |.fieldAddr s x f=>fun _ T _=>aD (nT T s f) fun p=>aD (cX x) fun x=>some (.faddr p.1 p.2.1 p.2.2 x)
 |.field s x f=>fun _ T _=>aD (nT T s f) fun p=>aD (cX x) fun x=>some (.field p.1 p.2.1 p.2.2 x)
 |.indexAddr t x i=>fun _ T _=>aD (cX x) fun x=>aD (cX i) fun i=>aD (und T t) fun d=>aix d T x i
 |.index t x i=>fun _ T _=>aD (cX x) fun x=>aD (cX i) fun i=>aD (und T t) fun d=>aiw d T x i
 |.lookup t x i ok=>fun P T _=>aD (lv P T t) fun e=>aD (jN T e.2) fun z=>aD (cX x) fun x=>aD (cX i) fun i=>some (.lookup e.1 z x i ok)
 |.mapUpdate t m k v=>fun P T _=>aD (lv P T t) fun e=>aD (cX m) fun m=>aD (cX k) fun k=>aD (cX v) fun v=>some (.mapUp e.1 m k v)
 |.typeAssert x _ t ok=>fun _ T _=>aD (und T t) fun d=>bif vR d then none else aD (cX x) fun x=>aD (jN T t) fun z=>some (.assert t z x ok)
 |.extract x i=>fun _ _ _=>aD (cX x) fun x=>some (.extract x i)
 |.call c=>fun _ T _=>aD (cXs c.args) fun args=>adh c.callee T c.argTypes args
 |.defer c=>fun _ _ _=>aD (cXs c.args) fun args=>aki c.callee args
 |.panic x=>fun _ _ _=>aD (cX x) fun x=>some (.panic x)
 |_=>fun _ _ _=>none
def TO (d:Option Tmp):Nat->Bool:=Option.casesOn d (fun _=>true) (fun d nt=>Nat.blt d nt)
def akh (g:Option (Nat×Bool)):List Oper->Option Nat->AOp->Option aV:=
 match g with
 |none=>fun _ d op=>some ⟨d,op,none⟩
 |some (j,b)=>fun ops d op=>aD ops[j]? fun o=>aD o.dst fun t=>some ⟨d,op,some (t,b)⟩
def zm (P:Program)(T:Tr TypeInfo)(keep:TypeId->Bool)(nt:Nat)(ops:List Oper)(o:Oper):Option aV:=
 aD (cOp o.op P T keep) fun op=>bif TO o.dst nt then akh o.guard ops o.dst op else none
def bit (m i:Nat):Bool:=Nat.beq (Nat.land (Nat.shiftRight m i) 1) 1
def gw (m i:Nat):Nat:=Nat.lor m (Nat.shiftLeft 1 i)
def Ix (x:AX):Nat->Nat:=
 match x with
 |.t n=>fun m=>gw m n
 |.c _=>fun m=>m
def sN (l:List AX):Nat->Nat:=List.rec (fun m=>m) (fun x _ ih m=>ih (Ix x m)) l
def AOp.args (op:AOp):List AX:=
 match op with
 |.mv x=>[x]
 |.pick c a b=>[c,a,b]
 |.new _=>[]
 |.box _ x=>[x]
 |.build _ ps=>ps.map (·.2.2)
 |.lit _ _ _ _ _ ps=>ps.map (·.2)
 |.load _ _ x=>[x]
 |.store _ a x=>[a,x]
 |.nilChk x=>[x]
 |.bin _ _ x y=>[x,y]
 |.un _ x=>[x]
 |.convInt _ x=>[x]
 |.convId x=>[x]
 |.mkIface _ x=>[x]
 |.mkFn _ a b=>a++b
 |.mkMap=>[]
 |.mkSlice _ _ _ _ l c=>[l,c]
 |.slice _ _ x lo hi mx=>x::(lo.toList++(hi.toList++mx.toList))
 |.faddr _ _ _ x=>[x]
 |.field _ _ _ x=>[x]
 |.iaddr _ x i=>[x,i]
 |.iaddrA _ _ _ x i=>[x,i]
 |.strIdx x i=>[x,i]
 |.arrIdx _ _ _ x i=>[x,i]
 |.lookup _ _ x i _=>[x,i]
 |.mapUp _ m k v=>[m,k,v]
 |.assert _ _ x _=>[x]
 |.extract x _=>[x]
 |.builtin _ l=>l
 |.call f l=>f::l
 |.defer f l=>f::l
 |.panic x=>[x]
def Sb (g:Option (Nat×Bool)):Nat:=Option.casesOn g 0 fun p=>gw 0 p.1
def ig (d:Option Nat):Nat:=Option.casesOn d 0 fun d=>gw 0 d
def looks (o:aV):Nat:=sN o.op.args (Sb o.guard)
def pC (c:Cls):Bool:=
 match c with
 |.acts=>true
 |_=>false
structure OS where
 pre:Nat
 dm:Nat
 lm:Nat
 acts:Bool
def Hh (acc:List Nat)(after:List Nat):Nat:=
 List.rec (fun m=>m) (fun j _ ih m=>ih (Nat.lor (gw m j) ((acc[j]?).getD 0))) after 0
def dO (o:Oper):List Nat:=(o.after.toList.filter (Region.binds .any)).map (·.on)
def mV (i:Nat)(l:List Nat):Bool:=List.rec true (fun j _ ih=>Nat.blt j i&&ih) l
def kX (l:List Oper):Nat->List Nat->Option (List Nat):=
 List.rec (fun _ acc=>some acc) (fun o _ ih i acc=>bif mV i (dO o) then ih (Nat.succ i) (acc++[Hh acc (dO o)]) else none) l
def lY (l:List aV):List Nat->List OS:=
 List.rec (fun _=>[]) (fun o _ ih ps=>List.casesOn ps [] fun p ps=>⟨p,ig o.dst,looks o,pC o.op.cls⟩::ih ps) l
def ZT (n:Nat):Bool:=Nat.beq n 0
def xU (x y:OS):Bool:=ZT (Nat.land x.dm (Nat.lor y.lm y.dm))&&ZT (Nat.land y.dm x.lm) && !(x.acts&&y.acts)
def xJ (y:OS)(l:List OS):Nat->Bool:=List.rec (fun _=>true) (fun x _ ih i=>(bit y.pre i||xU x y)&&ih (Nat.succ i)) l
def sA (l:List OS):List OS->Bool:=
 List.rec (fun _=>true) (fun y _ ih acc=>xJ y acc 0&&ih (acc++[y])) l
def Hr (c:Cls):Bool:=
 match c with
 |.born=>true
 |_=>false
def vW (l:List aV):Bool:=List.rec true (fun o _ ih=>(!(Hr o.op.cls)||(Option.casesOn o.guard true fun _=>false))&&ih) l
def eG (f:Nat->OS->Bool)(l:List OS):Nat->Nat:=List.rec (fun _=>0) (fun x _ ih i=>bif f i x then Nat.succ (ih (Nat.succ i)) else ih (Nat.succ i)) l
def abb (f:Nat->OS->Bool)(l:List OS):Nat->Bool:=List.rec (fun _=>true) (fun x _ ih i=>f i x&&ih (Nat.succ i)) l
def mK (all:List OS)(i:Nat)(x:OS):DI:=
 {lo:=eG (fun k y=>y.acts&&bit x.pre k) all 0,
  hi:=eG (fun _ y=>y.acts && !(bit y.pre i)) all 0,
  fin:=abb (fun k y=>Nat.ble k i||bit y.pre i) all 0}
def ku (all:List OS)(l:List aV):Nat->List OS->List (aV×DI):=
 List.rec (fun _ _=>[]) (fun o _ ih i ss=>List.casesOn ss [] fun s ss=>(o,mK all i s)::ih (Nat.succ i) ss) l
def afC (ops:List Oper)(l:List aV):Option aF:=
 aD (kX ops 0 []) fun ps=>
  bif sA (lY l ps) []&&vW l then some (.draw (ku (lY l ps) l 0 (lY l ps))) else none
def adf (P:Program)(T:Tr TypeInfo)(keep:TypeId->Bool)(nt:Nat)(ops:List Oper)(draw:Bool):Option aF:=
 aD (hX (zm P T keep nt ops) ops) fun l=>bif draw then afC ops l else some (.region l)
def jA (c:Code):Program->Tr TypeInfo->(TypeId->Bool)->Nat->Option aF:=
 Code.rec
  (fun _ _ _ _=>some .skip)
  (fun _ ops draw P T keep nt=>adf P T keep nt ops.toList draw)
  (fun _ _ a b P T keep nt=>aD (a P T keep nt) fun a=>aD (b P T keep nt) fun b=>some (.seq a b))
  (fun c _ _ a b P T keep nt=>aD (cX c) fun c=>aD (a P T keep nt) fun a=>aD (b P T keep nt) fun b=>some (.cond c a b))
  (fun id _ a P T keep nt=>aD (a P T keep nt) fun a=>some (.block id a))
  (fun _ a P T keep nt=>aD (a P T keep nt) fun a=>some (.loop a))
  (fun f ps _ _ a b P T keep nt=>aD (cX f) fun f=>aD (a P T keep nt) fun a=>aD (b P T keep nt) fun b=>
   bif mV nt ps.toList then some (.rangeFunc f ps.toList a b) else none)
  (fun id _ _ _ _=>some (.exit id))
  (fun _ a P T keep nt=>aD (a P T keep nt) fun a=>some (.scope a))
  (fun _ _ _ _ _=>some .skip)
  (fun _ _ _ _ _=>none)
  (fun _ _ _ _=>some .ret)
  (fun _ _ _ _ _=>none)
  c
def ZS (T:Tr TypeInfo)(r:ResultVar):Option bK:=
 match r with
 |.tmp t=>some (.tmp t)
 |.cell a t=>aD (szT T t) fun n=>bif afn (cm T t) n then some (.cell a (cm T t) n) else none
def afB (P:Program)(T:Tr TypeInfo)(keep:TypeId->Bool)(fn:Func):Option xr:=
 aD fn.body fun c=>aD (jA c P T keep fn.ntmps) fun body=>aD (hX (ZS T) fn.results.toList) fun results=>
  some {ntmps:=fn.ntmps,results,body}
end
