/- Lemmas for MachineOrders (no condition). -/
import GoSem.Step
import Derived.Orders
import Derived.Control
import Derived.Laws.Sem
import Derived.Laws.World
import Derived.Laws.Rows
import Derived.Laws.Cells
set_option linter.defProp false
noncomputable section
namespace Go.AG
def o_{p:Prop}(h:p:=by omega):p:=h
theorem X_{α:Type}{b:α}{l:List α}{a:α}:a∈b::l<->a=b\/a∈l:=List.mem_cons
theorem K_{α:Type}{l:List α}:l.take l.length=l:=List.take_length
theorem O_{p:Prop}[i:Decidable p](h:decide p=true):p:=of_decide_eq_true h
theorem U_{p:Prop}[i:Decidable p](h:decide p=false):¬p:=of_decide_eq_false h
theorem G_(n:Nat):(n:Int).toNat=n:=Int.toNat_natCast n
theorem H_{α:Type}{a b:List α}:(a++b).length=a.length+b.length:=List.length_append
theorem C_{n m k:Nat}(h:n<=m)(g:m<=k):n<=k:=Nat.le_trans h g
theorem B_{n m k:Nat}(h:n<m)(g:m<=k):n<k:=Nat.lt_of_lt_of_le h g
theorem J_{α:Type}{a:α}{l:List α}(h:a∈l):∃i:Nat,l[i]?=some a:=List.getElem?_of_mem h
theorem M_{α:Type}{a:α}{l:List α}:(a::l).length=l.length+1:=List.length_cons
theorem Q_{α:Type}{a:α}{l m:List α}:a::l++m=a::(l++m):=List.cons_append
theorem Y_{α:Type}{i:Nat}{l:List α}:(l.take i).length=min i l.length:=List.length_take
theorem Z_{α:Type}{l:List α}{i:Nat}:l.take (i+1)=l.take i++l[i]?.toList:=List.take_add_one
theorem S_{α:Type}{l:List α}{i:Nat}(h:l.length<=i):l[i]?=none:=List.getElem?_eq_none h
theorem V_{α:Type}(a b c:List α):a++b++c=a++(b++c):=List.append_assoc a b c
theorem W_{α:Type}{a b:α}:a∈[b]<->a=b:=List.mem_singleton
theorem l_{α:Type}{i:Nat}{l:List α}(h:l.length<=i):l.take i=l:=List.take_of_length_le h
theorem j_{α:Type}(i:Nat)(l:List α):l.take i++l.drop i=l:=List.take_append_drop i l
theorem d_{p:Prop}[Decidable p](h:¬p:=by omega):decide p=false:=decide_eq_false h
theorem t_{p:Prop}[Decidable p](h:p:=by omega):decide p=true:=decide_eq_true h
theorem a_ {α:Type} {l:List α} {i:Nat} (h:i<l.length):l[i]? = some l[i]:=List.getElem?_eq_getElem h
theorem m_ {α:Type} {l:List α} {i:Nat} {a:α} (h:l[i]? = some a):a∈l:=List.mem_of_getElem? h
def e_ (n:Nat):n<=n:=Nat.le_refl n
theorem D_ {p:Prop} [i:Decidable p] (h:¬p):decide p=false:=decide_eq_false h
theorem T_ {p:Prop} [i:Decidable p] (h:p):decide p=true:=decide_eq_true h
theorem L_ {α β:Type} {l:List α} (f:α->β):(l.map f).length=l.length:=List.length_map f
theorem A_ {α:Type} (l:List α):l++[]=l:=List.append_nil l
theorem z_ (n:Nat):0+n=n:=Nat.zero_add n
def N_ {c:Prop} {h:Decidable c} (n:¬c) {α:Type} {t e:α}:ite c t e=e:=if_neg n
def P_ {c:Prop} {h:Decidable c} (n:c) {α:Type} {t e:α}:ite c t e=t:=if_pos n
theorem E_ {α:Type} {l:List α} {i:Nat} {a:α}:l[i]? = some a<->∃h:i<l.length,l[i]=a:=List.getElem?_eq_some_iff
def g_ {p:Prop}(h:p:=by grind):p:=h
inductive Tr (α:Type) where
 |lf
 |nd (v:Option α) (l r:Tr α)
theorem Gg {a b:Nat}(h:a≠b):Nat.beq a b=false:=by
 grind [Nat.beq,absurd,Nat.eq_of_beq_eq_true]
namespace Tr
variable {α:Type}
def get (t:Tr α):Nat->Option α:=
 Tr.rec (λ_=>none) (λv _ _ b a n=>cond (Nat.beq n 0) v (cond (Nat.beq (Nat.mod n 2) 1) (b (Nat.div n 2)) (a (Nat.pred (Nat.div n 2))))) t
def Il (f:Nat):Tr α->Nat->α->Tr α:=
 Nat.rec (λt _ _=>t) (λ_ a t=>Tr.casesOn t
  (λn x=>cond (Nat.beq n 0) (.nd (some x) .lf .lf) (cond (Nat.beq (Nat.mod n 2) 1) (.nd none (a .lf (Nat.div n 2) x) .lf) (.nd none .lf (a .lf (Nat.pred (Nat.div n 2)) x))))
  (λv l r n x=>cond (Nat.beq n 0) (.nd (some x) l r) (cond (Nat.beq (Nat.mod n 2) 1) (.nd v (a l (Nat.div n 2) x) r) (.nd v l (a r (Nat.pred (Nat.div n 2)) x))))) f
def put (t:Tr α)(n:Nat)(x:α):Tr α:=Il (Nat.succ n) t n x
def pW (l:List α):Nat->Tr α->Tr α:=
 List.rec (λ_ t=>t) (λx _ a n t=>a (Nat.succ n) (put t n x)) l
def ofList (l:List α):Tr α:=pW l 0 .lf
theorem adQ (n:Nat):(Tr.lf:Tr α).get n=none:=rfl
theorem EK (v:Option α)(l r:Tr α)(n:Nat):
  (Tr.nd v l r).get n=cond (Nat.beq n 0) v (cond (Nat.beq (n % 2) 1) (l.get (n / 2)) (r.get (n / 2-1))):=rfl
theorem XZ (f:Nat)(v:Option α)(l r:Tr α)(n:Nat)(x:α):Il (f+1) (.nd v l r) n x =
  cond (Nat.beq n 0) (.nd (some x) l r) (cond (Nat.beq (n % 2) 1) (.nd v (Il f l (n / 2) x) r) (.nd v l (Il f r (n / 2-1) x))):=rfl
theorem Ya (f:Nat)(n:Nat)(x:α):Il (f+1) .lf n x =
  cond (Nat.beq n 0) (.nd (some x) .lf .lf) (cond (Nat.beq (n % 2) 1) (.nd none (Il f .lf (n / 2) x) .lf) (.nd none .lf (Il f .lf (n / 2-1) x))):=rfl
def Tp (f:Nat):∀(t:Tr α) (n m:Nat) (x:α),n<f->(Il f t n x).get m=if m=n then some x else t.get m:=by
 induction f with
 |zero=>intro t n m x h;omega
 |succ f i=>
  intro t n m x h;have a:∀(v:Option α) (l r:Tr α),
    (cond (Nat.beq n 0) (Tr.nd (some x) l r) (cond (Nat.beq (n % 2) 1) (.nd v (Il f l (n / 2) x) r) (.nd v l (Il f r (n / 2-1) x)))).get m
     = if m=n then some x else (Tr.nd v l r).get m:=by
   intro v l r;by_cases b:n=0
   ·grind [Nat.beq_refl,EK,Nat.beq,Gg]
   have g:=Gg b;simp only[g,cond_false];by_cases c:n % 2=1
   ·grind [Nat.beq_refl,EK,Nat.beq,Gg]
   have e:=Gg c;simp only[e,cond_false,EK];by_cases hm:m=0
   ·subst hm;simp[Ne.symm b]
   have j:=Gg hm;by_cases d:m % 2=1
   all_goals grind [Nat.beq_refl,Nat.beq,Gg]
  cases t with
  |nd v l r=>grind [XZ]
  |lf=>
   have c:=a none .lf .lf;grind [get,EK,adQ,Nat.beq,Ya]
theorem get_put (t:Tr α)(n m:Nat)(x:α):(t.put n x).get m=if m=n then some x else t.get m:=
 Tp _ _ _ _ _ (Nat.lt_succ_self n)
theorem yj (l:List α):∀(n:Nat) (t:Tr α) (m:Nat),
  (pW l n t).get m=if n<=m/\m<n+l.length then l[m-n]? else t.get m:=by
 induction l with
 |nil=>intro n t m;rw[N_ (by simp only[List.length_nil];omega)];rfl
 |cons x l a=>
  intro n t m;have e:pW (x::l) n t=pW l (n+1) (t.put n x):=rfl;grind [get_put,M_,List.getElem?_cons_succ]
theorem get_ofList (l:List α)(m:Nat):(ofList l).get m=l[m]?:=by
 unfold ofList;rw[yj];simp only[Nat.zero_le,true_and,z_,Nat.sub_zero];by_cases h:m<l.length
 ·grind
 rw[N_ h,S_ o_];rfl
end Tr
inductive AV where
 |bool (b:Bool)
 |int (k:IntKind) (n:Int)
 |str (s:ByteArray)
 |nilp
 |ptr (k g off:Nat)
 | vp (v:AV)
 | nl
 | ls (es:List AV)
 |clip (es:List AV)
 |row (k g sz off len:Nat)
 |nilm
 |map (k:Nat)
 |fn (f:FuncId) (first caps:List AV)
 |yld (l:Nat)
 |nilf
 |ifc (t:TypeId) (v:AV)
 |nili
 |agg (cs:List AV)
 |tup (vs:List AV)
 |any
 deriving Inhabited
abbrev i_ (x:Int):AV:=.int .i64 x
abbrev AV.I (n:Int):AV:=.int .i64 n
abbrev AV.P (k:Nat):AV:=.ptr k 0 0
def AV.cells:AV->List AV
 |.agg a=>a
 |v=>[v]
def AV.isAgg:AV->Bool
 |.agg _=>true
 |_=>false
def AV.isCell:AV->Bool
 |.agg _|.tup _|.any=>false
 |_=>true
def AV.lies:AV->Bool
 |.tup _|.any=>false
 |_=>true
inductive AX where
 |t (n:Nat)
 |c (v:AV)
 deriving Inhabited
inductive EqK where
 |boolK
 |num
 |slice
 |iface
 |struct (offs:List (Nat×Nat))
 deriving Inhabited
inductive ABI where
 |len (k:Nat)
 |append (sz:Nat) (agg:Bool) (zero:List AV) (bytes:Nat)
 |recover
 |max
 |min
 deriving Inhabited
inductive AOp where
 |mv (x:AX)
 |pick (c a b:AX)
 |new (zero:List AV)
 |box (n:Nat) (x:AX)
 |build (zero:List AV) (parts:List (Nat×Nat×AX))
 |lit (agg:Bool) (sz:Nat) (zero:List AV) (len:Nat) (parts:List (Nat×AX))
 |load (agg:Bool) (sz:Nat) (x:AX)
 |store (sz:Nat) (a x:AX)
 |nilChk (x:AX)
 |bin (op:BinOp) (eqk:EqK) (x y:AX)
 |un (x:AX)
 |mkIface (t:TypeId) (x:AX)
 |mkFn (f:FuncId) (first caps:List AX)
 |mkMap
 |mkSlice (agg:Bool) (sz bytes:Nat) (zero:List AV) (len cap:AX)
 |slice (sz:Nat) (x:AX) (lo hi:Option AX)
 |faddr (off sz:Nat) (agg:Bool) (x:AX)
 |iaddr (sz:Nat) (x i:AX)
 |strIdx (x i:AX)
 |lookup (kt:Nat) (zero:AV) (x i:AX) (ok:Bool)
 |mapUp (kt:Nat) (m k v:AX)
 |assert (t:TypeId) (zero:AV) (x:AX)
 |extract (x:AX) (i:Nat)
 |builtin (b:ABI) (args:List AX)
 |call (f:AX) (args:List AX)
 |defer (f:AX) (args:List AX)
 |panic (x:AX)
 deriving Inhabited
inductive Cls where
 |still
 |reads
 |born
 |acts
 deriving DecidableEq
def AOp.cls:AOp->Cls
 |.load _ _ _|.lookup _ _ _ _ _|.builtin (.len _) _=>.reads
 |.new _=>.born
 |.box _ _|.store _ _ _|.mkMap|.mkSlice _ _ _ _ _ _
 |.mapUp _ _ _ _|.builtin (.append _ _ _ _) _|.builtin .recover _
 |.call _ _|.defer _ _|.panic _=>.acts
 |_=>.still
structure aX where
 dst:Option Nat
 op:AOp
 guard:Option (Nat×Bool)
 deriving Inhabited
structure DI where
 lo:Nat
 hi:Nat
 fin:Bool
 deriving Inhabited
inductive bu where
 |skip
 |region (ops:List aX)
 |draw (ops:List (aX×DI))
 |seq (a b:bu)
 |cond (c:AX) (a b:bu)
 |block (id:Nat) (a:bu)
 |loop (a:bu)
 |rangeFunc (f:AX) (params:List Nat) (assign body:bu)
 |exit (id:Nat)
 |scope (a:bu)
 |ret
 deriving Inhabited
inductive bG where
 |tmp (t:Nat)
 |cell (a:Nat) (agg:Bool) (sz:Nat)
 deriving Inhabited
structure Di where
 ntmps:Nat
 results:List bG
 body:bu
 deriving Inhabited
noncomputable section
def aI {α β:Type}(o:Option α):(α->Option β)->Option β:=Option.casesOn o (λ_=>none) (λa k=>k a)
def ma {α β:Type}(f:α->Option β)(l:List α):Option (List β):=
 List.rec (some []) (λa _ c=>aI (f a) λb=>aI c λr=>some (b::r)) l
def aaq (d:TypeDesc):Tr TypeInfo->Option TypeDesc:=
 match d with
 |.named _ u=>λT=>aI (T.get u) λi=>some i.desc
 |d=>λ_=>some d
def und (T:Tr TypeInfo)(t:TypeId):Option TypeDesc:=aI (T.get t) λi=>aaq i.desc T
def aggD (d:TypeDesc):Bool:=
 match d with
 |.struct _=>true
 |.array _ _=>true
 |_=>false
def dI (T:Tr TypeInfo)(t:TypeId):Bool:=Option.casesOn (und T t) false aggD
def szT (T:Tr TypeInfo)(t:TypeId):Option Nat:=aI (T.get t) λi=>aI (aaq i.desc T) λ_=>some i.size
def ofSl (a:Option Addr):Nat->Nat->Option AV:=
 match a with
 |none=>λl c=>bif Nat.beq l 0&&Nat.beq c 0 then some .nl else none
 |some _=>λ_ _=>none
def ofFn (f:Fn):Array Value->Array Value->Option AV:=
 match f with
 |.func f=>λa b=>bif Nat.beq a.toList.length 0&&Nat.beq b.toList.length 0 then some (.fn f [] []) else none
 |_=>λ_ _=>none
def aZ (l:List AV):Bool:=List.rec true (λa _ b=>a.isCell&&b) l
mutual
def ofV (v:Value):Option AV:=
 match v with
 |.bool b=>some (.bool b)
 |.int k n=>some (.int k n)
 |.string s=>some (.str s)
 |.pointer a=>match a with
  |none=>some .nilp
  |some _=>none
 |.slice a l c=>ofSl a l c
 |.map r=>match r with
  |none=>some .nilm
  |some _=>none
 |.nilFunc=>some .nilf
 |.nilIface=>some .nili
 |.func f a b=>ofFn f a b
 |.agg ⟨e⟩=>aI (acJ e) λl=>bif aZ l then some (.agg l) else none
 |.tuple ⟨d⟩=>aI (acJ d) λl=>some (.tup l)
 |.iface t v=>aI (ofV v) λa=>some (.ifc t a)
 |_=>none
def acJ (l:List Value):Option (List AV):=
 match l with
 |[]=>some []
 |v::l=>aI (ofV v) λa=>aI (acJ l) λr=>some (a::r)
end
def nJ (a:Bool):Bool->Bool:=Bool.casesOn a (λb=>Bool.casesOn b true false) (λb=>b)
def pq (T:Tr TypeInfo)(t:TypeId):Option AV:=
 aI (T.get t) λi=>aI i.zero λz=>aI (ofV z) λv=>
  bif Nat.beq v.cells.length i.size&&aZ v.cells&&nJ v.isAgg (dI T t) then some v else none
def cX (x:Operand):Option AX:=
 match x with
 |.tmp t=>some (.t t)
 |.const v=>aI (ofV v) λa=>some (.c a)
 |.global _=>none
 |.func f=>some (.c (.fn f [] []))
def isC (x:Operand):Bool:=
 match x with
 |.const _=>true
 |_=>false
def Kb (d:TypeDesc):Option Nat:=
 match d with
 |.bool=>some 0
 |.int _=>some 1
 |.string=>some 2
 |_=>none
def gv (T:Tr TypeInfo)(f:Field):Option (Nat×Nat):=
 if f.name = "_" then none else aI (und T f.type) λd=>aI (Kb d) λk=>aI (szT T f.type) λ_=>some (f.offset,k)
def eqD (d:TypeDesc):Program->Tr TypeInfo->TypeId->Bool->Option EqK:=
 match d with
 |.bool=>λ_ _ _ _=>some .boolK
 |.int _=>λ_ _ _ _=>some .num
 |.string=>λ_ _ _ _=>some .num
 |.slice _=>λ_ _ _ _=>some .slice
 |.interface _=>λ_ _ _ c=>bif c then some .iface else none
 |.struct a=>λP T t _=>bif P.stoodInHeld t||P.eqGuardType P.depth t then none else
   aI (ma (gv T) a.toList) λl=>some (.struct l)
 |_=>λ_ _ _ _=>none
def eqK (P:Program)(T:Tr TypeInfo)(t:TypeId)(c:Bool):Option EqK:=aI (und T t) λd=>eqD d P T t c
def cXs (l:Array Operand):Option (List AX):=ma cX l.toList
def JU (o:Option Operand):Option (Option AX):=Option.casesOn o (some none) λx=>aI (cX x) λa=>some (some a)
def Xt (d:TypeDesc):Option (Array Field):=
 match d with
 |.struct a=>some a
 |_=>none
def ade (d:TypeDesc):Option TypeId:=
 match d with
 |.slice e=>some e
 |_=>none
def zY (T:Tr TypeInfo)(t:TypeId):Option (Array Field):=aI (und T t) Xt
def mP (T:Tr TypeInfo)(t:TypeId):Option TypeId:=aI (und T t) ade
def Vo (T:Tr TypeInfo)(a:List Field)(p:Nat×Operand):Option (Nat×Nat×AX):=
 aI a[p.1]? λf=>aI (szT T f.type) λn=>aI (cX p.2) λx=>some (f.offset,n,x)
def ZF (T:Tr TypeInfo)(z:AV)(a:List (Nat×Operand))(b:Array Field):Option AOp:=
 aI (ma (λf=>szT T f.type) b.toList) λ_=>aI (ma (Vo T b.toList) a) λa=>some (.build z.cells a)
def Vq (T:Tr TypeInfo)(t:TypeId)(parts:Array (Nat×Operand)):Option AOp:=
 aI (pq T t) λz=>aI (zY T t) λa=>ZF T z parts.toList a
def Ia (p:Nat×Operand):Option (Nat×AX):=aI (cX p.2) λx=>some (p.1,x)
def cLit (T:Tr TypeInfo)(t:TypeId)(len:Nat)(parts:Array (Nat×Operand)):Option AOp:=
 aI (mP T t) λe=>aI (szT T e) λn=>aI (pq T e) λz=>aI (ma Ia parts.toList) λa=>
  bif Nat.ble (len*n) 16777216&&Nat.blt 0 n then some (.lit (dI T e) n z.cells len a) else none
def lenD (d:TypeDesc):Option Nat:=
 match d with
 |.string=>some 0
 |.slice _=>some 1
 |_=>none
def Bp (T:Tr TypeInfo)(a:Array TypeId)(i:Nat):Option TypeId:=aI a.toList[i]? λt=>mP T t
def AL (b:Builtin):Tr TypeInfo->Array TypeId->List AX->Option AOp:=
 match b with
 |.len=>λT a args=>aI a.toList[0]? λt=>aI (und T t) λd=>aI (lenD d) λk=>some (.builtin (.len k) args)
 |.append=>λT a args=>aI (Bp T a 0) λe=>aI (Bp T a 1) λ_=>aI (szT T e) λn=>aI (pq T e) λz=>aI (T.get e) λi=>
   bif Nat.blt 0 n then some (.builtin (.append n (dI T e) z.cells i.bytes) args) else none
 |.recover=>λ_ _ args=>some (.builtin .recover args)
 |.max=>λ_ _ args=>some (.builtin .max args)
 |.min=>λ_ _ args=>some (.builtin .min args)
 |_=>λ_ _ _=>none
def zI (T:Tr TypeInfo)(t:TypeId)(f:Nat):Option (Nat×Nat×Bool):=
 aI (zY T t) λa=>aI a.toList[f]? λf=>aI (szT T f.type) λn=>
  bif Nat.blt 0 n then some (f.offset,n,dI T f.type) else none
def abw (agg:Bool)(n:Nat):Bool:=agg||Nat.beq n 1
def vR (d:TypeDesc):Bool:=
 match d with
 |.interface _=>true
 |_=>false
def cMkFn (f:Fn):Array Operand->Array Operand->Option AOp:=
 match f with
 |.func f=>λa b=>aI (cXs a) λa=>aI (cXs b) λb=>some (.mkFn f a b)
 |_=>λ_ _=>none
def adM (d:TypeDesc):Tr TypeInfo->AX->AX->Option AOp:=
 match d with
 |.string=>λ_ x i=>some (.strIdx x i)
 |_=>λ_ _ _=>none
def mapD (d:TypeDesc):Option (TypeId×TypeId):=
 match d with
 |.map k e=>some (k,e)
 |_=>none
def Ku (l:List (Nat×Nat)):Bool:=
 match l with
 |[(0,1),(1,1)]=>true
 |_=>false
def pairD (d:TypeDesc):Program->Tr TypeInfo->TypeId->Option Nat:=
 match d with
 |.struct a=>λP T t=>bif P.stoodInHeld t then none else aI (ma (gv T) a.toList) λl=>bif Ku l then some 3 else none
 |_=>λ_ _ _=>none
def Rc (P:Program)(T:Tr TypeInfo)(t:TypeId)(d:TypeDesc):Option Nat:=Option.casesOn (Kb d) (pairD d P T t) λn=>some n
def nD (P:Program)(T:Tr TypeInfo)(t:TypeId):Option (Nat×TypeId):=
 aI (und T t) λd=>aI (mapD d) λa=>aI (und T a.1) λk=>aI (Rc P T a.1 k) λn=>some (n,a.2)
def ZE (c:Callee):Tr TypeInfo->Array TypeId->List AX->Option AOp:=
 match c with
 |.value f=>λ_ _ args=>aI (cX f) λf=>some (.call f args)
 |.invoke _ _=>λ_ _ _=>none
 |.builtin b=>λT a args=>AL b T a args
def af9 (c:Callee):List AX->Option AOp:=
 match c with
 |.value f=>λargs=>aI (cX f) λf=>some (.defer f args)
 |_=>λ_=>none
def cOp (h:Op):Program->Tr TypeInfo->Option AOp:=
 match h with
 |.move x=>λ_ _=>aI (cX x) λx=>some (.mv x)
 |.assign x=>λ_ _=>aI (cX x) λx=>some (.mv x)
 |.pick c a b=>λ_ _=>aI (cX c) λc=>aI (cX a) λa=>aI (cX b) λb=>some (.pick c a b)
 |.alloc t=>λ_ T=>aI (pq T t) λz=>some (.new z.cells)
 |.box t x=>λ_ T=>aI (szT T t) λn=>aI (cX x) λx=>some (.box n x)
 |.build t parts=>λ_ T=>Vq T t parts
 |.buildSlice t len parts=>λ_ T=>cLit T t len parts
 |.load t a=>λ_ T=>aI (szT T t) λn=>aI (cX a) λa=>bif abw (dI T t) n then some (.load (dI T t) n a) else none
 |.store t a x=>λ_ T=>aI (szT T t) λn=>aI (cX a) λa=>aI (cX x) λx=>some (.store n a x)
 |.nilCheck x=>λ_ _=>aI (cX x) λx=>some (.nilChk x)
 |.binOp h t x y _=>λP T=>aI (eqK P T t (isC x||isC y)) λe=>aI (cX x) λx=>aI (cX y) λy=>some (.bin h e x y)
 |.unOp h _ x=>match h with
  |.not=>λ_ _=>aI (cX x) λx=>some (.un x)
  |_=>λ_ _=>none
 |.makeInterface t x=>λ_ T=>aI (und T t) λd=>bif vR d then none else aI (cX x) λx=>some (.mkIface t x)
 |.makeFunc f first g=>λ_ _=>cMkFn f first g
 |.makeMap _ r=>λ_ _=>match r with
  |none=>some .mkMap
  |some _=>none
 |.makeSlice t l c=>λ_ T=>aI (mP T t) λe=>aI (szT T e) λn=>aI (pq T e) λz=>aI (T.get e) λi=>
   aI (cX l) λl=>aI (cX c) λc=>bif Nat.blt 0 n then some (.mkSlice (dI T e) n i.bytes z.cells l c) else none
 |.slice t x lo hi mx=>match mx with
  |none=>λ_ T=>aI (cX x) λx=>aI (JU lo) λlo=>aI (JU hi) λhi=>aI (mP T t) λe=>aI (szT T e) λn=>
   bif Nat.blt 0 n then some (.slice n x lo hi) else none
  |some _=>λ_ _=>none
 |.fieldAddr s x f=>λ_ T=>aI (zI T s f) λp=>aI (cX x) λx=>some (.faddr p.1 p.2.1 p.2.2 x)
 |.indexAddr t x i=>λ_ T=>aI (cX x) λx=>aI (cX i) λi=>aI (mP T t) λe=>aI (szT T e) λn=>some (.iaddr n x i)
 |.index t x i=>λ_ T=>aI (cX x) λx=>aI (cX i) λi=>aI (und T t) λd=>adM d T x i
 |.lookup t x i ok=>λP T=>aI (nD P T t) λe=>aI (pq T e.2) λz=>aI (cX x) λx=>aI (cX i) λi=>some (.lookup e.1 z x i ok)
 |.mapUpdate t m k v=>λP T=>aI (nD P T t) λe=>aI (cX m) λm=>aI (cX k) λk=>aI (cX v) λv=>some (.mapUp e.1 m k v)
 |.typeAssert x _ t ok=>λ_ T=>aI (und T t) λd=>bif vR d || !ok then none else aI (cX x) λx=>aI (pq T t) λz=>some (.assert t z x)
 |.extract x i=>λ_ _=>aI (cX x) λx=>some (.extract x i)
 |.call c=>λ_ T=>aI (cXs c.args) λargs=>ZE c.callee T c.argTypes args
 |.defer c=>λ_ _=>aI (cXs c.args) λargs=>af9 c.callee args
 |.panic x=>λ_ _=>aI (cX x) λx=>some (.panic x)
 |_=>λ_ _=>none
def QU (d:Option Tmp):Nat->Bool:=Option.casesOn d (λ_=>true) (λd a=>Nat.blt d a)
def af8 (g:Option (Nat×Bool)):List Oper->Option Nat->AOp->Option aX:=
 match g with
 |none=>λ_ d a=>some ⟨d,a,none⟩
 |some (j,b)=>λops d a=>aI ops[j]? λo=>aI o.dst λt=>some ⟨d,a,some (t,b)⟩
def De (P:Program)(T:Tr TypeInfo)(a:Nat)(ops:List Oper)(o:Oper):Option aX:=
 aI (cOp o.op P T) λb=>bif QU o.dst a then af8 o.guard ops o.dst b else none
def bit (m i:Nat):Bool:=Nat.beq (Nat.land (Nat.shiftRight m i) 1) 1
def jN (m i:Nat):Nat:=Nat.lor m (Nat.shiftLeft 1 i)
def Vy (x:AX):Nat->Nat:=
 match x with
 |.t n=>λm=>jN m n
 |.c _=>λm=>m
def EB (l:List AX):Nat->Nat:=List.rec (λm=>m) (λx _ a m=>a (Vy x m)) l
def AOp.args (e:AOp):List AX:=
 match e with
 |.mv x=>[x]
 |.pick c a b=>[c,a,b]
 |.new _=>[]
 |.box _ x=>[x]
 |.build _ d=>d.map (·.2.2)
 |.lit _ _ _ _ d=>d.map (·.2)
 |.load _ _ x=>[x]
 |.store _ a x=>[a,x]
 |.nilChk x=>[x]
 |.bin _ _ x y=>[x,y]
 |.un x=>[x]
 |.mkIface _ x=>[x]
 |.mkFn _ a b=>a++b
 |.mkMap=>[]
 |.mkSlice _ _ _ _ l c=>[l,c]
 |.slice _ x lo hi=>x::(lo.toList++hi.toList)
 |.faddr _ _ _ x=>[x]
 |.iaddr _ x i=>[x,i]
 |.strIdx x i=>[x,i]
 |.lookup _ _ x i _=>[x,i]
 |.mapUp _ m k v=>[m,k,v]
 |.assert _ _ x=>[x]
 |.extract x _=>[x]
 |.builtin _ l=>l
 |.call f l=>f::l
 |.defer f l=>f::l
 |.panic x=>[x]
def OY (g:Option (Nat×Bool)):Nat:=Option.casesOn g 0 λp=>jN 0 p.1
def jR (d:Option Nat):Nat:=Option.casesOn d 0 λd=>jN 0 d
def looks (o:aX):Nat:=EB o.op.args (OY o.guard)
def sZ (c:Cls):Bool:=
 match c with
 |.acts=>true
 |_=>false
structure OS where
 pre:Nat
 dm:Nat
 lm:Nat
 acts:Bool
def JL (a:List Nat)(after:List Nat):Nat:=
 List.rec (λm=>m) (λj _ b m=>b (Nat.lor (jN m j) ((a[j]?).getD 0))) after 0
def eX (o:Oper):List Nat:=(o.after.toList.filter (Region.binds .any)).map (·.on)
def pR (i:Nat)(l:List Nat):Bool:=List.rec true (λj _ a=>Nat.blt j i&&a) l
def mX (l:List Oper):Nat->List Nat->Option (List Nat):=
 List.rec (λ_ a=>some a) (λo _ b i a=>bif pR i (eX o) then b (Nat.succ i) (a++[JL a (eX o)]) else none) l
def oM (l:List aX):List Nat->List OS:=
 List.rec (λ_=>[]) (λo _ b a=>List.casesOn a [] λp a=>⟨p,jR o.dst,looks o,sZ o.op.cls⟩::b a) l
def VI (n:Nat):Bool:=Nat.beq n 0
def BB (x y:OS):Bool:=VI (Nat.land x.dm (Nat.lor y.lm y.dm))&&VI (Nat.land y.dm x.lm) && !(x.acts&&y.acts)
def Bt (y:OS)(l:List OS):Nat->Bool:=List.rec (λ_=>true) (λx _ a i=>(bit y.pre i||BB x y)&&a (Nat.succ i)) l
def vO (l:List OS):List OS->Bool:=
 List.rec (λ_=>true) (λy _ b a=>Bt y a 0&&b (a++[y])) l
def JX (c:Cls):Bool:=
 match c with
 |.born=>true
 |_=>false
def zO (l:List aX):Bool:=List.rec true (λo _ a=>(!(JX o.op.cls)||(Option.casesOn o.guard true λ_=>false))&&a) l
def fP (f:Nat->OS->Bool)(l:List OS):Nat->Nat:=List.rec (λ_=>0) (λx _ a i=>bif f i x then Nat.succ (a (Nat.succ i)) else a (Nat.succ i)) l
def Xa (f:Nat->OS->Bool)(l:List OS):Nat->Bool:=List.rec (λ_=>true) (λx _ a i=>f i x&&a (Nat.succ i)) l
def pI (all:List OS)(i:Nat)(x:OS):DI:=
 {lo:=fP (λk y=>y.acts&&bit x.pre k) all 0,
  hi:=fP (λ_ y=>y.acts && !(bit y.pre i)) all 0,
  fin:=Xa (λk y=>Nat.ble k i||bit y.pre i) all 0}
def mJ (all:List OS)(l:List aX):Nat->List OS->List (aX×DI):=
 List.rec (λ_ _=>[]) (λo _ b i a=>List.casesOn a [] λs a=>(o,pI all i s)::b (Nat.succ i) a) l
def abF (ops:List Oper)(l:List aX):Option bu:=
 aI (mX ops 0 []) λa=>
  bif vO (oM l a) []&&zO l then some (.draw (mJ (oM l a) l 0 (oM l a))) else none
def ZC (P:Program)(T:Tr TypeInfo)(a:Nat)(ops:List Oper)(draw:Bool):Option bu:=
 aI (ma (De P T a ops) ops) λl=>bif draw then abF ops l else some (.region l)
def nM (c:Code):Program->Tr TypeInfo->Nat->Option bu:=
 Code.rec
  (λ_ _ _=>some .skip)
  (λ_ ops draw P T d=>ZC P T d ops.toList draw)
  (λ_ _ a b P T d=>aI (a P T d) λa=>aI (b P T d) λb=>some (.seq a b))
  (λc _ _ a b P T d=>aI (cX c) λc=>aI (a P T d) λa=>aI (b P T d) λb=>some (.cond c a b))
  (λid _ a P T d=>aI (a P T d) λa=>some (.block id a))
  (λ_ a P T d=>aI (a P T d) λa=>some (.loop a))
  (λf e _ _ a b P T d=>aI (cX f) λf=>aI (a P T d) λa=>aI (b P T d) λb=>
   bif pR d e.toList then some (.rangeFunc f e.toList a b) else none)
  (λid _ _ _=>some (.exit id))
  (λ_ a P T d=>aI (a P T d) λa=>some (.scope a))
  (λ_ _ _ _=>some .skip)
  (λ_ _ _ _=>none)
  (λ_ _ _=>some .ret)
  (λ_ _ _ _=>none)
  c
def acT (T:Tr TypeInfo)(r:ResultVar):Option bG:=
 match r with
 |.tmp t=>some (.tmp t)
 |.cell a t=>aI (szT T t) λn=>bif abw (dI T t) n then some (.cell a (dI T t) n) else none
def abE (P:Program)(T:Tr TypeInfo)(fn:Func):Option Di:=
 aI fn.body λc=>aI (nM c P T fn.ntmps) λbody=>aI (ma (acT T) fn.results.toList) λresults=>
  some {ntmps:=fn.ntmps,results,body}
end
abbrev Tm:=Tr AV
inductive AEx where
 |normal
 |exit (id:Nat)
 |ret
 |panic (v:AV)
inductive dF where
 |box (cells:List AV)
 |row (g sz:Nat) (agg:Bool) (cells:List AV) (fz:Nat)
 |map (es:List (AV×AV))
 |loop (st:LoopState) (pend:Option AEx) (tm:Tm) (params:List Nat) (assign body:bu) (fn:FuncId)
 |dfd (taken:Bool)
structure AH where
 z:Nat
 objs:Tr dF
noncomputable section
def AH.get (h:AH)(k:Nat):Option dF:=h.objs.get k
def AH.set (h:AH)(k:Nat)(x:dF):AH:=AH.casesOn h λn o=>⟨n,o.put k x⟩
def AH.new (h:AH)(x:dF):AH:=AH.casesOn h λn o=>⟨Nat.succ n,o.put n x⟩
def nth (t:Tm)(n:Nat):AV:=Option.casesOn (t.get n) (.tup []) λv=>v
def ev (x:AX):Tm->AV:=AX.casesOn x (λn tm=>nth tm n) (λv _=>v)
def evs (l:List AX):Tm->List AV:=List.rec (λ_=>[]) (λx _ a tm=>ev x tm::a tm) l
def fI (d:Option Nat):Tm->AV->Tm:=Option.casesOn d (λtm _=>tm) (λd tm v=>tm.put d v)
def app {α:Type}(a:List α):List α->List α:=List.rec (λb=>b) (λx _ c b=>x::c b) a
def drp {α:Type}(n:Nat):List α->List α:=Nat.rec (λl=>l) (λ_ a l=>List.casesOn l [] λ_ l=>a l) n
def tke {α:Type}(n:Nat):List α->List α:=Nat.rec (λ_=>[]) (λ_ a l=>List.casesOn l [] λx l=>x::a l) n
def len {α:Type}(l:List α):Nat:=List.rec 0 (λ_ _ a=>Nat.succ a) l
def xF {α:Type}(n:Nat):List α->Option α:=
 Nat.rec (λl=>List.casesOn l none λx _=>some x) (λ_ a l=>List.casesOn l none λ_ l=>a l) n
def over {α:Type}(c:List α):List α->List α:=List.rec (λa=>a) (λv _ b a=>List.casesOn a [] λ_ a=>v::b a) c
def setR {α:Type}(b:Nat):List α->List α->List α:=Nat.rec (λd a=>over d a) (λ_ e d a=>List.casesOn a [] λc a=>c::e d a) b
def xG (agg:Bool):Nat->Nat->List AV->Option AV:=
 Bool.casesOn agg (λc a b=>cond (Nat.beq c 1) (xF a b) none)
  (λc a b=>cond (Nat.ble (Nat.add a c) (len b)) (some (.agg (tke c (drp a b)))) none)
def uo (agg:Bool)(b:Nat)(n:Nat):List AV->Option (List AV):=
 Nat.rec (λ_=>some []) (λ_ c a=>aI (xG agg b 0 a) λv=>aI (c (drp b a)) λr=>some (v::r)) n
def fZ (b:Nat)(l:List AV):Bool:=List.rec true (λe _ a=>and (Nat.beq (len e.cells) b) a) l
def fT (l:List AV):Bool:=List.rec true (λe _ a=>and e.lies a) l
def isRow (o:dF):Option (Nat×Nat×Bool×List AV×Nat):=
 match o with
 |.row g a agg b fz=>some (g,a,agg,b,fz)
 |_=>none
def kR (h:AH)(k g a:Nat):Option (Bool×List AV×Nat):=
 aI (h.get k) λo=>aI (isRow o) λr=>cond (and (Nat.beq g r.1) (Nat.beq r.2.1 a)) (some r.2.2) none
def lN (x:AV):AH->Nat->Option (List AV):=
 match x with
 |.nl=>λ_ _=>some []
 |.ls b=>λ_ a=>cond (fZ a b) (some b) none
 |.clip b=>λ_ a=>cond (fZ a b) (some b) none
 |.row k g d c n=>λh a=>cond (Nat.beq d a) (aI (kR h k g a) λr=>uo r.1 a n (drp (Nat.mul c a) r.2.1)) none
 |_=>λ_ _=>none
def bJ (l:List AV):List AV:=List.rec [] (λv _ a=>app v.cells a) l
def natI (n:Int):Option Nat:=Int.casesOn n (λm=>some m) (λ_=>none)
def aae (v:AV):Option Nat:=
 match v with
 |.int _ n=>natI n
 |_=>none
def acq (v:AV)(a:Nat):Option Nat:=aI (aae v) λm=>cond (Nat.blt m a) (some m) none
def py (v:AV)(a:Nat):Option Nat:=aI (aae v) λm=>cond (Nat.ble m a) (some m) none
def QR (k:IntKind):Nat:=IntKind.casesOn k 0 1 2 3 4 5 6 7
def Rh (a b:IntKind):Bool:=Nat.beq (QR a) (QR b)
def Ri (a b:Int):Bool:=
 Int.casesOn a (λm=>Int.casesOn b (λn=>Nat.beq m n) (λ_=>false)) (λm=>Int.casesOn b (λ_=>false) (λn=>Nat.beq m n))
def leI (a b:Int):Bool:=
 Int.casesOn a (λm=>Int.casesOn b (λn=>Nat.ble m n) (λ_=>false)) (λm=>Int.casesOn b (λ_=>true) (λn=>Nat.ble n m))
def aaj (a:List UInt8):List UInt8->Bool:=
 List.rec (λb=>List.casesOn b true λ_ _=>false) (λx _ c b=>List.casesOn b false λy b=>and (Nat.beq x.toNat y.toNat) (c b)) a
def Kd (a b:ByteArray):Bool:=aaj a.data.toList b.data.toList
def Qk (v:AV):Option (IntKind×Int):=
 match v with
 |.int k n=>some (k,n)
 |_=>none
def AU (v:AV):Option Bool:=
 match v with
 |.bool b=>some b
 |_=>none
def Jz (x:AV):Option ByteArray:=
 match x with
 |.str s=>some s
 |_=>none
def ie (t:Nat)(a b:AV):Option Bool:=
 cond (Nat.beq t 1) (aI (Qk a) λp=>aI (Qk b) λq=>cond (Rh p.1 q.1) (some (Ri p.2 q.2)) none)
  (cond (Nat.beq t 2) (aI (Jz a) λp=>aI (Jz b) λq=>some (Kd p q))
   (aI (AU a) λp=>aI (AU b) λq=>some (nJ p q)))
def tF (l:List (Nat×Nat)):List AV->List AV->Option Bool:=
 List.rec (λ_ _=>some true) (λo _ c a b=>aI (xF o.1 a) λx=>aI (xF o.1 b) λy=>aI (ie o.2 x y) λs=>cond s (c a b) (some false)) l
def abC (l:List AV):Nat:=List.casesOn l 2 λ_ _=>1
def aad (v:AV):Nat:=
 match v with
 |.nl=>0
 |.row _ _ _ _ n=>Nat.casesOn n 2 λ_=>1
 |.ls l=>abC l
 |.clip l=>abC l
 |_=>2
def VC (v:AV):Nat:=
 match v with
 |.nili=>0
 |.ifc _ _=>1
 |_=>2
def JQ (a b:Nat):Option Bool:=
 cond (Nat.beq (Nat.add a b) 0) (some true) (cond (Nat.beq (Nat.add a b) 1) (some false) none)
def VF (v:AV):Option (List AV):=
 match v with
 |.agg l=>some l
 |_=>none
def WA (v:AV):Option (AV×AV):=aI (VF v) λl=>List.casesOn l none λa l=>List.casesOn l none λb l=>List.casesOn l (some (a,b)) λ_ _=>none
def dT (t:Nat)(a b:AV):Option Bool:=
 cond (Nat.beq t 3) (aI (WA a) λp=>aI (WA b) λq=>aI (ie 1 p.1 q.1) λs=>cond s (ie 1 p.2 q.2) (some false)) (ie t a b)
def uj (l:List (AV×AV)):Nat->AV->Option (Option AV):=
 List.rec (λ_ _=>some none) (λe _ a t k=>aI (dT t k e.1) λb=>cond b (some (some e.2)) (a t k)) l
def uK (l:List (AV×AV)):Nat->AV->AV->List (AV×AV):=
 List.rec (λ_ k v=>[(k,v)]) (λe l a t k v=>Option.casesOn (dT t k e.1) (e::a t k v) λb=>cond b ((k,v)::l) (e::a t k v)) l
def aah (e:EqK):AV->AV->Option Bool:=
 match e with
 |.boolK=>λx y=>ie 0 x y
 |.num=>λ_ _=>none
 |.slice=>λx y=>cond (Nat.beq (aad y) 0) (JQ (aad x) 0) none
 |.iface=>λx y=>JQ (VC x) (VC y)
 |.struct l=>λx y=>aI (VF x) λa=>aI (VF y) λb=>tF l a b
def VJ (k:IntKind)(n:Int):AV:=.int k (k.wrap n)
def Uf (n:Int):AV:=
 Int.casesOn n (λm=>cond (Nat.blt m 9223372036854775808) (.int .i64 (.ofNat m)) (VJ .i64 (.ofNat m)))
  (λm=>cond (Nat.blt m 9223372036854775808) (.int .i64 (.negSucc m)) (VJ .i64 (.negSucc m)))
def Dc (k:IntKind)(n:Int):AV:=cond (Nat.beq (QR k) 3) (Uf n) (VJ k n)
def qy (c:BinOp):IntKind->Int->Int->Option AV:=
 match c with
 |.add=>λk a b=>some (Dc k (Int.add a b))
 |.sub=>λk a b=>some (Dc k (Int.sub a b))
 |.mul=>λk a b=>some (Dc k (Int.mul a b))
 |.eql=>λ_ a b=>some (.bool (Ri a b))
 |.neq=>λ_ a b=>some (.bool (not (Ri a b)))
 |.lss=>λ_ a b=>some (.bool (not (leI b a)))
 |.leq=>λ_ a b=>some (.bool (leI a b))
 |.gtr=>λ_ a b=>some (.bool (not (leI a b)))
 |.geq=>λ_ a b=>some (.bool (leI b a))
 |_=>λ_ _ _=>none
def FE (c:BinOp):ByteArray->ByteArray->Option AV:=
 match c with
 |.add=>λa b=>cond (Nat.blt 9223372036854775807 (Nat.add a.size b.size)) none (some (.str (a++b)))
 |.eql=>λa b=>some (.bool (Kd a b))
 |.neq=>λa b=>some (.bool (not (Kd a b)))
 |_=>λ_ _=>none
def UX (a:BinOp):EqK->AV->AV->Option AV:=
 match a with
 |.eql=>λe x y=>aI (aah e x y) λb=>some (.bool b)
 |.neq=>λe x y=>aI (aah e x y) λb=>some (.bool (not b))
 |_=>λ_ _ _=>none
def ad0 (y:AV):BinOp->EqK->IntKind->Int->Option AV:=
 match y with
 |.int c b=>λd _ k a=>cond (Rh k c) (qy d k a b) none
 |_=>λ_ _ _ _=>none
def adZ (y:AV):BinOp->EqK->ByteArray->Option AV:=
 match y with
 |.str b=>λc _ a=>FE c a b
 |_=>λ_ _ _=>none
def rj (x:AV):BinOp->EqK->AV->Option AV:=
 match x with
 |.int k a=>λb e y=>ad0 y b e k a
 |.str a=>λb e y=>adZ y b e a
 |x=>λb e y=>UX b e x y
def AO (l:List (Nat×Nat×AV)):List AV->Option (List AV):=
 List.rec (λa=>some a) (λp _ b a=>
  cond (and (Nat.beq (len p.2.2.cells) p.2.1) (and (Nat.ble (Nat.add p.1 p.2.1) (len a)) p.2.2.lies)) (b (setR p.1 p.2.2.cells a)) none) l
def Bc (n:Nat)(z:List AV):List AV:=Nat.rec [] (λ_ a=>app z a) n
end
inductive RC where
 |no
 |ret
 |pend (v:AV)
 |done
inductive DF where
 |call (f:AV) (args:List AV)
 |mark (k:Nat)
structure AC where
 dfs:List DF
 rc:RC
 rnd:Option Nat
 fid:FuncId
structure AF where
 tm:Tm
 cx:AC
inductive ep where
 |ret (v:AV)
 |pan (v:AV)
inductive OpR where
 |val (v:AV) (h:AH)
 |call (f:AV) (args:List AV)
 |rcv
 |dfr (f:AV) (args:List AV)
 |pan (v:AV)
 |bad
noncomputable section
def okV (r:Option AV):AH->OpR:=Option.casesOn r (λ_=>.bad) (λv h=>.val v h)
def okH (r:Option AH):OpR:=Option.casesOn r .bad (λh=>.val (.tup []) h)
def Kc (r:Option (AV×AH)):OpR:=Option.casesOn r .bad (λp=>.val p.1 p.2)
def WI (o:dF):Option (List (AV×AV)):=
 match o with
 |.map a=>some a
 |_=>none
def Kv (h:AH)(k:Nat):Option (List (AV×AV)):=aI (h.get k) WI
def lenOf (x:AV):AH->Nat->Option Nat:=
 match x with
 |.str s=>λ_ k=>cond (Nat.beq k 0) (some s.size) none
 |.nl=>λ_ k=>cond (Nat.beq k 1) (some 0) none
 |.ls a=>λ_ k=>cond (Nat.beq k 1) (some (len a)) none
 |.clip a=>λ_ k=>cond (Nat.beq k 1) (some (len a)) none
 |.row _ _ _ _ n=>λ_ k=>cond (Nat.beq k 1) (some n) none
 |_=>λ_ _=>none
def loadAt (o:dF):Bool->Nat->Nat->Nat->Option AV:=
 match o with
 |.box c=>λagg b g a=>cond (Nat.beq g 0) (xG agg b a c) none
 |.row g' _ _ c _=>λagg b g a=>cond (Nat.beq g g') (xG agg b a c) none
 |_=>λ_ _ _ _=>none
def cC (x:AV):AH->Bool->Nat->Option AV:=
 match x with
 |.vp v=>λ_ agg b=>cond (and (nJ v.isAgg agg) (Nat.beq (len v.cells) b)) (some v) none
 |.ptr k g a=>λh agg b=>aI (h.get k) λo=>loadAt o agg b g a
 |_=>λ_ _ _=>none
def storeAt (o:dF):Nat->Nat->List AV->Option dF:=
 match o with
 |.box c=>λg a b=>cond (and (Nat.beq g 0) (Nat.ble (Nat.add a (len b)) (len c))) (some (.box (setR a b c))) none
 |.row g' n agg c fz=>λg a b=>cond (and (Nat.beq g g') (and (Nat.ble fz a) (Nat.ble (Nat.add a (len b)) (len c))))
   (some (.row g' n agg (setR a b c) fz)) none
 |_=>λ_ _ _=>none
def cY (a:AV):AH->Nat->AV->Option AH:=
 match a with
 |.ptr k g b=>λh c v=>cond (and (Nat.beq (len v.cells) c) v.lies)
   (aI (h.get k) λo=>aI (storeAt o g b v.cells) λo=>some (h.set k o)) none
 |_=>λ_ _ _=>none
def jJ (h:AH)(agg:Bool)(b a:Nat)(z:List AV)(l c:AV):Option (AV×AH):=
 aI (py l 9223372036854775807) λn=>aI (py c 9223372036854775807) λm=>
  cond (and (Nat.beq n m) (and (Nat.ble (Nat.mul n a) 140737488355328) (Nat.beq (len z) b)))
   (some (.row h.z 0 b 0 n,h.new (.row 0 b agg (Bc n z) 0))) none
def Qh (o:Option AX):Tm->Nat->Nat->Option Nat:=Option.casesOn o (λ_ d _=>some d) (λx tm _ b=>py (ev x tm) b)
def slLen (x:AV):Option Nat:=
 match x with
 |.nl=>some 0
 |.ls a=>some (len a)
 |.clip a=>some (len a)
 |.row _ _ _ _ n=>some n
 |_=>none
def FG (x:AV):Nat->Nat->Nat->Option AV:=
 match x with
 |.nl=>λ_ _ _=>some .nl
 |.ls b=>λa l c=>cond (fZ a b) (some (.ls (tke (Nat.sub c l) (drp l b)))) none
 |.clip b=>λa l c=>cond (fZ a b) (some (.ls (tke (Nat.sub c l) (drp l b)))) none
 |.row k g e d _=>λa l c=>cond (Nat.beq e a) (some (.row k g a (Nat.add d l) (Nat.sub c l))) none
 |_=>λ_ _ _=>none
def fb (b:Nat)(x:AV)(tm:Tm)(lo hi:Option AX):Option AV:=
 aI (slLen x) λn=>aI (Qh hi tm n n) λa=>aI (Qh lo tm 0 a) λl=>FG x b l a
def MJ (r:Option AV):AV->Bool->AV:=
 Option.casesOn r (λz ok=>cond ok (.tup [z,.bool false]) z) (λv _ ok=>cond ok (.tup [v,.bool true]) v)
def WH (m:AV):Option Nat:=
 match m with
 |.map k=>some k
 |_=>none
def iq (h:AH)(t:Nat)(z:AV)(ok:Bool)(m i:AV):Option AV:=
 aI (dT t i i) λ_=>aI (WH m) λk=>aI (Kv h k) λa=>aI (uj a t i) λr=>some (MJ r z ok)
def iR (h:AH)(t:Nat)(m k v:AV):Option AH:=
 aI (WH m) λr=>aI (Kv h r) λa=>aI (dT t k k) λ_=>aI (uj a t k) λ_=>some (h.set r (.map (uK a t k v)))
def need (n m a:Nat):Bool:=and (Nat.ble (Nat.mul (Nat.add (Nat.mul 2 (Nat.add n m)) 1000) a) 140737488355328) (Nat.ble (Nat.add n m) 9223372036854775807)
def qP (s:AV):AH->Option (AV×AH):=
 match s with
 |.nl=>λh=>some (.nl,h)
 |.ls a=>λh=>some (.ls a,h)
 |.clip a=>λh=>some (.clip a,h)
 |.row k g c b n=>λh=>some (.row k g c b n,h)
 |_=>λ_=>none
def kO (s:AV):AH->Nat->Bool->Nat->List AV->Option (AV×AH):=
 match s with
 |.nl=>λh b agg a c=>cond (need 0 (len c) a) (some (.row h.z 0 b 0 (len c),h.new (.row 0 b agg (bJ c) 0))) none
 |.clip e=>λh b agg a c=>cond (and (need (len e) (len c) a) (and (fZ b e) (fT e)))
   (some (.row h.z 0 b 0 (Nat.add (len e) (len c)),h.new (.row 0 b agg (app (bJ e) (bJ c)) 0))) none
 |.row k g f d n=>λh b agg a c=>cond (Nat.beq f b) (aI (kR h k g b) λr=>
   cond (and (nJ r.1 agg) (and (Nat.ble r.2.2 (Nat.mul (Nat.add d n) b)) (and (Nat.ble (Nat.mul (Nat.add d n) b) (len r.2.1)) (need n (len c) a))))
    (some (.row k (Nat.succ g) b 0 (Nat.add n (len c)),
     h.set k (.row (Nat.succ g) b agg (app (tke (Nat.mul n b) (drp (Nat.mul d b) r.2.1)) (bJ c)) (Nat.sub r.2.2 (Nat.mul d b))))) none) none
 |_=>λ_ _ _ _ _=>none
def cI (h:AH)(b:Nat)(agg:Bool)(z:List AV)(a:Nat)(s x:AV):Option (AV×AH):=
 aI (lN x h b) λc=>cond (and (fT c) (Nat.beq (len z) b)) (List.casesOn c (qP s h) λy d=>kO s h b agg a (y::d)) none
def QO (a:Bool)(m n:Int):Int:=cond a (cond (leI m n) m n) (cond (leI n m) m n)
def Kw (l:List AV):Bool->IntKind->Int->Option AV:=
 List.rec (λ_ k m=>some (.int k m)) (λx _ b a k m=>aI (Qk x) λp=>b a k (QO a m p.2)) l
def AR (a:Bool)(l:List AV):Option AV:=List.casesOn l none λx l=>aI (Qk x) λp=>Kw l a p.1 p.2
def Rb {β:Type}(l:List AV)(no:β)(k:AV->β):β:=List.casesOn l no λx l=>List.casesOn l (k x) λ_ _=>no
def acI {β:Type}(l:List AV)(no:β)(k:AV->AV->β):β:=List.casesOn l no λx l=>Rb l no λy=>k x y
def EL (c:AV):AV->AV->Option AV:=
 match c with
 |.bool c=>λa b=>some (cond c a b)
 |_=>λ_ _=>none
def uk (h:AH)(n:Nat)(v:AV):OpR:=cond (and (Nat.beq (len v.cells) n) v.lies) (.val (.ptr h.z 0 0) (h.new (.box v.cells))) .bad
def kv (l:List (Nat×Nat×AX)):Tm->List (Nat×Nat×AV):=List.rec (λ_=>[]) (λp _ a tm=>(p.1,p.2.1,ev p.2.2 tm)::a tm) l
def fJ (l:List (Nat×AX)):Tm->Nat->List (Nat×Nat×AV):=List.rec (λ_ _=>[]) (λp _ b tm a=>(Nat.mul p.1 a,a,ev p.2 tm)::b tm a) l
def lT (z:List AV)(b:List (Nat×Nat×AV)):Option AV:=aI (AO b z) λa=>some (.agg a)
def we (agg:Bool)(d:Nat)(z:List AV)(n:Nat)(a:List (Nat×Nat×AV)):Option AV:=
 aI (AO a (Bc n z)) λc=>aI (uo agg d n c) λb=>some (.clip b)
def vj (v:AV):Option AV:=
 match v with
 |.ptr k g o=>some (.ptr k g o)
 |.vp v=>some (.vp v)
 |.fn f a b=>some (.fn f a b)
 |_=>none
def cy (v:AV):Nat->Nat->Bool->Option AV:=
 match v with
 |.ptr k g a=>λo _ _=>some (.ptr k g (Nat.add a o))
 |.vp w=>λo b agg=>aI (VF w) λc=>aI (xG agg b o c) λv=>some (.vp v)
 |_=>λ_ _ _=>none
def QN (a:List AV)(b:Nat)(i:AV):Option AV:=
 aI (aae i) λn=>aI (xF n a) λv=>cond (Nat.beq (len v.cells) b) (some (.vp v)) none
def bW (x:AV):Nat->AV->Option AV:=
 match x with
 |.ls b=>λa i=>QN b a i
 |.clip b=>λa i=>QN b a i
 |.row k g d c n=>λa i=>cond (Nat.beq d a) (aI (acq i n) λn=>some (.ptr k g (Nat.mul (Nat.add c n) a))) none
 |_=>λ_ _=>none
def vg (x i:AV):Option AV:=
 aI (Jz x) λs=>aI (aae i) λn=>aI (xF n s.data.toList) λb=>some (.int .u8 (.ofNat b.toNat))
def rV (x:AV):TypeId->AV->Option AV:=
 match x with
 |.ifc a v=>λt z=>some (cond (Nat.beq a t) (.tup [v,.bool true]) (.tup [z,.bool false]))
 |_=>λ_ _=>none
def ZX (v:AV):Option (List AV):=
 match v with
 |.tup l=>some l
 |_=>none
def tE (x:AV):OpR:=
 match x with
 |.ifc t v=>.pan (.ifc t v)
 |_=>.bad
def qJ (h:AOp):Tm->Option AV:=
 match h with
 |.mv x=>λtm=>some (ev x tm)
 |.pick c a b=>λtm=>EL (ev c tm) (ev a tm) (ev b tm)
 |.build z g=>λtm=>lT z (kv g tm)
 |.lit agg d z n g=>λtm=>we agg d z n (fJ g tm d)
 |.nilChk x=>λtm=>vj (ev x tm)
 |.bin h e x y=>λtm=>rj (ev x tm) h e (ev y tm)
 |.un x=>λtm=>aI (AU (ev x tm)) λb=>some (.bool (not b))
 |.mkIface t x=>λtm=>some (.ifc t (ev x tm))
 |.mkFn f a b=>λtm=>some (.fn f (evs a tm) (evs b tm))
 |.slice d x lo hi=>λtm=>fb d (ev x tm) tm lo hi
 |.faddr o d agg x=>λtm=>cy (ev x tm) o d agg
 |.iaddr d x i=>λtm=>bW (ev x tm) d (ev i tm)
 |.strIdx x i=>λtm=>vg (ev x tm) (ev i tm)
 |.assert t z x=>λtm=>rV (ev x tm) t z
 |.extract x i=>λtm=>aI (ZX (ev x tm)) λl=>xF i l
 |.builtin .max args=>λtm=>AR false (evs args tm)
 |.builtin .min args=>λtm=>AR true (evs args tm)
 |_=>λ_=>none
def da (e:AOp):Tm->AH->OpR:=
 match e with
 |.new z=>λ_ h=>.val (.ptr h.z 0 0) (h.new (.box z))
 |.box n x=>λtm h=>uk h n (ev x tm)
 |.load agg d x=>λtm h=>okV (cC (ev x tm) h agg d) h
 |.store d a x=>λtm h=>okH (cY (ev a tm) h d (ev x tm))
 |.mkMap=>λ_ h=>.val (.map h.z) (h.new (.map []))
 |.mkSlice agg d b z l c=>λtm h=>Kc (jJ h agg d b z (ev l tm) (ev c tm))
 |.lookup t z x i ok=>λtm h=>okV (iq h t z ok (ev x tm) (ev i tm)) h
 |.mapUp t m k v=>λtm h=>okH (iR h t (ev m tm) (ev k tm) (ev v tm))
 |.builtin (.len k) args=>λtm h=>Rb (evs args tm) .bad λx=>okV (aI (lenOf x h k) λn=>some (.int .i64 (.ofNat n))) h
 |.builtin (.append d agg z b) args=>λtm h=>acI (evs args tm) .bad λs x=>Kc (cI h d agg z b s x)
 |.builtin .recover _=>λ_ _=>.rcv
 |.call f args=>λtm _=>.call (ev f tm) (evs args tm)
 |.defer f args=>λtm _=>.dfr (ev f tm) (evs args tm)
 |.panic x=>λtm _=>tE (ev x tm)
 |e=>λtm h=>okV (qJ e tm) h
end
abbrev aN:=AV->List AV->RC->AH->Option (ep×RC×AH)
abbrev RX:=Option (AEx×AF×AH)
noncomputable section
def acK {α:Type}(l:List α):Bool:=List.casesOn l true λ_ _=>false
def wantV (v:AV):Bool->Option Bool:=
 match v with
 |.bool c=>λb=>some (nJ c b)
 |.tup l=>λ_=>cond (acK l) (some false) none
 |_=>λ_=>none
def fY (g:Option (Nat×Bool)):Tm->Option Bool:=Option.casesOn g (λ_=>some true) (λp tm=>wantV (nth tm p.1) p.2)
def AF.put (b:AF)(d:Option Nat)(v:AV):AF:=AF.casesOn b λtm a=>⟨fI d tm v,a⟩
def VP (b:RC):Option Nat->AF->AH->RX:=
 match b with
 |.pend v=>λd a h=>some (.normal,⟨fI d a.tm v,⟨a.cx.dfs,.done,a.cx.rnd,a.cx.fid⟩⟩,h)
 |.ret=>λd a h=>some (.normal,a.put d .nili,h)
 |.done=>λd a h=>some (.normal,a.put d .nili,h)
 |.no=>λ_ _ _=>none
def JO (d:Option Nat)(a:AF)(h:AH):RX:=Option.casesOn a.cx.rnd (VP a.cx.rc d a h) λ_=>none
def acP (v:AV):Bool:=
 match v with
 |.fn _ _ _=>true
 |_=>false
def QT (d:Option Nat)(f:AV)(args:List AV)(a:AF)(h:AH):RX:=
 Option.casesOn a.cx.rnd (cond (acP f) (some (.normal,⟨fI d a.tm (.tup []),⟨.call f args::a.cx.dfs,a.cx.rc,a.cx.rnd,a.cx.fid⟩⟩,h)) none) λ_=>none
def outBy (o:ep):Option Nat->AF->AH->RX:=
 match o with
 |.ret v=>λd a h=>some (.normal,a.put d v,h)
 |.pan v=>λ_ a h=>some (.panic v,a,h)
def QS (d:Option Nat)(a:AF)(r:Option (ep×RC×AH)):RX:=aI r λp=>outBy p.1 d a p.2.2
def ly (r:OpR):aN->Option Nat->AF->AH->RX:=
 match r with
 |.val v h=>λ_ d a _=>some (.normal,a.put d v,h)
 |.call f args=>λcall d a h=>QS d a (call f args .no h)
 |.rcv=>λ_ d a h=>JO d a h
 |.dfr f args=>λ_ d a h=>QT d f args a h
 |.pan v=>λ_ _ a h=>some (.panic v,a,h)
 |.bad=>λ_ _ _ _=>none
def eO (o:aX)(call:aN)(a:AF)(h:AH):RX:=
 aI (fY o.guard a.tm) λw=>cond w (ly (da o.op a.tm h) call o.dst a h) (some (.normal,a.put o.dst (.tup []),h))
def acR (e:AEx):AF->AH->(AF->AH->RX)->RX:=
 match e with
 |.normal=>λa h k=>AF.casesOn a λtm b=>AH.casesOn h λn o=>k ⟨tm,b⟩ ⟨n,o⟩
 |.exit id=>λa h _=>some (.exit id,a,h)
 |.ret=>λa h _=>some (.ret,a,h)
 |.panic v=>λa h _=>some (.panic v,a,h)
def kQ (r:RX)(k:AF->AH->RX):RX:=aI r λp=>acR p.1 p.2.1 p.2.2 k
def wc (l:List aX):aN->AF->AH->RX:=
 List.rec (λ_ a h=>some (.normal,a,h)) (λo _ b call a h=>kQ (eO o call a h) (b call)) l
end
mutual
def AV.beq:AV->AV->Bool
 |.bool a,.bool b=>a==b
 |.int k a,.int c b=>k==c&&a==b
 |.str a,.str b=>a==b
 |.nilp,.nilp=>true
 |.vp v,.vp d=>AV.beq v d
 |.clip a,.clip b=>AV.beqs a b
 |.nilm,.nilm=>true
 |.map k,.map c=>Nat.beq k c
 |.fn f a b,.fn j p q=>Nat.beq f j&&AV.beqs a p&&AV.beqs b q
 |.yld l,.yld h=>Nat.beq l h
 |.nilf,.nilf=>true
 |.ifc t v,.ifc i d=>Nat.beq t i&&AV.beq v d
 |.nili,.nili=>true
 |.tup a,.tup b=>AV.beqs a b
 |.any,.any=>true
 |.ptr k g o,.ptr c g' o'=>Nat.beq k c&&Nat.beq g g'&&Nat.beq o o'
 |.nl,.nl=>true
 |.ls a,.ls b=>AV.beqs a b
 |.row k g z o n,.row c g' e o' m=>Nat.beq k c&&Nat.beq g g'&&Nat.beq z e&&Nat.beq o o'&&Nat.beq n m
 |.agg a,.agg b=>AV.beqs a b
 |_,_=>false
def AV.beqs:List AV->List AV->Bool
 |[],[]=>true
 |a::l,b::m=>AV.beq a b&&AV.beqs l m
 |_,_=>false
end
structure Rd where
 tm:Tm
 op:AOp
 v:AV
 lo:Nat
 hi:Nat
structure DS where
 fr:AF
 h:AH
 nk:Nat
 hs:List AH
 rds:List Rd
noncomputable section
def tj (r:OpR):AV->Bool:=
 match r with
 |.val u _=>λv=>AV.beq u v
 |_=>λ_=>false
def lP (l:List AH):Rd->Nat->Bool:=
 List.rec (λ_ _=>true) (λh _ a r m=>and (or (Nat.blt m r.lo) (or (Nat.blt r.hi m) (tj (da r.op r.tm h) r.v))) (a r (Nat.succ m))) l
def iD (l:List Rd):List AH->Bool:=List.rec (λ_=>true) (λr _ a hs=>and (lP hs r 0) (a hs)) l
def BG (l:List (aX×DI)):Tm->Tm:=List.rec (λtm=>tm) (λp _ a tm=>a (fI p.1.dst tm .any)) l
def birth (a:AOp):AH->AH:=
 match a with
 |.new z=>λh=>h.new (.box z)
 |_=>λh=>h
def mN (l:List (aX×DI)):AH->AH:=List.rec (λh=>h) (λp _ a h=>a (birth p.1.op h)) l
def Eu (s:DS):RX:=cond (iD s.rds s.hs) (some (.normal,s.fr,s.h)) none
def jL (e:AEx):DS->AF->(DS->RX)->RX:=
 match e with
 |.normal=>λs a k=>k ⟨a,s.h,s.nk,s.hs,s.rds⟩
 |_=>λ_ _ _=>none
def qK (r:OpR):DS->aX->DI->(DS->RX)->RX:=
 match r with
 |.val v _=>λs o d k=>k ⟨s.fr.put o.dst v,s.h,s.nk,s.hs,cond (Nat.beq d.lo d.hi) s.rds (⟨s.fr.tm,o.op,v,d.lo,d.hi⟩::s.rds)⟩
 |_=>λ_ _ _ _=>none
def vm (s:DS)(o:aX)(d:DI)(k:DS->RX):RX:=
 aI (fY o.guard s.fr.tm) λw=>cond w (qK (da o.op s.fr.tm s.h) s o d k) (k ⟨s.fr.put o.dst (.tup []),s.h,s.nk,s.hs,s.rds⟩)
def pF (c:Cls):aN->aX->DI->DS->(DS->RX)->RX:=
 match c with
 |.born=>λ_ o _ s k=>k ⟨s.fr.put o.dst (.ptr s.nk 0 0),s.h,Nat.succ s.nk,s.hs,s.rds⟩
 |.acts=>λ_ _ _ _ _=>none
 |.still=>λcall o _ s k=>aI (eO o call s.fr s.h) λp=>jL p.1 s p.2.1 k
 |.reads=>λ_ o d s k=>vm s o d k
def iB (l:List (aX×DI)):aN->Nat->DS->RX:=
 List.rec (λ_ _ s=>Eu s) (λp _ a call c s=>cond (Nat.blt c p.2.lo) (cond (JX p.1.op.cls) none (a call c s)) (pF p.1.op.cls call p.1 p.2 s (a call c))) l
def zK (call:aN)(all b:List (aX×DI))(fin:Bool)(s:DS)(v:AV)(a:AF)(h:AH):RX:=
 cond fin (cond (iD s.rds s.hs) (some (.panic v,⟨BG all a.tm,a.cx⟩,h)) none) (aI (iB b call (Nat.pred (len s.hs)) s) λ_=>some (.panic v,⟨BG all a.tm,a.cx⟩,h))
def zL (e:AEx):aN->List (aX×DI)->List (aX×DI)->Bool->DS->AF->AH->(DS->RX)->RX:=
 match e with
 |.normal=>λ_ _ _ _ s a h k=>k ⟨a,h,s.nk,s.hs++[h],s.rds⟩
 |.panic v=>λcall all b fin s a h _=>zK call all b fin s v a h
 |_=>λ_ _ _ _ _ _ _ _=>none
def pG (c:Cls):aN->List (aX×DI)->List (aX×DI)->aX->DI->DS->(DS->RX)->RX:=
 match c with
 |.born=>λ_ _ _ o _ s k=>k ⟨s.fr.put o.dst (.ptr s.nk 0 0),s.h,Nat.succ s.nk,s.hs,s.rds⟩
 |.acts=>λcall all a o d s k=>aI (eO o call s.fr s.h) λp=>zL p.1 call all a d.fin s p.2.1 p.2.2 k
 |.still=>λcall _ _ o _ s k=>aI (eO o call s.fr s.h) λp=>jL p.1 s p.2.1 k
 |.reads=>λ_ _ _ o d s k=>vm s o d k
def lH (l:List (aX×DI)):aN->List (aX×DI)->DS->RX:=
 List.rec (λ_ _ s=>Eu s) (λp b a call all s=>pG p.1.op.cls call all b p.1 p.2 s (a call all)) l
def wv (ops:List (aX×DI))(a:AF)(h:AH):DS:=⟨a,mN ops h,h.z,[mN ops h],[]⟩
def Io (n:Nat):(AF->AH->RX)->AF->AH->RX:=
 Nat.rec (λ_ _ _=>none) (λ_ a step b h=>kQ (step b h) (a step)) n
def qS (c:List Nat):List AV->Tm->Tm:=List.rec (λ_ tm=>tm) (λp _ b as tm=>List.casesOn as tm λa as=>b as (tm.put p a)) c
def jA {β:Type}(o:dF)(no:β):(LoopState->Option AEx->Tm->List Nat->bu->bu->FuncId->β)->β:=
 match o with
 |.loop st pend tm a as b f=>λk=>k st pend tm a as b f
 |_=>λ_=>no
def uR (a:AF)(c:List Nat)(as b:bu)(h:AH):Option (Nat×List DF×AH):=
 Option.casesOn a.cx.rnd (some (Nat.succ h.z,[.mark h.z],(h.new (.dfd false)).new (.loop .ready none a.tm c as b a.cx.fid)))
  λl=>aI (h.get l) λo=>jA o none λ_ _ _ _ _ _ _=>some (h.z,[],h.new (.loop .ready none a.tm c as b a.cx.fid))
def xU (s:LoopState):Bool:=LoopState.casesOn s false true false false
def MM (s:LoopState):Bool:=LoopState.casesOn s true false false false
def tD (c:AF)(l:Nat)(h:AH):RX:=
 aI (h.get l) λo=>jA o none λst pend tm a as b f=>
  cond (xU st) none (Option.casesOn pend (some (.normal,c,h.set l (.loop .exhausted none tm a as b f)))
   λe=>some (e,c,h.set l (.loop .exhausted (some e) tm a as b f)))
def Ao (o:ep):AF->Nat->AH->RX:=
 match o with
 |.ret _=>λa l h=>tD a l h
 |.pan v=>λa _ h=>some (.panic v,a,h)
def BC (mk:List DF)(a:AF):AF:=⟨a.tm,⟨mk++a.cx.dfs,a.cx.rc,a.cx.rnd,a.cx.fid⟩⟩
def zJ (call:aN)(f:AX)(c:List Nat)(as b:bu)(a:AF)(h:AH):RX:=
 aI (uR a c as b h) λp=>aI (call (ev f a.tm) [.yld p.1] .no p.2.2) λq=>Ao q.1 (BC p.2.1 a) p.1 q.2.2
def BA (c:AV):(AF->AH->RX)->(AF->AH->RX)->AF->AH->RX:=
 match c with
 |.bool t=>λa b d h=>cond t (a d h) (b d h)
 |_=>λ_ _ _ _=>none
def WC (e:AEx):Nat->AEx:=
 match e with
 |.exit j=>λid=>cond (Nat.beq j id) .normal (.exit j)
 |e=>λ_=>e
def WB (id:Nat)(r:RX):RX:=aI r λp=>some (WC p.1 id,p.2.1,p.2.2)
def dY (c:bu):aN->Nat->AF->AH->RX:=
 bu.rec
  (λ_ _ d h=>some (.normal,d,h))
  (λops call _ d h=>wc ops call d h)
  (λops call _ d h=>lH ops call ops (wv ops d h))
  (λ_ _ a b call n d h=>kQ (a call n d h) (b call n))
  (λc _ _ a b call n d h=>BA (ev c d.tm) (a call n) (b call n) d h)
  (λid _ a call n d h=>WB id (a call n d h))
  (λ_ a call n d h=>Io n (a call n) d h)
  (λf e as b _ _ call _ d h=>zJ call f e as b d h)
  (λid _ _ d h=>some (.exit id,d,h))
  (λ_ a call n d h=>a call n d h)
  (λ_ _ d h=>some (.ret,d,h))
  c
end
inductive Md where
 |returning
 |panicking (v:AV)
noncomputable section
def aea (a:RC):Md->AH->Option (Md×AH):=
 match a with
 |.ret=>λm h=>match m with
  |.returning=>some (.returning,h)
  |.panicking _=>none
 |.done=>λm h=>match m with
  |.returning=>none
  |.panicking _=>some (.returning,h)
 |.pend _=>λm h=>match m with
  |.returning=>none
  |.panicking v=>some (.panicking v,h)
 |.no=>λ_ _=>none
def KC (o:ep):RC->Md->AH->Option (Md×AH):=
 match o with
 |.ret _=>λa m h=>aea a m h
 |.pan _=>λ_ _ _=>none
def acD (m:Md):RC:=
 match m with
 |.returning=>.ret
 |.panicking v=>.pend v
def abA (o:dF):Option Bool:=
 match o with
 |.dfd t=>some t
 |_=>none
def JP (d:DF):aN->Md->AH->Option (Md×AH):=
 match d with
 |.mark k=>λ_ m h=>aI (h.get k) λo=>aI (abA o) λt=>cond t none (some (m,h.set k (.dfd true)))
 |.call f as=>λcall m h=>aI (call f as (acD m) h) λq=>KC q.1 q.2.1 m q.2.2
def ou (l:List DF):aN->Md->AH->Option (Md×AH):=
 List.rec (λ_ m h=>some (m,h)) (λd _ a call m h=>aI (JP d call m h) λp=>a call p.1 p.2) l
def UW (r:bG):Tm->AH->Option AV:=
 match r with
 |.tmp t=>λtm _=>some (nth tm t)
 |.cell a agg b=>λtm h=>cC (nth tm a) h agg b
def fH (l:List bG):Tm->AH->Option (List AV):=
 List.rec (λ_ _=>some []) (λr _ a tm h=>aI (UW r tm h) λv=>aI (a tm h) λb=>some (v::b)) l
def one (l:List AV):AV:=Rb l (.tup l) λv=>v
def aby (m:Md):Di->AF->AH->Option (ep×RC×AH):=
 match m with
 |.returning=>λfn a h=>aI (fH fn.results a.tm h) λb=>some (.ret (one b),a.cx.rc,h)
 |.panicking v=>λ_ a h=>some (.pan v,a.cx.rc,h)
def Dd (call:aN)(fn:Di)(a:AF)(m:Md)(h:AH):Option (ep×RC×AH):=
 aI (ou a.cx.dfs call m h) λp=>aby p.1 fn a p.2
end
abbrev Env:=FuncId->Option Di
noncomputable section
def cU (as:List AV):Tm:=Tr.ofList as
def fnEx (e:AEx):aN->Di->AF->AH->Option (ep×RC×AH):=
 match e with
 |.normal=>λcall fn a h=>Dd call fn a .returning h
 |.ret=>λcall fn a h=>Dd call fn a .returning h
 |.panic v=>λcall fn a h=>Dd call fn a (.panicking v) h
 |.exit _=>λ_ _ _ _=>none
def qw (E:Env)(call:aN)(n:Nat)(f:FuncId)(as:List AV)(a:RC)(h:AH):Option (ep×RC×AH):=
 aI (E f) λfn=>aI (dY fn.body call n ⟨cU as,⟨[],a,none,f⟩⟩ h) λp=>fnEx p.1 call fn p.2.1 p.2.2
def pL (h:AH)(l:Nat)(st:LoopState)(pend:Option AEx):Option AH:=
 aI (h.get l) λo=>jA o none λ_ _ tm a as b f=>some (h.set l (.loop st pend tm a as b f))
def xR (b:Bool)(h:Option AH):Option (ep×RC×AH):=aI h λh=>some (.ret (.bool b),.no,h)
def aan (e:AEx):Nat->AH->Option (ep×RC×AH):=
 match e with
 |.normal=>λl h=>xR true (pL h l .ready none)
 |.ret=>λl h=>xR false (pL h l .done (some .ret))
 |.exit id=>λl h=>xR false (pL h l .done (some (.exit id)))
 |.panic v=>λ_ h=>some (.pan v,.no,h)
def rF (h:AH)(l:Nat):Option AH:=
 aI (h.get l) λo=>jA o none λst pend tm a as b f=>cond (MM st) (some (h.set l (.loop .busy pend tm a as b f))) none
def Tj (e:AEx):Bool:=
 match e with
 |.normal=>true
 |_=>false
def DD (call:aN)(n:Nat)(l:Nat)(b:bu)(r:RX):Option (ep×RC×AH):=
 aI r λp=>cond (Tj p.1) (aI (rF p.2.2 l) λh=>aI (dY b call n p.2.1 h) λq=>cond (acK q.2.1.cx.dfs) (aan q.1 l q.2.2) none) none
def AQ (call:aN)(n:Nat)(l:Nat)(args:List AV)(h:AH):Option (ep×RC×AH):=
 aI (h.get l) λo=>jA o none λ_ _ tm a as b f=>
  cond (Nat.beq (len args) (len a)) (DD call n l b (dY as call n ⟨qS a args tm,⟨[],.no,some l,f⟩⟩ h)) none
def isNo (r:RC):Bool:=
 match r with
 |.no=>true
 |_=>false
def xK (c:AV):Env->aN->Nat->List AV->RC->AH->Option (ep×RC×AH):=
 match c with
 |.fn f first a=>λE call n args b h=>qw E call n f (app first (app args a)) b h
 |.yld l=>λ_ call n args b h=>cond (isNo b) (AQ call n l args h) none
 |_=>λ_ _ _ _ _ _=>none
end
variable {α β:Type}
theorem aK {a:α}{k:α->Option β}: aI (some a) k=k a:=rfl
theorem yZ {k:α->Option β}: aI (none:Option α) k=none:=rfl
def aC {o:Option α}{k:α->Option β}{b:β}(h:aI o k=some b):∃a,o=some a/\k a=some b:=by
 cases o with
 |none=>cases h
 |some a=>exact⟨a,rfl,h⟩
theorem Ua {o:Option α}{k:α->Option β}{a:α}(h:o=some a):aI o k=k a:=by subst h;rfl
def bj {c:Bool}{x:Option α}{b:α}(h:cond c x none=some b):c=true/\x=some b:=by
 grind
def lq {c:Bool}{x:Option α}{b:α}(h:cond c none x=some b):c=false/\x=some b:=by
 grind
def fq {a b:Bool}(h:and a b=true):a=true/\b=true:=by
 grind
theorem dB {a b:Nat}(h:Nat.beq a b=true):a=b:=Nat.eq_of_beq_eq_true h
def mM {a b:Nat}(h:Nat.ble a b=true):a<=b:=Nat.le_of_ble_eq_true h
theorem lX {a b:Nat}(h:Nat.blt a b=true):a<b:=Nat.le_of_ble_eq_true h
def CS {a b:Nat}(h:Nat.ble a b=false):b<a:=by
 grind [Nat.lt_or_ge,Nat.ble_eq_true_of_le]
def PL {a b:Nat}(h:Nat.blt a b=false):b<=a:=Nat.le_of_lt_succ (CS h)
theorem lY (a b:List α):app a b=a++b:=by
 induction a with
 |nil=>rfl
 |cons x a c=>show x::app a b=_;rw[c];rfl
theorem bT (l:List α):len l=l.length:=by
 induction l with
 |nil=>rfl
 |cons x a b=>show Nat.succ (len a)=_;rw[b];rfl
theorem iC (n:Nat):∀l:List α,drp n l=l.drop n:=by
 induction n with
 |zero=>intro l;rfl
 |succ n a=>intro l;cases l with
  |nil=>rfl
  |cons x l=>show drp n l=_;rw[a];rfl
theorem lu (n:Nat):∀l:List α,tke n l=l.take n:=by
 induction n with
 |zero=>intro l;cases l<;>rfl
 |succ n a=>intro l;cases l with
  |nil=>rfl
  |cons x l=>show x::tke n l=_;rw[a];rfl
theorem jQ (n:Nat):∀l:List α,xF n l=l[n]?:=by
 induction n with
 |zero=>intro l;cases l<;>rfl
 |succ n a=>intro l;cases l with
  |nil=>rfl
  |cons x l=>show xF n l=_;rw[a];rfl
def GR (a:List α):over [] a=a:=rfl
theorem oU (v c:α)(a b:List α):over (v::a) (c::b)=v::over a b:=rfl
theorem BU (a b:List α):setR 0 a b=over a b:=rfl
theorem jG (n:Nat)(a:List α)(c:α)(b:List α):setR (n+1) a (c::b)=c::setR n a b:=rfl
def Fv (b:List α):∀a:List α,(over b a).length=a.length:=by
 induction b with
 |nil=>intro a;rfl
 |cons v b d=>intro a;cases a with
  |nil=>rfl
  |cons c a=>grind [oU]
theorem lJ (b:Nat)(d:List α):∀a:List α,(setR b d a).length=a.length:=by
 induction b with
 |zero=>intro a;exact Fv d a
 |succ n e=>intro a;cases a with
  |nil=>rfl
  |cons c a=>grind [jG]
def Ss (b:List α):∀(a:List α) (i:Nat),b.length<=a.length->(over b a)[i]?=if i<b.length then b[i]? else a[i]?:=by
 induction b with
 |nil=>intro a i _;simp[GR]
 |cons v b d=>intro a i h;cases a with
  |nil=>grind
  |cons c a=>
   grind [oU,List.getElem?_cons_succ,M_,Nat.succ_lt_succ_iff]
theorem uX (a:Nat)(d:List α):∀(b:List α) (i:Nat),a+d.length<=b.length->
  (setR a d b)[i]?=if a<=i/\i<a+d.length then d[i-a]? else b[i]?:=by
 induction a with
 |zero=>intro b i h;rw[BU,Ss d b i o_];simp
 |succ n e=>intro b i h;cases b with
  |nil=>grind
  |cons c b=>
   rw[jG];grind
theorem OO (f:α->Option β)(a:α)(l:List α):ma f (a::l)=aI (f a) λb=>aI (ma f l) λr=>some (b::r):=rfl
def cA {f:α->Option β}{a:α}{l:List α}{r:List β}(h:ma f (a::l)=some r):∃b c,f a=some b/\ma f l=some c/\r=b::c:=by
 rw[OO]at h;have⟨_,_,h⟩:=aC h;have⟨_,_,h⟩:=aC h;grind
def wY {f:α->Option β}: ∀{l:List α} {r:List β},ma f l=some r->r.length=l.length:=by
 intro l;induction l with
 |nil=>intro r h;cases h;rfl
 |cons a l c=>intro r h;obtain⟨_,_,_,_,rfl⟩:=cA h;grind
theorem lQ:bJ []=[]:=rfl
theorem cK (v:AV)(l:List AV):bJ (v::l)=v.cells++bJ l:=by show app v.cells (bJ l)=_;rw[lY]
def Zi (tm:Tm):evs [] tm=[]:=rfl
theorem HJ (x:AX)(l:List AX)(tm:Tm):evs (x::l) tm=ev x tm::evs l tm:=rfl
def uJ:aZ []=true:=rfl
theorem dG (a:AV)(l:List AV):aZ (a::l)=(a.isCell&&aZ l):=rfl
theorem lM (a:AV)(l:List AV):fT (a::l)=and a.lies (fT l):=rfl
theorem yA (b:Nat)(a:AV)(l:List AV):fZ b (a::l)=and (Nat.beq (len a.cells) b) (fZ b l):=rfl
theorem dU (l:List AV):aZ l=true<->∀a∈l,a.isCell=true:=by
 induction l with
 |nil=>simp[uJ]
 |cons a l b=>grind [dG]
theorem jr (a b:List AV):aZ (a++b)=(aZ a&&aZ b):=by
 induction a with
 |nil=>simp[uJ]
 |cons x a c=>grind [dG,Bool.and_assoc]
theorem Od (b:Nat)(l:List AV):fZ b l=true<->∀a∈l,a.cells.length=b:=by
 induction l with
 |nil=>simp[fZ]
 |cons a l c=>
  grind [yA,bT,dB,Nat.beq_refl]
theorem Ae {a b:Bool}(h:nJ a b=true):a=b:=by cases a<;>cases b<;>first|rfl|cases h
theorem BY (a b:Bool):nJ a b=(a==b):=by cases a<;>cases b<;>rfl
structure Loc where
 block:Nat
 base:Nat
 cap:Nat
 sz:Nat
structure Gh where
 F:Nat->Nat->Option Value
 ρ:Nat->Nat->Option Loc
 w0:World
structure Ext (g g':Gh):Prop where
 F:∀b o v,g.F b o=some v->g'.F b o=some v
 ρ:∀k n l,g.ρ k n=some l->g'.ρ k n=some l
 w0:g'.w0=g.w0
 old:∀b o v,b<g.w0.heap.size->g'.F b o=some v->g.F b o=some v
theorem Ext.refl (g:Gh):Ext g g:=⟨λ_ _ _ h=>h,λ_ _ _ h=>h,rfl,λ_ _ _ _ h=>h⟩
def Ext.trans {a b c:Gh}(h:Ext a b)(k:Ext b c):Ext a c:=
 ⟨λx y v e=>k.F x y v (h.F x y v e),λx y l e=>k.ρ x y l (h.ρ x y l e),k.w0.trans h.w0,λx y v d e=>h.old x y v d (k.old x y v (by rw[h.w0];omega) e)⟩
mutual
inductive bR (g:Gh):AV->Value->Prop
 |bool (b:Bool):bR g (.bool b) (.bool b)
 |int (k:IntKind) (n:Int):bR g (.int k n) (.int k n)
 |str (s:ByteArray):bR g (.str s) (.string s)
 |nilp:bR g .nilp (.pointer none)
 |ptr {k n off:Nat} {l:Loc} (h:g.ρ k n=some l):bR g (.ptr k n off) (.pointer (some ⟨l.block,l.base+off,none⟩))
 | vp {v:AV} {b off:Nat} (hc:aZ v.cells=true) (h:fO g b off v.cells):bR g (.vp v) (.pointer (some ⟨b,off,none⟩))
 | nl:bR g .nl (.slice none 0 0)
 | ls {es:List AV} {sz b off n cap:Nat} (hs:∀e∈es,e.cells.length=sz) (ha:aZ (bJ es)=true) (hn:n=es.length) (hl:es.length<=cap)
   (h:fO g b off (bJ es)):bR g (.ls es) (.slice (some ⟨b,off,none⟩) n cap)
 |lst0 {a:Option Addr} {cap:Nat} : bR g (.ls []) (.slice a 0 cap)
 |clip {es:List AV} {sz b off n cap:Nat} (hs:∀e∈es,e.cells.length=sz) (ha:aZ (bJ es)=true) (hn:n=es.length) (hl:es.length=cap)
   (h:fO g b off (bJ es)):bR g (.clip es) (.slice (some ⟨b,off,none⟩) n cap)
 |clip0 {a:Option Addr} : bR g (.clip []) (.slice a 0 0)
 |row {k n sz off len:Nat} {l:Loc} (h:g.ρ k n=some l) (hs:l.sz=sz) (hl:off+len<=l.cap) :
   bR g (.row k n sz off len) (.slice (some ⟨l.block,l.base+off*sz,none⟩) len (l.cap-off))
 |row0 {k n sz off:Nat} {l:Loc} {a:Option Addr} (h:g.ρ k n=some l) (hs:l.sz=sz) (hl:off=l.cap):bR g (.row k n sz off 0) (.slice a 0 0)
 |nilm:bR g .nilm (.map none)
 |map {k:Nat} {l:Loc} (h:g.ρ k 0=some l):bR g (.map k) (.map (some l.block))
 |fn {f:FuncId} {a b:List AV} {x y:List Value} (h:bD g a x) (h':bD g b y):bR g (.fn f a b) (.func (.func f) ⟨x⟩ ⟨y⟩)
 |yld {k:Nat} {l:Loc} (h:g.ρ k 0=some l):bR g (.yld k) (.func (.yield l.block) #[] #[])
 |nilf:bR g .nilf .nilFunc
 |ifc {t:TypeId} {v:AV} {u:Value} (h:bR g v u):bR g (.ifc t v) (.iface t u)
 |nili:bR g .nili .nilIface
 |agg {cs:List AV} {us:List Value} (hc:aZ cs=true) (h:bD g cs us):bR g (.agg cs) (.agg ⟨us⟩)
 |tup {cs:List AV} {us:List Value} (h:bD g cs us):bR g (.tup cs) (.tuple ⟨us⟩)
 |any (u:Value):bR g .any u
inductive bD (g:Gh):List AV->List Value->Prop
 |nil:bD g [] []
 |cons {a:AV} {u:Value} {l:List AV} {us:List Value} (h:bR g a u) (t:bD g l us):bD g (a::l) (u::us)
inductive fO (g:Gh):Nat->Nat->List AV->Prop
 |nil (b off:Nat):fO g b off []
 |cons {b off:Nat} {a:AV} {l:List AV} {u:Value} (hu:g.F b off=some u) (h:bR g a u) (t:fO g b (off+1) l):fO g b off (a::l)
end
mutual
def bR.mono {g g':Gh}(e:Ext g g'):∀{a:AV} {u:Value},bR g a u->bR g' a u
 |_,_,.bool b=>.bool b
 |_,_,.int k n=>.int k n
 |_,_,.str s=>.str s
 |_,_,.nilp=>.nilp
 |_,_,.ptr h=>.ptr (e.ρ _ _ _ h)
 |_,_,.vp i h=>.vp i (fO.mono e h)
 |_,_,.nl=>.nl
 |_,_,.ls hs d f c h=>.ls hs d f c (fO.mono e h)
 |_,_,.lst0=>.lst0
 |_,_,.clip hs d f c h=>.clip hs d f c (fO.mono e h)
 |_,_,.clip0=>.clip0
 |_,_,.row h hs c=>.row (e.ρ _ _ _ h) hs c
 |_,_,.row0 h hs c=>.row0 (e.ρ _ _ _ h) hs c
 |_,_,.nilm=>.nilm
 |_,_,.map h=>.map (e.ρ _ _ _ h)
 |_,_,.fn h h'=>.fn (bD.mono e h) (bD.mono e h')
 |_,_,.yld h=>.yld (e.ρ _ _ _ h)
 |_,_,.nilf=>.nilf
 |_,_,.ifc h=>.ifc (bR.mono e h)
 |_,_,.nili=>.nili
 |_,_,.agg i h=>.agg i (bD.mono e h)
 |_,_,.tup h=>.tup (bD.mono e h)
 |_,_,.any u=>.any u
def bD.mono {g g':Gh}(e:Ext g g'):∀{a:List AV} {u:List Value},bD g a u->bD g' a u
 |_,_,.nil=>.nil
 |_,_,.cons h t=>.cons (bR.mono e h) (bD.mono e t)
def fO.mono {g g':Gh}(e:Ext g g'):∀{b a:Nat} {l:List AV},fO g b a l->fO g' b a l
 |_,_,_,.nil b a=>.nil b a
 |_,_,_,.cons c h t=>.cons (e.F _ _ _ c) (bR.mono e h) (fO.mono e t)
end
section lists
variable {g:Gh}
theorem bD.length:∀{a:List AV} {u:List Value},bD g a u->a.length=u.length
 |_,_,.nil=>rfl
 |_,_,.cons _ t=>by simp[bD.length t]
def bD.append:∀{a b:List AV} {u v:List Value},bD g a u->bD g b v->bD g (a++b) (u++v)
 |_,_,_,_,.nil,h=>h
 |_,_,_,_,.cons h t,k=>.cons h (bD.append t k)
theorem bD.get:∀{a:List AV} {u:List Value} {i:Nat} {x:AV},bD g a u->a[i]?=some x->∃y,u[i]?=some y/\bR g x y
 |_,_,i,x,.nil,h=>by grind
 |_,_,0,x,.cons h t,k=>by grind
 |_,_,i+1,x,.cons h t,k=>by
  have⟨y,b,r⟩:=bD.get (i:=i) (x:=x) t (by simpa using k);exact⟨y,by simpa using b,r⟩
def bD.get' {a:List AV}{u:List Value}{i:Nat}{y:Value}(h:bD g a u)(k:u[i]?=some y):∃x,a[i]?=some x/\bR g x y:=by
 have hi:i<u.length:=by
  grind
 have b:i<a.length:=by rw[h.length];omega
 have⟨_,_,_⟩:=h.get (a_ b);grind
def bD.drop:∀(n:Nat) {a:List AV} {u:List Value},bD g a u->bD g (a.drop n) (u.drop n)
 |0,_,_,h=>h
 |_+1,_,_,.nil=>.nil
 |n+1,_,_,.cons _ t=>bD.drop n t
def bD.take:∀(n:Nat) {a:List AV} {u:List Value},bD g a u->bD g (a.take n) (u.take n)
 |0,_,_,_=>by exact .nil
 |_+1,_,_,.nil=>.nil
 |n+1,_,_,.cons h t=>.cons h (bD.take n t)
theorem bD.over:∀{a:List AV} {d:List Value},bD g a d->∀{c:List AV} {b:List Value},bD g c b->bD g (AG.over a c) (AG.over d b)
 |_,_,.nil,_,_,h=>h
 |_,_,.cons _ _,_,_,.nil=>.nil
 |_,_,.cons h t,_,_,.cons _ k=>.cons h (bD.over t k)
theorem bD.setR {b:List AV}{e:List Value}(h:bD g b e):∀(a:Nat) {d:List AV} {c:List Value},bD g d c->bD g (AG.setR a b d) (AG.setR a e c)
 |0,_,_,k=>bD.over h k
 |_+1,_,_,.nil=>.nil
 |n+1,_,_,.cons x t=>.cons x (bD.setR h n t)
def fO.vals:∀{b a:Nat} {l:List AV},fO g b a l->∃c,bD g l c/\∀i u,c[i]?=some u->g.F b (a+i)=some u
 |_,_,_,.nil b a=>⟨[],.nil,g_⟩
 |b,a,_,.cons f h t=>by
  have⟨c,d,_⟩:=fO.vals t;refine⟨_::c,.cons h d,λi u hi=>?_⟩;grind
theorem fO.mk:∀{l:List AV} {us:List Value} {b a:Nat},bD g l us->(∀i u,us[i]?=some u->g.F b (a+i)=some u)->fO g b a l
 |_,_,b,a,.nil,_=>.nil b a
 |_,_,b,a,.cons h t,c=>.cons (by simpa using c 0 _ rfl) h (fO.mk t λi u hi=>by
   have:=c (i+1) u (by grind);grind)
def fO.left {b a:Nat}{l m:List AV}(h:fO g b a (l++m)):fO g b a l:=by
 have⟨_,c,_⟩:=h.vals;have e:=c.take l.length;grind [List.take_left',fO.mk]
def fO.right {b a:Nat}{l m:List AV}(h:fO g b a (l++m)):fO g b (a+l.length) m:=by
 have⟨_,c,_⟩:=h.vals;have e:=c.drop l.length;grind [List.drop_left',fO.mk,Nat.add_assoc]
def fO.sub {b a:Nat}{l:List AV}(h:fO g b a l)(n m:Nat)(d:n<=l.length):fO g b (a+n) ((l.drop n).take m):=by
 have e:l=l.take n++((l.drop n).take m++(l.drop n).drop m):=by grind [j_]
 rw[e]at h;have c:=h.right;rw[Y_,Nat.min_eq_left d]at c;exact c.left
end lists
def bR.oneCell {g:Gh}{a:AV}{u:Value}(h:bR g a u)(b:a.isCell=true):u.oneCell'=true:=by
 cases h<;>first|rfl|grind [AV.isCell]
def bR.fine {g:Gh}{a:AV}{u:Value}(h:bR g a u)(b:a.lies=true):aZ a.cells=true:=by
 cases h<;>first|rfl|assumption|(simp[AV.lies]at b)
theorem bR.cells {g:Gh}{a:AV}{u:Value}(h:bR g a u)(b:a.lies=true):bD g a.cells u.cells.toList:=by
 cases h
 case agg c h=>exact h
 case tup h=>grind [AV.lies]
 case any=>grind [AV.lies]
 all_goals exact .cons (by constructor<;>assumption) .nil
section inv
variable {g:Gh}{u:Value}
theorem bR.bool_inv {b:Bool}(h:bR g (.bool b) u):u=.bool b:=by cases h;rfl
theorem bR.int_inv {k:IntKind}{n:Int}(h:bR g (.int k n) u):u=.int k n:=by cases h;rfl
theorem bR.str_inv {s:ByteArray}(h:bR g (.str s) u):u=.string s:=by cases h;rfl
def bR.ptr_inv {k n a:Nat}(h:bR g (.ptr k n a) u):∃l,g.ρ k n=some l/\u=.pointer (some ⟨l.block,l.base+a,none⟩):=by
 cases h;grind
def bR.vptr_inv {v:AV}(h:bR g (.vp v) u):∃b a,aZ v.cells=true/\fO g b a v.cells/\u=.pointer (some ⟨b,a,none⟩):=by
 cases h with| vp hc h=>grind
theorem bR.nils_inv (h:bR g .nl u):u=.slice none 0 0:=by cases h;rfl
def bR.lst_inv {es:List AV}(h:bR g (.ls es) u):∃a cap,u=.slice a es.length cap/\es.length<=cap/\
  (es=[]\/∃sz b off,a=some ⟨b,off,none⟩/\(∀e∈es,e.cells.length=sz)/\aZ (bJ es)=true/\fO g b off (bJ es)):=by
 cases h with
 | ls hs ha hn hl h=>subst hn;exact⟨_,_,rfl,hl,.inr ⟨_,_,_,rfl,hs,ha,h⟩⟩
 |lst0=>simp_all
def bR.clip_inv {es:List AV}(h:bR g (.clip es) u):∃a,u=.slice a es.length es.length/\
  (es=[]\/∃sz b off,a=some ⟨b,off,none⟩/\(∀e∈es,e.cells.length=sz)/\aZ (bJ es)=true/\fO g b off (bJ es)):=by
 cases h with
 |clip hs ha hn hl h=>subst hn hl;exact⟨_,rfl,.inr ⟨_,_,_,rfl,hs,ha,h⟩⟩
 |clip0=>simp_all
def bR.row_inv {k n c b m:Nat}(h:bR g (.row k n c b m) u):∃l a,g.ρ k n=some l/\l.sz=c/\b+m<=l.cap/\u=.slice a m (l.cap-b)/\
  (a=some ⟨l.block,l.base+b*c,none⟩\/(m=0/\b=l.cap)):=by
 cases h with
 |row h hs d=>grind
 |@row0 _ _ _ _ _ a h hs d=>grind
def bR.map_inv {k:Nat}(h:bR g (.map k) u):∃l,g.ρ k 0=some l/\u=.map (some l.block):=by
 cases h;grind
def bR.fn_inv {f:FuncId}{a b:List AV}(h:bR g (.fn f a b) u):∃x y,bD g a x/\bD g b y/\u=.func (.func f) ⟨x⟩ ⟨y⟩:=by
 cases h with|fn h h'=>grind
def bR.yld_inv {k:Nat}(h:bR g (.yld k) u):∃l,g.ρ k 0=some l/\u=.func (.yield l.block) #[] #[]:=by
 cases h;grind
def bR.ifc_inv {t:TypeId}{v:AV}(h:bR g (.ifc t v) u):∃x,bR g v x/\u=.iface t x:=by
 cases h;grind
def bR.nili_inv (h:bR g .nili u):u=.nilIface:=by cases h;rfl
def bR.agg_inv {a:List AV}(h:bR g (.agg a) u):∃b,aZ a=true/\bD g a b/\u=.agg ⟨b⟩:=by
 cases h with|agg hc h=>grind
def bR.tup_inv {b:List AV}(h:bR g (.tup b) u):∃a,bD g b a/\u=.tuple ⟨a⟩:=by
 cases h with|tup h=>grind
end inv
structure Ini where
 p:World->Prop
 up:∀w w',(∀b,b<w.heap.size->w'.heap[b]?=w.heap[b]?)->w.heap.size<=w'.heap.size->p w->p w'
structure Cx where
 P:Program
 T:Tr TypeInfo
 ok:∀t i,T.get t=some i->P.info? t=some i
 mixed:P.follows .mixedOrders=true
 ini:Ini
def ig (g:Gh)(tm:Tm)(tmps:Array Value):Prop:=∀i,bR g (nth tm i) (tmps.getD i undef)
inductive Rj:Option AEx->Option Code->Prop
 |none:Rj none none
 |ret:Rj (some .ret) (some .ret)
 |exit (id:Nat):Rj (some (.exit id)) (some (.exit id))
inductive oE (g:Gh):List (AV×AV)->List MapEntry->Prop
 |nil:oE g [] []
 |cons {k v:AV} {e:MapEntry} {l:List (AV×AV)} {es:List MapEntry} (hk:bR g k e.key) (hv:bR g v e.val) (t:oE g l es):oE g ((k,v)::l) (e::es)
def oE.mono {g g':Gh}(x:Ext g g'):∀{l:List (AV×AV)} {a:List MapEntry},oE g l a->oE g' l a
 |_,_,.nil=>.nil
 |_,_,.cons hk b t=>.cons (hk.mono x) (b.mono x) (oE.mono x t)
def ig.mono {g g':Gh}(x:Ext g g'){tm:Tm}{a:Array Value}(h:ig g tm a):ig g' tm a:=λi=>(h i).mono x
def ot:dF->Nat
 |.row n _ _ _ _=>n
 |_=>0
structure KL (C:Cx)(g:Gh)(st:LoopState)(pend:Option AEx)(tm:Tm)(ps:List Nat)(as b:bu)(f:FuncId)(L:Loop):Prop where
 hst:L.state=st
 hpend:Rj pend L.pending
 htm:ig g tm L.tmps
 hps:L.params.toList=ps
 hfn:L.fn=f
 hcode:∃nt,nt<=L.tmps.size/\nM L.assign C.P C.T nt=some as/\nM L.body C.P C.T nt=some b/\pR nt ps=true
def Rp (b:Array MapEntry)(a:Nat):Prop:=(∀x∈b.toList,x.born<a)/\(b.toList.map (·.born)).Nodup
def OAt (C:Cx)(g:Gh)(w:World)(k:Nat)(l:Loc):dF->Prop
 |.box d=>l.base=0/\∃e t,w.heap[l.block]?=some (.cells e t (0,0))/\bD g d e.toList/\aZ d=true/\∀o v,g.F l.block o≠some v
 |.row n h _ d fz=>l.sz=h/\0<h/\∃e t,w.heap[l.block]?=some (.cells e t (0,0))/\l.base+l.cap*h<=e.size/\d.length<=l.cap*h/\
   bD g d ((e.toList.drop l.base).take d.length)/\aZ d=true/\(∀o v,g.F l.block o=some v->o<l.base+fz)/\∀m,n<m->g.ρ k m=none
 |.map j=>∃c a,w.heap[l.block]?=some (.map c a)/\oE g j c.toList/\Rp c a
 |.loop st pend tm i as b f=>∃L,w.heap[l.block]?=some (.loop L)/\KL C g st pend tm i as b f L
 |.dfd t=>w.heap[l.block]?=some (.deferred (cond t none (some [])))
structure Sim (C:Cx)(g:Gh)(U:Nat->Option (List AV))(h:AH)(w:World):Prop where
 frz:∀b o v,g.F b o=some v->w.cell? ⟨b,o,none⟩=some v
 obj:∀k o,h.get k=some o->U k=none->∃l,g.ρ k (ot o)=some l/\g.w0.heap.size<=l.block/\OAt C g w k l o
 lt:∀k o,h.get k=some o->k<h.z
 unb:∀k z,U k=some z->h.get k=some (.box z)/\∀n,g.ρ k n=none
 rlt:∀k n l,g.ρ k n=some l->k<h.z
 sep:∀k k' o o' l l',k≠k'->h.get k=some o->h.get k'=some o'->g.ρ k (ot o)=some l->g.ρ k' (ot o')=some l'->l.block≠l'.block
 old:∀b,b<g.w0.heap.size->w.heap[b]?=g.w0.heap[b]?
 sz:g.w0.heap.size<=w.heap.size
 tape:w.tape=g.w0.tape
 os:w.os=g.w0.os
 output:w.output=g.w0.output
 ini:C.ini.p g.w0
section laws
variable {C:Cx}{g g':Gh}{U:Nat->Option (List AV)}{h:AH}{w w':World}
theorem OAt.block_lt {k:Nat}{l:Loc}{o:dF}(x:OAt C g w k l o):l.block<w.heap.size:=by
 have a:∀h,w.heap[l.block]?=some h->l.block<w.heap.size:=g_;cases o with
 |box j=>have⟨_,i,t,e,_⟩:=x;grind
 |row n q agg j fz=>have⟨_,_,_,t,e,_⟩:=x;grind
 |map p=>have⟨_,_,e,_⟩:=x;grind
 |loop st pend tm m as b f=>have⟨_,_,_⟩:=x;grind
 |dfd t=>exact a _ x
theorem OAt.kw {k:Nat}{l:Loc}{o:dF}(x:OAt C g w k l o)(e:Ext g g')(F:w'.heap[l.block]?=w.heap[l.block]?)
  (I:∀i v,g'.F l.block i=some v->g.F l.block i=some v) (q:∀m,ot o<m->g.ρ k m=none->g'.ρ k m=none):OAt C g' w' k l o:=by
 cases o with
 |box A=>
  have⟨h,p,t,d,s,r,z⟩:=x;exact⟨h,p,t,g_,s.mono e,r,g_⟩
 |row n K agg A fz=>
  have⟨hs,B,p,t,d,D,E,s,r,_,_⟩:=x;exact⟨hs,B,p,t,g_,D,E,s.mono e,r,g_,λm hm=>q m hm g_⟩
 |map H=>have⟨j,c,d,u,y⟩:=x;exact⟨j,c,g_,u.mono e,y⟩
 |loop st pend tm G as b f=>
  have⟨L,_,a⟩:=x;exact⟨L,g_,⟨a.hst,a.hpend,a.htm.mono e,a.hps,a.hfn,a.hcode⟩⟩
 |dfd t=>exact F.trans x
def Sim.frz_lt (s:Sim C g U h w){b o:Nat}{v:Value}(e:g.F b o=some v):b<w.heap.size:=
 block_lt_of_cell (s.frz b o v e)
theorem Sim.fresh (s:Sim C g U h w):h.get h.z=none:=by
 cases e:h.get h.z with
 |none=>rfl
 |some o=>exact absurd (s.lt _ _ e) o_
theorem Sim.ufresh (s:Sim C g U h w):U h.z=none:=by
 cases e:U h.z with
 |none=>rfl
 |some z=>have:=(s.unb _ _ e).1;rw[s.fresh]at this;grind
theorem Sim.rfresh (s:Sim C g U h w)(n:Nat):g.ρ h.z n=none:=by
 cases e:g.ρ h.z n with
 |none=>rfl
 |some l=>exact absurd (s.rlt _ _ _ e) o_
def Sim.heapEq (s:Sim C g U h w)(a:w'.heap=w.heap)(j:w'.tape=w.tape)(ho:w'.os=w.os)(d:w'.output=w.output):Sim C g U h w' where
 frz b o v e:=by have:=s.frz b o v e;grind [World.cell?]
 obj k o e u:=by
  have⟨l,i,f,c⟩:=s.obj k o e u;exact⟨l,i,f,c.kw (.refl g) (by grind) g_ g_⟩
 lt:=s.lt
 unb:=s.unb
 rlt:=s.rlt
 sep:=s.sep
 old b hb:=by rw[a];exact s.old b hb
 sz:=by rw[a];exact s.sz
 tape:=by rw[j,s.tape]
 os:=by rw[ho,s.os]
 output:=by rw[d,s.output]
 ini:=s.ini
def Sim.drew (s:Sim C g U h w):Sim C g U h w.drew:=s.heapEq rfl rfl rfl rfl
end laws
def Gh.at (g:Gh)(k n:Nat)(l:Loc):Gh:={g with ρ:=λa b=>if a=k/\b=n then some l else g.ρ a b}
theorem Gh.at_same (g:Gh)(k n:Nat)(l:Loc):(g.at k n l).ρ k n=some l:=by simp[Gh.at]
theorem Gh.at_other (g:Gh){k n a b:Nat}(l:Loc)(h:¬(a=k/\b=n)):(g.at k n l).ρ a b=g.ρ a b:=by grind [Gh.at]
def Gh.at_ext (g:Gh){k n:Nat}(l:Loc)(h:g.ρ k n=none):Ext g (g.at k n l):=
 ⟨λ_ _ _ e=>e,λa b c e=>by
  grind [Gh.at_other],rfl,λ_ _ _ _ e=>e⟩
theorem AH.get_new (h:AH)(o:dF)(k:Nat):(h.new o).get k=if k=h.z then some o else h.get k:=by
 cases h;exact Tr.get_put _ _ _ _
theorem AH.get_set (h:AH)(j:Nat)(o:dF)(k:Nat):(h.set j o).get k=if k=j then some o else h.get k:=by
 cases h;exact Tr.get_put _ _ _ _
theorem AH.next_new (h:AH)(o:dF):(h.new o).z=h.z+1:=by cases h;rfl
theorem AH.next_set (h:AH)(j:Nat)(o:dF):(h.set j o).z=h.z:=by cases h;rfl
abbrev Low (h h':AH):Prop:=h.z<=h'.z
theorem Low.refl (h:AH):Low h h:=e_ _
def Low.trans {a b c:AH}(x:Low a b)(y:Low b c):Low a c:=C_ x y
theorem Low.new (h:AH)(o:dF):Low h (h.new o):=C_ (Nat.le_succ _) (Nat.le_of_eq (AH.next_new ..).symm)
def Low.set (h:AH)(j:Nat)(o:dF):Low h (h.set j o):=Nat.le_of_eq (AH.next_set ..).symm
section steps
variable {C:Cx}{g g':Gh}{U:Nat->Option (List AV)}{h:AH}{w w':World}
def iG {a:Obj}{b:Nat}(c:b<w.heap.size):(w.alloc a).heap[b]?=w.heap[b]?:=heap_alloc_old w a b c
def Sim.alloc (s:Sim C g U h w)(o:dF)(G:Obj)(l:Loc)(L:l.block=w.heap.size)(D:ot o=0)
  (ho:OAt C (g.at h.z 0 l) (w.alloc G) h.z l o):Ext g (g.at h.z 0 l)/\Sim C (g.at h.z 0 l) U (h.new o) (w.alloc G):=by
 have ex:=g.at_ext l (s.rfresh 0);refine⟨ex,?_⟩;constructor
 ·intro b o v e;have e:g.F b o=some v:=e;rw[World.cell?_alloc_lt _ _ _ (s.frz_lt e)];exact s.frz b o v e
 ·intro k o' e u;rw[AH.get_new]at e;by_cases q:k=h.z
  ·subst q;rw[P_ rfl]at e;cases e;exact⟨l,by rw[D];exact g.at_same _ _ _,by rw[L];exact s.sz,ho⟩
  rw[N_ q]at e;have⟨A,t,H,p⟩:=s.obj k o' e u;refine⟨A,ex.ρ _ _ _ t,H,p.kw ex (iG p.block_lt) (λ_ _ x=>x) λm _ x=>?_⟩;grind [Gh.at_other]
 ·intro k o' e;rw[AH.get_new]at e;rw[AH.next_new];by_cases q:k=h.z
  ·omega
  rw[N_ q]at e;have:=s.lt k o' e;omega
 ·intro k z e;have⟨t,_⟩:=s.unb k z e;have q:k≠h.z:=λq=>by rw[q,s.ufresh]at e;grind
  grind [AH.get_new,Gh.at_other]
 ·intro k n A e;rw[AH.next_new];by_cases q:k=h.z/\n=0
  ·omega
  rw[Gh.at_other g l q]at e;have:=s.rlt k n A e;omega
 ·intro k f F J M K B j c d a;rw[AH.get_new]at j c;by_cases E:k=h.z
  ·by_cases r:f=h.z
   ·omega
   rw[N_ r]at c;rw[Gh.at_other g l (λy=>r y.1)]at a;subst E;rw[P_ rfl]at j;cases j;rw[D,Gh.at_same]at d;cases d;have i:U f=none:=by
    cases i:U f with
    |none=>rfl
    |some z=>rw[(s.unb f z i).2]at a;grind
   have⟨A,t,_,p⟩:=s.obj f J c i;rw[t]at a;cases a;have:=p.block_lt;omega
  rw[N_ E]at j;rw[Gh.at_other g l (λy=>E y.1)]at d;by_cases r:f=h.z
  ·subst r;rw[P_ rfl]at c;cases c;rw[D,Gh.at_same]at a;cases a;have i:U k=none:=by
    cases i:U k with
    |none=>rfl
    |some z=>rw[(s.unb k z i).2]at d;grind
   have⟨_,t,_,p⟩:=s.obj k F j i;rw[t]at d;cases d;have:=p.block_lt;omega
  rw[N_ r]at c;rw[Gh.at_other g l (λy=>r y.1)]at a;exact s.sep k f F J M K B j c d a
 ·intro b I;rw[iG (B_ I s.sz)];exact s.old b I
 ·have:=s.sz;show g.w0.heap.size<=_;rw[World.size_alloc];omega
 ·exact s.tape
 ·exact s.os
 ·exact s.output
 exact s.ini
def Gh.fz (g:Gh)(b a:Nat)(c:List Value):Gh:={g with F:=λx o=>if x=b/\a<=o/\o<a+c.length then c[o-a]? else g.F x o}
def Gh.fz_at (g:Gh)(b a:Nat)(c:List Value){i:Nat}{u:Value}(e:c[i]?=some u):(g.fz b a c).F b (a+i)=some u:=by
 show(if b=b/\a<=a+i/\a+i<a+c.length then c[a+i-a]? else _)=_;grind
def Sim.allocFz (s:Sim C g U h w)(a:Array Value)(t:TypeId):
  Ext g (g.fz w.heap.size 0 a.toList)/\Sim C (g.fz w.heap.size 0 a.toList) U h (w.alloc (.cells a t (0,0))):=by
 have old:∀b o v,g.F b o=some v->(g.fz w.heap.size 0 a.toList).F b o=g.F b o:=by
  intro b o v e;have:=s.frz_lt e;show(if _ then _ else _)=_;grind
 have nb:∀b,b<w.heap.size->∀o,(g.fz w.heap.size 0 a.toList).F b o=g.F b o:=by
  intro b c o;show(if _ then _ else _)=_;grind
 have ex:Ext g (g.fz w.heap.size 0 a.toList):=⟨g_,λ_ _ _ e=>e,rfl,λb o v c e=>by rw[nb b (by have:=s.sz;omega)]at e;omega⟩;refine⟨ex,?_⟩;constructor
 ·intro b o v e;by_cases q:b<w.heap.size
  ·rw[nb b q]at e;rw[World.cell?_alloc_lt _ _ _ q];exact s.frz b o v e
  have f:(if b=w.heap.size/\0<=o/\o<0+a.toList.length then a.toList[o-0]? else g.F b o)=some v:=e;by_cases j:b=w.heap.size/\0<=o/\o<0+a.toList.length
  ·simp_all
  rw[N_ j]at f;cases q (s.frz_lt f)
 ·intro k o e u;have⟨l,m,n,d⟩:=s.obj k o e u;exact⟨l,m,n,d.kw ex (iG d.block_lt) (λi v x=>by rw[nb _ d.block_lt]at x;omega) (λ_ _ x=>x)⟩
 ·exact s.lt
 ·exact s.unb
 ·exact s.rlt
 ·exact s.sep
 ·intro b c;rw[iG (B_ c s.sz)];exact s.old b c
 ·have:=s.sz;show g.w0.heap.size<=_;rw[World.size_alloc];omega
 ·exact s.tape
 ·exact s.os
 ·exact s.output
 exact s.ini
def eK (w:World)(b:Nat)(a:Obj):World:={w with heap:=w.heap.setIfInBounds b a}
def fC {b:Nat}{a:Obj}(c:b<w.heap.size):(eK w b a).heap[b]?=some a:=by grind [eK]
def mb {b c:Nat}{a:Obj}(d:c≠b):(eK w b a).heap[c]?=w.heap[c]?:=by
 show(w.heap.setIfInBounds b a)[c]?=_;grind
theorem wS {b:Nat}{a:Obj}: (eK w b a).heap.size=w.heap.size:=by simp[eK]
def po {b o:Nat}(e:w'.heap[b]?=w.heap[b]?):w'.cell? ⟨b,o,none⟩=w.cell? ⟨b,o,none⟩:=by
 grind [World.cell?]
def Sim.put (s:Sim C g U h w){k:Nat}{o o':dF}{l:Loc}{D:Obj}(e:h.get k=some o)(L:U k=none)(y:g.ρ k (ot o)=some l)
  (G:ot o'=ot o) (ho:OAt C g (eK w l.block D) k l o')
  (P:∀i v,g.F l.block i=some v->(eK w l.block D).cell? ⟨l.block,i,none⟩=some v):Sim C g U (h.set k o') (eK w l.block D):=by
 have⟨_,I,_,_⟩:=s.obj k o e L;rw[y]at I;cases I;constructor
 ·intro b i v q;by_cases E:b=l.block
  ·grind
  rw[po (mb E)];exact s.frz b i v q
 ·intro j p q u;rw[AH.get_set]at q;by_cases c:j=k
  ·grind
  rw[N_ c]at q;have⟨t,H,K,J⟩:=s.obj j p q u;have:=s.sep j k p o t l c q e H y;exact⟨t,H,K,J.kw (.refl g) (mb o_) g_ g_⟩
 ·intro j p q;rw[AH.get_set]at q;by_cases c:j=k
  ·subst c;exact s.lt _ _ e
  rw[N_ c]at q;exact s.lt j p q
 ·intro j z q;have⟨_,_⟩:=s.unb j z q;grind [AH.get_set]
 ·intro j n t q;exact s.rlt j n t q
 ·intro j x p F m B d q f r A;rw[AH.get_set]at q f;by_cases c:j=k
  ·by_cases a:x=k
   ·omega
   rw[N_ a]at f;subst c;rw[P_ rfl]at q;cases q;rw[G]at r;exact s.sep j x o F m B d e f r A
  rw[N_ c]at q;by_cases a:x=k
  ·subst a;rw[P_ rfl]at f;cases f;rw[G]at A;exact s.sep j x p o m B d q e r A
  rw[N_ a]at f;exact s.sep j x p F m B d q f r A
 ·intro b E;rw[mb o_];exact s.old b E
 ·rw[wS];exact s.sz
 ·exact s.tape
 ·exact s.os
 ·exact s.output
 exact s.ini
end steps
section
variable {C:Cx}{g g':Gh}{U:Nat->Option (List AV)}{h:AH}{w w':World}
def Sim.regen (s:Sim C g U h w){k F:Nat}{o o':dF}{l a:Loc}(e:h.get k=some o)(W:U k=none)(K:g.ρ k (ot o)=some l)
  (O:ot o'=F) (M:g.ρ k F=none) (A:∀b,b≠a.block->b<w.heap.size->w'.heap[b]?=w.heap[b]?) (Q:w.heap.size<=w'.heap.size)
  (d:a.block=l.block\/w.heap.size<=a.block) (ho:OAt C (g.at k F a) w' k a o')
  (hF:∀i v,g.F a.block i=some v->w'.cell? ⟨a.block,i,none⟩=some v) (T:w'.tape=w.tape) (R:w'.os=w.os) (I:w'.output=w.output) :
  Ext g (g.at k F a)/\Sim C (g.at k F a) U (h.set k o') w':=by
 have ex:Ext g (g.at k F a):=g.at_ext a o_;have⟨_,S,_,_⟩:=s.obj k o e W;rw[K]at S;cases S;have c:∀j p m,j≠k->h.get j=some p->g.ρ j (ot p)=some m->m.block<w.heap.size->m.block≠a.block:=by
  intro j p m t q r hm;rcases d with x|x
  ·rw[x];exact s.sep j k p o m l t q e r K
  omega
 have live:∀j p m,h.get j=some p->g.ρ j (ot p)=some m->U j=none:=by
  intro j p m q r;cases t:U j with
  |none=>rfl
  |some z=>rw[(s.unb j z t).2]at r;grind
 refine⟨ex,?_⟩;constructor
 ·intro b i v q;have q:g.F b i=some v:=q;by_cases H:b=a.block
  ·grind
  rw[po (A b H (s.frz_lt q))];exact s.frz b i v q
 ·intro j p q u;rw[AH.get_set]at q;by_cases t:j=k
  ·subst t;rw[P_ rfl]at q;cases q;refine⟨a,by rw[O];exact g.at_same _ _ _,?_,ho⟩;show g.w0.heap.size<=_;rcases d with x|x
   ·omega
   have:=s.sz;omega
  rw[N_ t]at q;have⟨m,D,V,E⟩:=s.obj j p q u;have:=c j p m t q D E.block_lt;refine⟨m,ex.ρ _ _ _ D,V,E.kw ex (A _ o_ E.block_lt) (λ_ _ x=>x) λP _ x=>?_⟩;grind [Gh.at_other]
 ·intro j p q;rw[AH.get_set]at q;by_cases t:j=k
  ·subst t;exact s.lt _ _ e
  rw[N_ t]at q;exact s.lt j p q
 ·intro j z q;have⟨_,_⟩:=s.unb j z q;grind [AH.get_set,Gh.at_other]
 ·intro j n m q;by_cases y:j=k/\n=F
  ·rw[y.1];exact s.lt _ _ e
  rw[Gh.at_other g a y]at q;exact s.rlt j n m q
 ·intro j J p N m P L q B r G;rw[AH.get_set]at q B;by_cases t:j=k
  ·by_cases f:J=k
   ·omega
   rw[N_ f]at B;rw[Gh.at_other g a (λy=>f y.1)]at G;subst t;rw[P_ rfl]at q;cases q;rw[O,Gh.at_same]at r;cases r;have⟨X,D,_,E⟩:=s.obj J N B g_;rw[G]at D;cases D;exact Ne.symm (c J N P f B G E.block_lt)
  rw[N_ t]at q;rw[Gh.at_other g a (λy=>t y.1)]at r;by_cases f:J=k
  ·subst f;rw[P_ rfl]at B;cases B;rw[O,Gh.at_same]at G;cases G;have⟨_,D,_,E⟩:=s.obj j p q g_;rw[r]at D;cases D;exact c j p m t q r E.block_lt
  rw[N_ f]at B;rw[Gh.at_other g a (λy=>f y.1)]at G;exact s.sep j J p N m P L q B r G
 ·intro b H;have H:b<g.w0.heap.size:=H;have:b≠a.block:=by
   rcases d with x|x
   ·omega
   have:=s.sz;omega
  rw[A b this (B_ H s.sz)];exact s.old b H
 ·show g.w0.heap.size<=_;exact C_ s.sz Q
 ·rw[T];exact s.tape
 ·rw[R];exact s.os
 ·rw[I];exact s.output
 exact s.ini
def Sim.shut (s:Sim C g U h w){k n K fz m:Nat}{agg:Bool}{J:List AV}{l:Loc}{f:Array Value}{t:TypeId}(e:h.get k=some (.row n K agg J fz))(hu:U k=none)
  (E:g.ρ k n=some l) (M:w.heap[l.block]?=some (.cells f t (0,0))) :
  Ext g (g.fz l.block l.base ((f.toList.drop l.base).take m))/\Sim C (g.fz l.block l.base ((f.toList.drop l.base).take m)) U (h.set k (.row n K agg J (max fz m))) w:=by
 have⟨_,R,h2,Y⟩:=s.obj k _ e hu;have G:g.ρ k (ot (.row n K agg J fz))=some l:=E;rw[G]at R;cases R;have⟨hs,hp,_,_,N,q1,Z,hv,ha,_,hr⟩:=Y;rw[M]at N;cases N;have cell:∀i,w.cell? ⟨l.block,i,none⟩=f.toList[i]?:=λi=>by rw[cell_of_row _ _ _ f t (0,0) M];simp
 have⟨a,B⟩:∃a,a=(f.toList.drop l.base).take m:=⟨_,rfl⟩;rw[<-B];have O:a.length<=m:=by rw[B];simp;omega
 have val:∀i,l.base<=i->i<l.base+a.length->a[i-l.base]?=f.toList[i]?:=by
  intro i ab V;rw[B,List.getElem?_take,P_ o_,List.getElem?_drop];congr 1;omega
 have H:∀b i,(g.fz l.block l.base a).F b i=if b=l.block/\l.base<=i/\i<l.base+a.length then a[i-l.base]? else g.F b i:=λ_ _=>rfl
 have ex:Ext g (g.fz l.block l.base a):=by
  refine⟨λb i v q=>?_,λ_ _ _ q=>q,rfl,g_⟩;rw[H];split
  ·rename_i x;obtain⟨rfl,x1,T⟩:=x;rw[val i x1 T,<-cell];exact s.frz _ i v q
  omega
 have nb:∀b,b≠l.block->∀i,(g.fz l.block l.base a).F b i=g.F b i:=g_;refine⟨ex,?_⟩;constructor
 ·intro b i v q;rw[H]at q;split at q
  ·grind
  exact s.frz b i v q
 ·intro j p q u;rw[AH.get_set]at q;by_cases c:j=k
  ·subst c;rw[P_ rfl]at q;cases q;refine⟨l,E,h2,hs,hp,f,t,M,q1,Z,hv.mono ex,ha,λi v y=>?_,hr⟩;grind
  rw[N_ c]at q;have⟨F,Q,r2,S⟩:=s.obj j p q u;have:=s.sep j k p _ F l c q e Q E;exact⟨F,Q,r2,S.kw ex rfl g_ (λ_ _ x=>x)⟩
 ·intro j p q;rw[AH.get_set]at q;rw[AH.next_set];by_cases c:j=k
  ·subst c;exact s.lt _ _ e
  rw[N_ c]at q;exact s.lt j p q
 ·intro j z q;have⟨_,y2⟩:=s.unb j z q;have c:j≠k:=g_;exact⟨by grind [AH.get_set],y2⟩
 ·intro j X W q;rw[AH.next_set];exact s.rlt j X W q
 ·intro j I p P F A o q D r L;rw[AH.get_set]at q D;by_cases c:j=k
  ·by_cases d:I=k
   ·omega
   rw[N_ d]at D;subst c;rw[P_ rfl]at q;cases q;exact s.sep j I _ P F A o e D r L
  rw[N_ c]at q;by_cases d:I=k
  ·subst d;rw[P_ rfl]at D;cases D;exact s.sep j I p _ F A o q e r L
  rw[N_ d]at D;exact s.sep j I p P F A o q D r L
 ·exact s.old
 ·exact s.sz
 ·exact s.tape
 ·exact s.os
 ·exact s.output
 exact s.ini
def Sim.promise (s:Sim C g U h w)(z:List AV):Sim C g (λk=>if k=h.z then some z else U k) (h.new (.box z)) w:=by
 constructor
 ·exact s.frz
 ·intro k o e u;by_cases q:k=h.z
  ·grind
  simp only[q,if_false]at u;rw[AH.get_new,N_ q]at e;exact s.obj k o e u
 ·intro k o e;rw[AH.get_new]at e;rw[AH.next_new];by_cases q:k=h.z
  ·omega
  rw[N_ q]at e;have:=s.lt k o e;omega
 ·intro k i e;by_cases q:k=h.z
  ·subst q;simp only[if_true]at e;cases e;exact⟨by grind [AH.get_new],s.rfresh⟩
  simp only[q,if_false]at e;have⟨_,_⟩:=s.unb k i e;grind [AH.get_new]
 ·intro k n l e;rw[AH.next_new];have:=s.rlt k n l e;omega
 ·intro k d o o' l j a e b r f;rw[AH.get_new]at e b;by_cases q:k=h.z
  ·subst q;rw[s.rfresh]at r;grind
  by_cases c:d=h.z
  ·subst c;rw[s.rfresh]at f;grind
  rw[N_ q]at e;rw[N_ c]at b;exact s.sep k d o o' l j a e b r f
 ·exact s.old
 ·exact s.sz
 ·exact s.tape
 ·exact s.os
 ·exact s.output
 exact s.ini
def Sim.birth (s:Sim C g U h w){k:Nat}{z:List AV}(e:U k=some z)(F:Array Value)(t:TypeId)(M:bD g z F.toList)(L:aZ z=true):
  Ext g (g.at k 0 ⟨w.heap.size,0,0,0⟩)/\Sim C (g.at k 0 ⟨w.heap.size,0,0,0⟩) (λj=>if j=k then none else U j) h (w.alloc (.cells F t (0,0))):=by
 have⟨hk,_⟩:=s.unb k z e;have ex:Ext g (g.at k 0 ⟨w.heap.size,0,0,0⟩):=g.at_ext _ g_;have live:∀j p m,h.get j=some p->g.ρ j (ot p)=some m->U j=none:=by
  intro j p m q r;cases c:U j with
  |none=>rfl
  |some z=>rw[(s.unb j z c).2]at r;grind
 refine⟨ex,?_⟩;constructor
 ·intro b o v q;have q:g.F b o=some v:=q;rw[World.cell?_alloc_lt _ _ _ (s.frz_lt q)];exact s.frz b o v q
 ·intro j p q u;by_cases c:j=k
  ·subst c;rw[hk]at q;cases q;refine⟨_,g.at_same _ _ _,s.sz,rfl,F,t,heap_alloc_new _ _,M.mono ex,L,λo v y=>?_⟩;have y:g.F w.heap.size o=some v:=y;exact absurd (s.frz_lt y) o_
  simp only[c,if_false]at u;have⟨l,f,J,i⟩:=s.obj j p q u;refine⟨l,ex.ρ _ _ _ f,J,i.kw ex (iG i.block_lt) (λ_ _ x=>x) λm _ x=>?_⟩;grind [Gh.at_other]
 ·exact s.lt
 ·intro j K q;by_cases c:j=k
  ·grind
  simp only[c,if_false]at q;have⟨_,_⟩:=s.unb j K q;grind [Gh.at_other]
 ·intro j n l q;by_cases y:j=k/\n=0
  ·rw[y.1];exact s.lt _ _ hk
  rw[Gh.at_other g _ y]at q;exact s.rlt j n l q
 ·intro j A p H m G D q B r d;by_cases c:j=k
  ·by_cases a:A=k
   ·omega
   rw[Gh.at_other g _ (λy=>a y.1)]at d;subst c;rw[hk]at q;cases q;have r:(g.at j 0 ⟨w.heap.size,0,0,0⟩).ρ j 0=some m:=r;rw[Gh.at_same]at r;cases r;have⟨N,f,_,i⟩:=s.obj A H B g_;rw[d]at f;cases f;have:=i.block_lt;show w.heap.size≠G.block;omega
  rw[Gh.at_other g _ (λy=>c y.1)]at r;by_cases a:A=k
  ·subst a;rw[hk]at B;cases B;have d:(g.at A 0 ⟨w.heap.size,0,0,0⟩).ρ A 0=some G:=d;rw[Gh.at_same]at d;cases d;have⟨_,f,_,i⟩:=s.obj j p q g_;rw[r]at f;cases f;have:=i.block_lt;show m.block≠w.heap.size;omega
  rw[Gh.at_other g _ (λy=>a y.1)]at d;exact s.sep j A p H m G D q B r d
 ·intro b I;rw[iG (Nat.lt_of_lt_of_le I s.sz)];exact s.old b I
 ·have:=s.sz;show g.w0.heap.size<=_;rw[World.size_alloc];omega
 ·exact s.tape
 ·exact s.os
 ·exact s.output
 exact s.ini
structure xZ (n:Nat)(U U':Nat->Option (List AV)):Prop where
 kw:∀k,k<n->U' k=U k
theorem xZ.refl (n:Nat)(U:Nat->Option (List AV)):xZ n U U:=⟨λ_ _=>rfl⟩
def xZ.trans {n m:Nat}{U V W:Nat->Option (List AV)}(h:xZ n U V)(k:xZ m V W)(a:n<=m):xZ n U W:=
 ⟨λj b=>(k.kw j (B_ b a)).trans (h.kw j b)⟩
end
section types
variable {C:Cx}{w:World}
def Ug {t:TypeId}{d:TypeDesc}(h:und C.T t=some d):C.P.underlying t=some d:=by
 have⟨i,hi,h⟩:=aC h;have hp:=C.ok t i hi;unfold Program.underlying;rw[hp];have⟨desc,_,_,_,_,_,_,_,_,_⟩:=i;cases desc with
 |named n u=>
  have⟨j,hj,h⟩:=aC (o:=C.T.get u) h;cases h;simp[C.ok u j hj]
 |_=>cases h;rfl
def YY {t:TypeId}{i:TypeInfo}(h:C.T.get t=some i):C.P.info? t=some i:=C.ok t i h
def bZ {t:TypeId}{d:TypeDesc}(h:und C.T t=some d):(underlying t).run C.P w=.ok d w:=by
 simp[underlying,Ug h]
def jT {t:TypeId}{i:TypeInfo}(h:C.T.get t=some i):(typeInfo t).run C.P w=.ok i w:=by
 simp[typeInfo,YY h]
theorem rJ {t:TypeId}{n:Nat}(h:szT C.T t=some n):∃i d,C.T.get t=some i/\i.size=n/\und C.T t=some d:=by
 have⟨_,_,h⟩:=aC h;have⟨_,_,h⟩:=aC h;grind [und,Ua]
def dZ {t:TypeId}{n:Nat}(h:szT C.T t=some n):(sizeOf t).run C.P w=.ok n w:=by
 obtain⟨_,_,hi,rfl,_⟩:=rJ h;simp[sizeOf,jT hi]
theorem mc {t:TypeId}{d:TypeDesc}(h:und C.T t=some d):(isAgg t).run C.P w=.ok (dI C.T t) w:=by
 have e:dI C.T t=aggD d:=by unfold dI;simp_all
 rw[e];simp only[isAgg,Sem.run_bind,bZ h,Result.andThen_ok];cases d<;>rfl
def Om {t:TypeId}{n:Nat}(h:szT C.T t=some n):(isAgg t).run C.P w=.ok (dI C.T t) w:=by
 grind [rJ,mc]
mutual
theorem zt (g:Gh):∀{v:Value} {a:AV},ofV v=some a->bR g a v
 |.bool b,a,h=>by cases h;exact .bool b
 |.int k n,a,h=>by cases h;exact .int k n
 |.float _ _,a,h=>by cases h
 |.complex _ _ _,a,h=>by cases h
 |.string s,a,h=>by cases h;exact .str s
 |.pointer none,a,h=>by cases h;exact .nilp
 |.pointer (some _),a,h=>by cases h
 |.slice none l c,a,h=>by
  have⟨h1,h2⟩:=bj h;have⟨h3,h4⟩:=fq h1;cases h2;rw[dB h3,dB h4];exact .nl
 |.slice (some _) l c,a,h=>by cases h
 |.map none,a,h=>by cases h;exact .nilm
 |.map (some _),a,h=>by cases h
 |.chan _,a,h=>by cases h
 |.func f x y,a,h=>by
  cases f with
  |func f=>
   have⟨h1,h2⟩:=bj h;have⟨h3,h4⟩:=fq h1;cases h2;have⟨x⟩:=x;have⟨y⟩:=y;have h3:=List.length_eq_zero_iff.1 (dB h3);have h4:=List.length_eq_zero_iff.1 (dB h4);subst h3 h4;exact .fn .nil .nil
  |_=>cases h
 |.nilFunc,a,h=>by cases h;exact .nilf
 |.iface t v,a,h=>by
  have⟨b,hb,h⟩:=aC h;cases h;exact .ifc (zt g hb)
 |.nilIface,a,h=>by cases h;exact .nili
 |.agg ⟨cs⟩,a,h=>by
  have⟨b,hb,h⟩:=aC h;have⟨hc,h⟩:=bj h;cases h;exact .agg hc (Am g hb)
 |.tuple ⟨cs⟩,a,h=>by
  have⟨_,hb,h⟩:=aC h;cases h;exact .tup (Am g hb)
theorem Am (g:Gh):∀{v:List Value} {a:List AV},acJ v=some a->bD g a v
 |[],a,h=>by cases h;exact .nil
 |x::l,a,h=>by
  have⟨_,d,h⟩:=aC h;have⟨_,c,h⟩:=aC h;cases h;exact .cons (zt g d) (Am g c)
end
theorem lO (g:Gh){t:TypeId}{v:AV}(h:pq C.T t=some v):
  ∃i z,C.T.get t=some i/\i.zero=some z/\bR g v z/\v.cells.length=i.size/\aZ v.cells=true/\v.isAgg=dI C.T t:=by
 have⟨_,_,h⟩:=aC h;have⟨_,_,h⟩:=aC h;have⟨_,_,h⟩:=aC h;grind [zt,dB,Ae]
def fw {t:TypeId}{i:TypeInfo}{z:Value}(h:C.T.get t=some i)(a:i.zero=some z):(zeroValue t).run C.P w=.ok z w:=by
 simp[zeroValue,jT h,a]
end types
section mem
variable {C:Cx}{g:Gh}{w:World}
theorem nE (b a i:Nat):(⟨b,a,none⟩:Addr).add i=⟨b,a+i,none⟩:=by
 grind [Addr.add]
def Fu (agg:Bool)(a:List Value):Value:=if agg then .agg ⟨a⟩ else a.headD undef
def oG {b off:Nat}{us:List Value}(h:∀i u,us[i]?=some u->w.cell? ⟨b,off+i,none⟩=some u):
  (loadCells ⟨b,off,none⟩ us.length).run C.P w=.ok ⟨us⟩ w:=by
 grind [run_loadCells_list,nE]
def yh {t:TypeId}{b a:Nat}{c:List Value}(hs:szT C.T t=some c.length)(f:dI C.T t=false->c.length=1)
  (h:∀i u,c[i]?=some u->w.cell? ⟨b,a+i,none⟩=some u):(loadVar t ⟨b,a,none⟩).run C.P w=.ok (Fu (dI C.T t) c) w:=by
 simp only[loadVar,Sem.run_bind,Om hs,Result.andThen_ok];cases e:dI C.T t with
 |true=>
  simp only[if_true,Sem.run_bind,dZ hs,Result.andThen_ok,oG h,Sem.run_pure,Fu]
 |false=>
  have d:=f e
  match c,d with
  |[u],_=>
   have:=h 0 u rfl;simp only[Nat.add_zero]at this;simp[Fu,this]
def Hw {agg:Bool}{c a:Nat}{d:List AV}{k:List Value}{v:AV}(h:xG agg c a d=some v)(m:bD g d k)(q:aZ d=true):
  ((k.drop a).take c).length=c/\bR g v (Fu agg ((k.drop a).take c))/\v.cells.length=c/\v.isAgg=agg/\(agg=false->c=1)/\aZ v.cells=true/\a+c<=d.length/\v.cells=(d.drop a).take c:=by
 have s:=m.length;cases agg with
 |true=>
  have⟨f,i⟩:=bj h;have f:=mM f;rw[bT]at f;have f:a+c<=d.length:=f;cases i;rw[lu,iC];have l:aZ ((d.drop a).take c)=true:=by
   grind [dU,List.mem_of_mem_drop,List.mem_of_mem_take]
  refine⟨by simp;omega,.agg l ((m.drop a).take c),by simp[AV.cells];omega,rfl,g_,l,f,rfl⟩
 |false=>
  have⟨f,i⟩:=bj h;have f:=dB f;subst f;rw[jQ]at i;have⟨u,n,p⟩:=m.get i;have hi:a<k.length:=by
   grind
  have j:a<d.length:=o_;have e:(k.drop a).take 1=[u]:=by
   rw[a_ hi]at n;cases n;rw[List.drop_eq_getElem_cons hi];rfl
  have r:(d.drop a).take 1=[v]:=by
   rw[a_ j]at i;cases i;rw[List.drop_eq_getElem_cons j];rfl
  have l:v.isCell=true:=(dU d).1 q v g_;have b:v.cells=[v]:=by cases v<;>first|rfl|grind [AV.isCell]
  have o:v.isAgg=false:=by cases v<;>first|rfl|grind [AV.isCell]
  refine⟨by rw[e];rfl,by rw[e];exact p,by rw[b];rfl,o_,o_,by rw[b,dG,l];rfl,o_,by grind⟩
def Fa {b o:Nat}{a:Array Value}{t:TypeId}{v:Value}(e:w.heap[b]?=some (.cells a t (0,0))):
  w.setCell ⟨b,o,none⟩ v=eK w b (.cells (a.setIfInBounds o v) t (0,0)):=by
 have c:b<w.heap.size:=g_;unfold World.setCell eK;congr 1;grind
theorem Dl {b:Nat}{x y:Obj}: eK (eK w b x) b y=eK w b y:=by
 grind [eK,Array.setIfInBounds_setIfInBounds]
def Of {b:Nat}{x:Obj}(e:w.heap[b]?=some x):eK w b x=w:=by
 have a:b<w.heap.size:=g_;have:w.heap.setIfInBounds b x=w.heap:=by
  grind
 unfold eK;simp_all
def BV {α:Type}(o:Nat)(v:α)(b:List α):∀a:List α,o<a.length->setR (o+1) b (a.set o v)=setR o (v::b) a:=by
 induction o with
 |zero=>intro a h;cases a with
  |nil=>grind
  |cons u a=>rfl
 |succ o c=>intro a h;cases a with
  |nil=>grind
  |cons u a=>
   grind [jG]
theorem BW {α:Type}(o:Nat):∀a:List α,setR o [] a=a:=by
 induction o with
 |zero=>intro a;rfl
 |succ o b=>intro a;cases a with
  |nil=>rfl
  |cons u a=>grind [jG]
theorem iJ {b off:Nat}{t:TypeId}: ∀(d:List Value) (i:Nat) (w:World) (a:Array Value),w.heap[b]?=some (.cells a t (0,0))->
  off+i+d.length<=a.size->(∀v∈d,v.oneCell'=true)->
  (storeCells ⟨b,off,none⟩ d i).run C.P w=.ok () (eK w b (.cells ⟨setR (off+i) d a.toList⟩ t (0,0)))
 |[],i,w,a,e,_,_=>by
  rw[BW];show Result.ok () w=_;rw[Of e]
 |v::d,i,w,a,e,k,j=>by
  simp only[M_]at k;have hi:off+i<a.size:=o_;have c:w.cell? ⟨b,off+i,none⟩=some a[off+i]:=by rw[cell_of_row _ _ _ a t (0,0) e];grind
  have f:w.frozen? ⟨b,off+i,none⟩=false:=frozen_of_row _ _ _ a t e;have g:(eK w b (.cells (a.setIfInBounds (off+i) v) t (0,0))).heap[b]?=some (.cells (a.setIfInBounds (off+i) v) t (0,0)):=
   fC g_
  have h:=iJ (off:=off) d (i+1) _ _ g (by simp only[Array.size_setIfInBounds];omega) g_;simp only[storeCells,Sem.run_bind,nE,run_store _ _ _ _ _ (j v (.head _)),c,f,Bool.false_eq_true,if_false,Result.andThen_ok];rw[Fa e,h,Dl];congr 4;have:=BV (off+i) v d a.toList o_;rw[<-this,Nat.add_assoc];congr 1;simp
end mem
def bE (tmps:Array Value):Operand->Value
 |.tmp t=>tmps.getD t undef
 |.const v=>v
 |.global g=>.pointer (some ⟨g,0,none⟩)
 |.func f=>.func (.func f) #[] #[]
def FC (a:Frame):a.eval=bE a.tmps:=by
 funext x;cases x<;>rfl
def mi (C:Cx)(g:Gh)(U:Nat->Option (List AV))(h:AH)(r:Result Next)(v:AV)(h':AH):Prop:=
 ∃g' w' u,(r=.ok (.value u) w'\/(r=.ok .skip w'/\u=undef))/\Ext g g'/\Sim C g' U h' w'/\bR g' v u/\Low h h'
section
variable {C:Cx}{g:Gh}{U:Nat->Option (List AV)}{h h':AH}{w:World}{tm:Tm}{tmps:Array Value}{v:AV}
def bV {r:Result Next}{u:Value}(s:Sim C g U h w)(b:r=.ok (.value u) w)(a:bR g v u):mi C g U h r v h:=
 ⟨g,w,u,.inl b,.refl g,s,a,.refl h⟩
theorem cT (ht:ig g tm tmps){x:Operand}{ax:AX}(e:cX x=some ax):bR g (ev ax tm) (bE tmps x):=by
 cases x with
 |tmp t=>cases e;exact ht t
 |const v=>
  have⟨_,ha,e⟩:=aC e;cases e;exact zt g ha
 |global g=>cases e
 |func f=>cases e;exact .fn .nil .nil
def qO (a:ig g tm tmps):∀{l:List Operand} {r:List AX},ma cX l=some r->bD g (evs r tm) (l.map (bE tmps))
 |[],r,e=>by cases e;exact .nil
 |x::l,r,e=>by
  obtain⟨_,_,d,c,rfl⟩:=cA e;exact .cons (cT a d) (qO a c)
def fa {r:Option AV}{a:AH}(e:okV r h=.val v a):r=some v/\a=h:=by
 cases r with
 |none=>cases e
 |some x=>cases e;grind
def Mz {r:Option AH}{a:AH}(e:okH r=.val v a):r=some a/\v=.tup []:=by
 cases r with
 |none=>cases e
 |some x=>cases e;grind
def GU {r:Option (AV×AH)}{a:AH}(e:Kc r=.val v a):r=some (v,a):=by
 cases r with
 |none=>cases e
 |some x=>cases e;rfl
theorem abv (s:Sim C g U h w)(b:ig g tm tmps){o:Oper}{x:Operand}{a:AX}(ho:o.op=.move x\/o.op=.assign x)(hx:cX x=some a):
  mi C g U h ((execOp (bE tmps) o).run C.P w) (ev a tm) h:=by
 refine bV s ?_ (cT b hx);rcases ho with ho|ho<;>simp[execOp,ho]
def tV {a:AV}{b:Bool}(e:AU a=some b):a=.bool b:=by cases a<;>first|(cases e;done)|(cases e;rfl)
def mz {a:AV}{p:IntKind×Int}(e:Qk a=some p):a=.int p.1 p.2:=by cases a<;>first|(cases e;done)|(cases e;rfl)
theorem yv {a:AV}{s:ByteArray}(e:Jz a=some s):a=.str s:=by cases a<;>first|(cases e;done)|(cases e;rfl)
def wM {a:AV}{l:List AV}(e:VF a=some l):a=.agg l:=by cases a<;>first|(cases e;done)|(cases e;rfl)
def NH {a:AV}{l:List AV}(e:ZX a=some l):a=.tup l:=by cases a<;>first|(cases e;done)|(cases e;rfl)
def yO {a:AV}{k:Nat}(e:WH a=some k):a=.map k:=by cases a<;>first|(cases e;done)|(cases e;rfl)
theorem sD {a:AV}{n:Nat}(e:aae a=some n):∃k,a=.int k (n:Int):=by
 cases a<;>first|(cases e;done)|skip
 case int k m=>cases m<;>cases e;grind
def Ym (s:Sim C g U h w)(b:ig g tm tmps){o:Oper}{x y z:Operand}{d f j:AX}(ho:o.op=.pick x y z)(hx:cX x=some d)(l:cX y=some f)
  (k:cX z=some j) {h':AH} (e:okV (EL (ev d tm) (ev f tm) (ev j tm)) h=.val v h'):mi C g U h ((execOp (bE tmps) o).run C.P w) v h':=by
 have i:=cT b hx;have m:=cT b l;have n:=cT b k;obtain⟨q,rfl⟩:=fa e;generalize ev d tm=a at i q;cases a<;>first|(cases q;done)|skip
 case bool c=>
  cases q;refine bV (u:=if c then bE tmps y else bE tmps z) s ?_ ?_
  ·simp[execOp,ho,i.bool_inv,asBool]
  grind
theorem Ck (s:Sim C g U h w){z:Value}{a:List AV}(t:TypeId)(b:bD g a z.cells.toList)(d:aZ a=true):
  ∃g' w',(newVar t z).run C.P w=.ok ⟨w.heap.size,0,none⟩ w'/\Ext g g'/\Sim C g' U (h.new (.box a)) w'/\bR g' (.ptr h.z 0 0) (.pointer (some ⟨w.heap.size,0,none⟩)):=by
 have⟨ex,c⟩:=s.alloc (.box a) (.cells z.cells t) ⟨w.heap.size,0,0,0⟩ rfl rfl
  ⟨rfl,z.cells,t,heap_alloc_new _ _,b.mono (g.at_ext _ (s.rfresh 0)),d,λo v q=>by
   have q:g.F w.heap.size o=some v:=q;exact absurd (s.frz_lt q) o_⟩
 refine⟨_,_,?_,ex,c,?_⟩
 ·simp[newVar,newRow]
 exact .ptr (l:=⟨w.heap.size,0,0,0⟩) (g.at_same _ _ _)
theorem adw (s:Sim C g U h w){o:Oper}{t:TypeId}{z:AV}(ho:o.op=.alloc t)(e:pq C.T t=some z):
  mi C g U h ((execOp (bE tmps) o).run C.P w) (.ptr h.z 0 0) (h.new (.box z.cells)):=by
 have⟨_,_,hi,b,c,_,k,_⟩:=lO g e;have j:z.lies=true:=by
  cases z<;>first|rfl|grind [AV.cells,dG,AV.isCell]
 have⟨g',w',a,ex,d,f⟩:=Ck s t (c.cells j) k;refine⟨g',w',_,.inl ?_,ex,d,f,Low.new _ _⟩;simp[execOp,ho,Instr.alloc,fw hi b,a]
def adB (s:Sim C g U h w)(k:ig g tm tmps){o:Oper}{t:TypeId}{x:Operand}{b:AX}{n:Nat}(ho:o.op=.box t x)(hx:cX x=some b)
  {h':AH} (e:uk h n (ev b tm)=.val v h'):mi C g U h ((execOp (bE tmps) o).run C.P w) v h':=by
 have f:=cT k hx;unfold uk at e;cases d:(and (Nat.beq (len (ev b tm).cells) n) (ev b tm).lies) with
 |false=>grind
 |true=>
  rw[d]at e;have⟨_,c⟩:=fq d;cases e;have⟨g',w',a,ex,i,j⟩:=Ck s t (f.cells c) (f.fine c);refine⟨g',w',_,.inl ?_,ex,i,j,Low.new _ _⟩;simp[execOp,ho,Instr.box,a]
end
