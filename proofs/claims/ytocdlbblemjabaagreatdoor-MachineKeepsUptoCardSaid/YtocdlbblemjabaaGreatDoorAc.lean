/- AbsGo: the evaluator's functions on lists are the usual ones (plain data; no condition). -/
import Derived.Test.YtocdlbblemjabaaGreatDoorAb
import Derived.Control
import Derived.Laws.Sem
import Derived.Laws.World
import Derived.Laws.Rows
import Derived.Laws.Cells
namespace Go.AG
variable {α β:Type}
theorem aI {a:α}{k:α->Option β}: aD (some a) k=k a:=rfl
theorem qD {k:α->Option β}: aD (none:Option α) k=none:=rfl
theorem aA {o:Option α}{k:α->Option β}{b:β}(h:aD o k=some b):∃ a,o=some a/\k a=some b:=by
 cases o with
 |none=>cases h
 |some a=>exact⟨a,rfl,h⟩
theorem WJ {o:Option α}{k:α->Option β}{a:α}(h:o=some a):aD o k=k a:=by subst h;rfl
theorem aN {c:Bool}{x:Option α}{b:α}(h:cond c x none=some b):c=true/\x=some b:=by
 cases c with
 |false=>cases h
 |true=>exact⟨rfl,h⟩
theorem fO {c:Bool}{x:Option α}{b:α}(h:cond c none x=some b):c=false/\x=some b:=by
 cases c with
 |true=>cases h
 |false=>exact⟨rfl,h⟩
theorem cR {a b:Bool}(h:and a b=true):a=true/\b=true:=by
 cases a<;>cases b<;>first|exact⟨rfl,rfl⟩|cases h
theorem beq_eq {a b:Nat}(h:Nat.beq a b=true):a=b:=Nat.eq_of_beq_eq_true h
theorem eE {a b:Nat}(h:Nat.ble a b=true):a<=b:=Nat.le_of_ble_eq_true h
theorem iF {a b:Nat}(h:Nat.blt a b=true):a<b:=Nat.le_of_ble_eq_true h
theorem pj {a b:Nat}(h:Nat.ble a b=false):b<a:=by
 rcases Nat.lt_or_ge b a with x|x
 ·exact x
 ·rw[Nat.ble_eq_true_of_le x]at h;cases h
theorem SN {a b:Nat}(h:Nat.blt a b=false):b<=a:=Nat.le_of_lt_succ (pj h)
theorem gT (a b:List α):app a b=a++b:=by
 induction a with
 |nil=>rfl
 |cons x a ih=>show x::app a b=_;rw[ih];rfl
theorem bH (l:List α):len l=l.length:=by
 induction l with
 |nil=>rfl
 |cons x a ih=>show Nat.succ (len a)=_;rw[ih];rfl
theorem fa (n:Nat):∀ l:List α,drp n l=l.drop n:=by
 induction n with
 |zero=>intro l;rfl
 |succ n ih=>intro l;cases l with
  |nil=>rfl
  |cons x l=>show drp n l=_;rw[ih];rfl
theorem iB (n:Nat):∀ l:List α,tke n l=l.take n:=by
 induction n with
 |zero=>intro l;cases l<;>rfl
 |succ n ih=>intro l;cases l with
  |nil=>rfl
  |cons x l=>show x::tke n l=_;rw[ih];rfl
theorem ie (n:Nat):∀ l:List α,pT n l=l[n]?:=by
 induction n with
 |zero=>intro l;cases l<;>rfl
 |succ n ih=>intro l;cases l with
  |nil=>rfl
  |cons x l=>show pT n l=_;rw[ih];rfl
theorem Er (cs:List α):over [] cs=cs:=rfl
theorem mc (v c:α)(vs cs:List α):over (v::vs) (c::cs)=v::over vs cs:=rfl
theorem ym (vs cs:List α):setR 0 vs cs=over vs cs:=rfl
theorem gV (n:Nat)(vs:List α)(c:α)(cs:List α):setR (n+1) vs (c::cs)=c::setR n vs cs:=rfl
theorem Cp (vs:List α):∀ cs:List α,(over vs cs).length=cs.length:=by
 induction vs with
 |nil=>intro cs;rfl
 |cons v vs ih=>intro cs;cases cs with
  |nil=>rfl
  |cons c cs=>rw[mc];simp[ih]
theorem jk (off:Nat)(vs:List α):∀ cs:List α,(setR off vs cs).length=cs.length:=by
 induction off with
 |zero=>intro cs;exact Cp vs cs
 |succ n ih=>intro cs;cases cs with
  |nil=>rfl
  |cons c cs=>rw[gV];simp[ih]
theorem UQ (vs:List α):∀ (cs:List α) (i:Nat),vs.length<=cs.length->(over vs cs)[i]?=if i<vs.length then vs[i]? else cs[i]?:=by
 induction vs with
 |nil=>intro cs i _;simp[Er]
 |cons v vs ih=>intro cs i h;cases cs with
  |nil=>simp at h
  |cons c cs=>
   rw[mc];cases i with
   |zero=>simp
   |succ i=>simp only[List.getElem?_cons_succ,List.length_cons,Nat.succ_lt_succ_iff];exact ih cs i (by simpa using h)
theorem oI (off:Nat)(vs:List α):∀ (cs:List α) (i:Nat),off+vs.length<=cs.length->
  (setR off vs cs)[i]?=if off<=i/\i<off+vs.length then vs[i-off]? else cs[i]?:=by
 induction off with
 |zero=>intro cs i h;rw[ym,UQ vs cs i o_];simp
 |succ n ih=>intro cs i h;cases cs with
  |nil=>simp at h
  |cons c cs=>
   rw[gV];cases i with
   |zero=>rw[N_ o_];rfl
   |succ i=>
    simp only[List.getElem?_cons_succ];rw[ih cs i (by simp only[List.length_cons]at h;omega)];by_cases hc:n<=i/\i<n+vs.length
    ·rw[P_ hc,P_ o_];congr 1;omega
    ·rw[N_ hc,N_ o_]
theorem RS (f:α->Option β)(a:α)(l:List α):hX f (a::l)=aD (f a) fun b=>aD (hX f l) fun r=>some (b::r):=rfl
theorem bS {f:α->Option β}{a:α}{l:List α}{r:List β}(h:hX f (a::l)=some r):∃ b r',f a=some b/\hX f l=some r'/\r=b::r':=by
 rw[RS]at h;obtain⟨b,hb,h⟩:=aA h;obtain⟨r',hr,h⟩:=aA h;cases h;exact⟨b,r',hb,hr,rfl⟩
theorem tL {f:α->Option β}: ∀ {l:List α} {r:List β},hX f l=some r->r.length=l.length:=by
 intro l;induction l with
 |nil=>intro r h;cases h;rfl
 |cons a l ih=>intro r h;obtain⟨b,r',_,hr,rfl⟩:=bS h;simp[ih hr]
theorem oQ:flat []=[]:=rfl
theorem cw (v:AV)(l:List AV):flat (v::l)=v.cells++flat l:=by show app v.cells (flat l)=_;rw[gT]
theorem Bn (tm:Tm):evs [] tm=[]:=rfl
theorem mG (x:AX)(l:List AX)(tm:Tm):evs (x::l) tm=ev x tm::evs l tm:=rfl
theorem qZ:aR []=true:=rfl
theorem bX (a:AV)(l:List AV):aR (a::l)=(a.isCell&&aR l):=rfl
theorem De (a:AV)(l:List AV):fy (a::l)=and a.lies (fy l):=rfl
theorem uC (sz:Nat)(a:AV)(l:List AV):ew sz (a::l)=and (Nat.beq (len a.cells) sz) (ew sz l):=rfl
theorem dc (l:List AV):aR l=true↔∀ a∈l,a.isCell=true:=by
 induction l with
 |nil=>simp[qZ]
 |cons a l ih=>simp[bX,ih]
theorem eJ (a b:List AV):aR (a++b)=(aR a&&aR b):=by
 induction a with
 |nil=>simp[qZ]
 |cons x a ih=>simp[bX,ih,Bool.and_assoc]
theorem QY (sz:Nat)(l:List AV):ew sz l=true↔∀ a∈l,a.cells.length=sz:=by
 induction l with
 |nil=>simp[ew]
 |cons a l ih=>
  rw[uC,bH];constructor
  ·intro h;obtain⟨h1,h2⟩:=cR h;intro x hx;cases hx with
   |head=>exact beq_eq h1
   |tail _ hx=>exact ih.1 h2 x hx
  ·intro h;rw[ih.2 fun x hx=>h x (.tail _ hx),h a (.head _),Nat.beq_refl];rfl
theorem wi {a b:Bool}(h:mq a b=true):a=b:=by cases a<;>cases b<;>first|rfl|cases h
theorem yq (a b:Bool):mq a b=(a==b):=by cases a<;>cases b<;>rfl
structure Loc where
 block:Nat
 base:Nat
 cap:Nat
 sz:Nat
structure Gh where
 F:Nat->Nat->Option Value
 ρ:Nat->Nat->Option Loc
 w0:World
structure Ext (g g':Gh):Prop where
 F:∀ b o v,g.F b o=some v->g'.F b o=some v
 ρ:∀ k n l,g.ρ k n=some l->g'.ρ k n=some l
 w0:g'.w0=g.w0
 old:∀ b o v,b<g.w0.heap.size->g'.F b o=some v->g.F b o=some v
theorem Ext.refl (g:Gh):Ext g g:=⟨fun _ _ _ h=>h,fun _ _ _ h=>h,rfl,fun _ _ _ _ h=>h⟩
theorem Ext.trans {a b c:Gh}(h:Ext a b)(k:Ext b c):Ext a c:=
 ⟨fun x y v e=>k.F x y v (h.F x y v e),fun x y l e=>k.ρ x y l (h.ρ x y l e),k.w0.trans h.w0,fun x y v hb e=>h.old x y v hb (k.old x y v (by rw[h.w0];exact hb) e)⟩
mutual
inductive bA (g:Gh):AV->Value->Prop
 |bool (b:Bool):bA g (.bool b) (.bool b)
 |int (k:IntKind) (n:Int):bA g (.int k n) (.int k n)
 |str (s:ByteArray):bA g (.str s) (.string s)
 |nilp:bA g .nilp (.pointer none)
 |ptr {k n off:Nat} {l:Loc} (h:g.ρ k n=some l):bA g (.ptr k n off) (.pointer (some ⟨l.block,l.base+off,none⟩))
 |vptr {v:AV} {b off:Nat} (hc:aR v.cells=true) (h:eu g b off v.cells):bA g (.vptr v) (.pointer (some ⟨b,off,none⟩))
 |nl:bA g .nl (.slice none 0 0)
 |ls {es:List AV} {sz b off n cap:Nat} (hs:∀ e∈es,e.cells.length=sz) (ha:aR (flat es)=true) (hn:n=es.length) (hl:es.length<=cap)
   (h:eu g b off (flat es)):bA g (.ls es) (.slice (some ⟨b,off,none⟩) n cap)
 |lst0 {a:Option Addr} {cap:Nat} : bA g (.ls []) (.slice a 0 cap)
 |clip {es:List AV} {sz b off n cap:Nat} (hs:∀ e∈es,e.cells.length=sz) (ha:aR (flat es)=true) (hn:n=es.length) (hl:es.length=cap)
   (h:eu g b off (flat es)):bA g (.clip es) (.slice (some ⟨b,off,none⟩) n cap)
 |clip0 {a:Option Addr} : bA g (.clip []) (.slice a 0 0)
 |row {k n sz off len:Nat} {l:Loc} (h:g.ρ k n=some l) (hs:l.sz=sz) (hl:off+len<=l.cap) :
   bA g (.row k n sz off len) (.slice (some ⟨l.block,l.base+off*sz,none⟩) len (l.cap-off))
 |row0 {k n sz off:Nat} {l:Loc} {a:Option Addr} (h:g.ρ k n=some l) (hs:l.sz=sz) (hl:off=l.cap):bA g (.row k n sz off 0) (.slice a 0 0)
 |nilm:bA g .nilm (.map none)
 |map {k:Nat} {l:Loc} (h:g.ρ k 0=some l):bA g (.map k) (.map (some l.block))
 |fn {f:FuncId} {a b:List AV} {x y:List Value} (h:aY g a x) (h':aY g b y):bA g (.fn f a b) (.func (.func f) ⟨x⟩ ⟨y⟩)
 |yld {k:Nat} {l:Loc} (h:g.ρ k 0=some l):bA g (.yld k) (.func (.yield l.block) #[] #[])
 |nilf:bA g .nilf .nilFunc
 |ifc {t:TypeId} {v:AV} {u:Value} (h:bA g v u):bA g (.ifc t v) (.iface t u)
 |nili:bA g .nili .nilIface
 |agg {cs:List AV} {us:List Value} (hc:aR cs=true) (h:aY g cs us):bA g (.agg cs) (.agg ⟨us⟩)
 |tup {cs:List AV} {us:List Value} (h:aY g cs us):bA g (.tup cs) (.tuple ⟨us⟩)
 |any (u:Value):bA g .any u
inductive aY (g:Gh):List AV->List Value->Prop
 |nil:aY g [] []
 |cons {a:AV} {u:Value} {l:List AV} {us:List Value} (h:bA g a u) (t:aY g l us):aY g (a::l) (u::us)
inductive eu (g:Gh):Nat->Nat->List AV->Prop
 |nil (b off:Nat):eu g b off []
 |cons {b off:Nat} {a:AV} {l:List AV} {u:Value} (hu:g.F b off=some u) (h:bA g a u) (t:eu g b (off+1) l):eu g b off (a::l)
end
mutual
theorem bA.mono {g g':Gh}(e:Ext g g'):∀ {a:AV} {u:Value},bA g a u->bA g' a u
 |_,_,.bool b=>.bool b
 |_,_,.int k n=>.int k n
 |_,_,.str s=>.str s
 |_,_,.nilp=>.nilp
 |_,_,.ptr h=>.ptr (e.ρ _ _ _ h)
 |_,_,.vptr hc h=>.vptr hc (eu.mono e h)
 |_,_,.nl=>.nl
 |_,_,.ls hs ha hn hl h=>.ls hs ha hn hl (eu.mono e h)
 |_,_,.lst0=>.lst0
 |_,_,.clip hs ha hn hl h=>.clip hs ha hn hl (eu.mono e h)
 |_,_,.clip0=>.clip0
 |_,_,.row h hs hl=>.row (e.ρ _ _ _ h) hs hl
 |_,_,.row0 h hs hl=>.row0 (e.ρ _ _ _ h) hs hl
 |_,_,.nilm=>.nilm
 |_,_,.map h=>.map (e.ρ _ _ _ h)
 |_,_,.fn h h'=>.fn (aY.mono e h) (aY.mono e h')
 |_,_,.yld h=>.yld (e.ρ _ _ _ h)
 |_,_,.nilf=>.nilf
 |_,_,.ifc h=>.ifc (bA.mono e h)
 |_,_,.nili=>.nili
 |_,_,.agg hc h=>.agg hc (aY.mono e h)
 |_,_,.tup h=>.tup (aY.mono e h)
 |_,_,.any u=>.any u
theorem aY.mono {g g':Gh}(e:Ext g g'):∀ {a:List AV} {u:List Value},aY g a u->aY g' a u
 |_,_,.nil=>.nil
 |_,_,.cons h t=>.cons (bA.mono e h) (aY.mono e t)
theorem eu.mono {g g':Gh}(e:Ext g g'):∀ {b off:Nat} {l:List AV},eu g b off l->eu g' b off l
 |_,_,_,.nil b off=>.nil b off
 |_,_,_,.cons hu h t=>.cons (e.F _ _ _ hu) (bA.mono e h) (eu.mono e t)
end
section lists
variable {g:Gh}
theorem aY.length:∀ {a:List AV} {u:List Value},aY g a u->a.length=u.length
 |_,_,.nil=>rfl
 |_,_,.cons _ t=>by simp[aY.length t]
theorem aY.append:∀ {a b:List AV} {u v:List Value},aY g a u->aY g b v->aY g (a++b) (u++v)
 |_,_,_,_,.nil,h=>h
 |_,_,_,_,.cons h t,k=>.cons h (aY.append t k)
theorem aY.get:∀ {a:List AV} {u:List Value} {i:Nat} {x:AV},aY g a u->a[i]?=some x->∃ y,u[i]?=some y/\bA g x y
 |_,_,i,x,.nil,h=>by simp at h
 |_,_,0,x,.cons h t,k=>by simp at k;subst k;exact⟨_,rfl,h⟩
 |_,_,i+1,x,.cons h t,k=>by
  obtain⟨y,hy,r⟩:=aY.get (i:=i) (x:=x) t (by simpa using k);exact⟨y,by simpa using hy,r⟩
theorem aY.get' {a:List AV}{u:List Value}{i:Nat}{y:Value}(h:aY g a u)(k:u[i]?=some y):∃ x,a[i]?=some x/\bA g x y:=by
 have hi:i<u.length:=by
  rcases Nat.lt_or_ge i u.length with x|x
  ·exact x
  ·rw[List.getElem?_eq_none x]at k;cases k
 have hi':i<a.length:=by rw[h.length];exact hi
 obtain⟨y',hy,r⟩:=h.get (a_ hi');rw[k]at hy;cases hy;exact⟨_,a_ hi',r⟩
theorem aY.drop:∀ (n:Nat) {a:List AV} {u:List Value},aY g a u->aY g (a.drop n) (u.drop n)
 |0,_,_,h=>h
 |_+1,_,_,.nil=>.nil
 |n+1,_,_,.cons _ t=>aY.drop n t
theorem aY.take:∀ (n:Nat) {a:List AV} {u:List Value},aY g a u->aY g (a.take n) (u.take n)
 |0,_,_,_=>by simp;exact .nil
 |_+1,_,_,.nil=>.nil
 |n+1,_,_,.cons h t=>.cons h (aY.take n t)
theorem aY.over:∀ {vs:List AV} {ws:List Value},aY g vs ws->∀ {cs:List AV} {us:List Value},aY g cs us->aY g (AG.over vs cs) (AG.over ws us)
 |_,_,.nil,_,_,h=>h
 |_,_,.cons _ _,_,_,.nil=>.nil
 |_,_,.cons h t,_,_,.cons _ k=>.cons h (aY.over t k)
theorem aY.setR {vs:List AV}{ws:List Value}(h:aY g vs ws):∀ (off:Nat) {cs:List AV} {us:List Value},aY g cs us->aY g (AG.setR off vs cs) (AG.setR off ws us)
 |0,_,_,k=>aY.over h k
 |_+1,_,_,.nil=>.nil
 |n+1,_,_,.cons x t=>.cons x (aY.setR h n t)
theorem eu.vals:∀ {b off:Nat} {l:List AV},eu g b off l->∃ us,aY g l us/\∀ i u,us[i]?=some u->g.F b (off+i)=some u
 |_,_,_,.nil b off=>⟨[],.nil,fun i u h=>by simp at h⟩
 |b,off,_,.cons hu h t=>by
  obtain⟨us,hr,hF⟩:=eu.vals t;refine⟨_::us,.cons h hr,fun i u hi=>?_⟩;cases i with
  |zero=>simp at hi;subst hi;exact hu
  |succ i=>have:=hF i u (by simpa using hi);rw[show off+(i+1)=off+1+i by omega];exact this
theorem eu.mk:∀ {l:List AV} {us:List Value} {b off:Nat},aY g l us->(∀ i u,us[i]?=some u->g.F b (off+i)=some u)->eu g b off l
 |_,_,b,off,.nil,_=>.nil b off
 |_,_,b,off,.cons h t,hF=>.cons (by simpa using hF 0 _ rfl) h (eu.mk t fun i u hi=>by
   have:=hF (i+1) u (by simpa using hi);rw[show off+(i+1)=off+1+i by omega]at this;exact this)
theorem eu.left {b off:Nat}{l m:List AV}(h:eu g b off (l++m)):eu g b off l:=by
 obtain⟨us,hr,hF⟩:=h.vals;have h1:=hr.take l.length;rw[List.take_left'  rfl]at h1;refine eu.mk h1 fun i u hi=>hF i u ?_
 rw[List.getElem?_take]at hi;split at hi
 ·exact hi
 ·cases hi
theorem eu.right {b off:Nat}{l m:List AV}(h:eu g b off (l++m)):eu g b (off+l.length) m:=by
 obtain⟨us,hr,hF⟩:=h.vals;have h1:=hr.drop l.length;rw[List.drop_left' rfl]at h1;refine eu.mk h1 fun i u hi=>?_
 rw[List.getElem?_drop]at hi;have:=hF _ u hi;rw[<- Nat.add_assoc]at this;exact this
theorem eu.sub {b off:Nat}{l:List AV}(h:eu g b off l)(n m:Nat)(hn:n<=l.length):eu g b (off+n) ((l.drop n).take m):=by
 have e:l=l.take n++((l.drop n).take m++(l.drop n).drop m):=by rw[List.take_append_drop,List.take_append_drop]
 rw[e]at h;have h1:=h.right;rw[List.length_take,Nat.min_eq_left hn]at h1;exact h1.left
end lists
theorem bA.oneCell {g:Gh}{a:AV}{u:Value}(h:bA g a u)(hc:a.isCell=true):u.oneCell'=true:=by
 cases h<;>first|rfl|(simp[AV.isCell]at hc)
theorem bA.fine {g:Gh}{a:AV}{u:Value}(h:bA g a u)(hl:a.lies=true):aR a.cells=true:=by
 cases h<;>first|rfl|assumption|(simp[AV.lies]at hl)
theorem bA.cells {g:Gh}{a:AV}{u:Value}(h:bA g a u)(hl:a.lies=true):aY g a.cells u.cells.toList:=by
 cases h
 case agg hc h=>exact h
 case tup h=>simp[AV.lies]at hl
 case any=>simp[AV.lies]at hl
 all_goals exact .cons (by constructor<;>assumption) .nil
section inv
variable {g:Gh}{u:Value}
theorem bA.bool_inv {b:Bool}(h:bA g (.bool b) u):u=.bool b:=by cases h;rfl
theorem bA.int_inv {k:IntKind}{n:Int}(h:bA g (.int k n) u):u=.int k n:=by cases h;rfl
theorem bA.str_inv {s:ByteArray}(h:bA g (.str s) u):u=.string s:=by cases h;rfl
theorem bA.nilp_inv (h:bA g .nilp u):u=.pointer none:=by cases h;rfl
theorem bA.ptr_inv {k n off:Nat}(h:bA g (.ptr k n off) u):∃ l,g.ρ k n=some l/\u=.pointer (some ⟨l.block,l.base+off,none⟩):=by
 cases h;exact⟨_,by assumption,rfl⟩
theorem bA.vptr_inv {v:AV}(h:bA g (.vptr v) u):∃ b off,aR v.cells=true/\eu g b off v.cells/\u=.pointer (some ⟨b,off,none⟩):=by
 cases h with|vptr hc h=>exact⟨_,_,hc,h,rfl⟩
theorem bA.nils_inv (h:bA g .nl u):u=.slice none 0 0:=by cases h;rfl
theorem bA.lst_inv {es:List AV}(h:bA g (.ls es) u):∃ a cap,u=.slice a es.length cap/\es.length<=cap/\
  (es=[]∨∃ sz b off,a=some ⟨b,off,none⟩/\(∀ e∈es,e.cells.length=sz)/\aR (flat es)=true/\eu g b off (flat es)):=by
 cases h with
 |ls hs ha hn hl h=>subst hn;exact⟨_,_,rfl,hl,.inr ⟨_,_,_,rfl,hs,ha,h⟩⟩
 |lst0=>exact⟨_,_,rfl,Nat.zero_le _,.inl rfl⟩
theorem bA.clip_inv {es:List AV}(h:bA g (.clip es) u):∃ a,u=.slice a es.length es.length/\
  (es=[]∨∃ sz b off,a=some ⟨b,off,none⟩/\(∀ e∈es,e.cells.length=sz)/\aR (flat es)=true/\eu g b off (flat es)):=by
 cases h with
 |clip hs ha hn hl h=>subst hn hl;exact⟨_,rfl,.inr ⟨_,_,_,rfl,hs,ha,h⟩⟩
 |clip0=>exact⟨_,rfl,.inl rfl⟩
theorem bA.row_inv {k n sz off m:Nat}(h:bA g (.row k n sz off m) u):∃ l a,g.ρ k n=some l/\l.sz=sz/\off+m<=l.cap/\u=.slice a m (l.cap-off)/\
  (a=some ⟨l.block,l.base+off*sz,none⟩∨(m=0/\off=l.cap)):=by
 cases h with
 |row h hs hl=>exact⟨_,_,h,hs,hl,rfl,.inl rfl⟩
 |@row0 _ _ _ _ _ a h hs hl=>subst hl;exact⟨_,a,h,hs,o_,by simp,.inr ⟨rfl,rfl⟩⟩
theorem bA.nilm_inv (h:bA g .nilm u):u=.map none:=by cases h;rfl
theorem bA.map_inv {k:Nat}(h:bA g (.map k) u):∃ l,g.ρ k 0=some l/\u=.map (some l.block):=by
 cases h;exact⟨_,by assumption,rfl⟩
theorem bA.fn_inv {f:FuncId}{a b:List AV}(h:bA g (.fn f a b) u):∃ x y,aY g a x/\aY g b y/\u=.func (.func f) ⟨x⟩ ⟨y⟩:=by
 cases h with|fn h h'=>exact⟨_,_,h,h',rfl⟩
theorem bA.yld_inv {k:Nat}(h:bA g (.yld k) u):∃ l,g.ρ k 0=some l/\u=.func (.yield l.block) #[] #[]:=by
 cases h;exact⟨_,by assumption,rfl⟩
theorem bA.nilf_inv (h:bA g .nilf u):u=.nilFunc:=by cases h;rfl
theorem bA.ifc_inv {t:TypeId}{v:AV}(h:bA g (.ifc t v) u):∃ x,bA g v x/\u=.iface t x:=by
 cases h;exact⟨_,by assumption,rfl⟩
theorem bA.nili_inv (h:bA g .nili u):u=.nilIface:=by cases h;rfl
theorem bA.agg_inv {cs:List AV}(h:bA g (.agg cs) u):∃ us,aR cs=true/\aY g cs us/\u=.agg ⟨us⟩:=by
 cases h with|agg hc h=>exact⟨_,hc,h,rfl⟩
theorem bA.tup_inv {cs:List AV}(h:bA g (.tup cs) u):∃ us,aY g cs us/\u=.tuple ⟨us⟩:=by
 cases h with|tup h=>exact⟨_,h,rfl⟩
end inv
structure Ini where
 p:World->Prop
 up:∀ w w',(∀ b,b<w.heap.size->w'.heap[b]?=w.heap[b]?)->w.heap.size<=w'.heap.size->p w->p w'
structure Cx where
 P:Program
 T:Tr TypeInfo
 kw:TypeId->Bool
 ok:∀ t i,T.get t=some i->P.info? t=some i
 mixed:P.follows .mixedOrders=true
 ini:Ini
def ep (g:Gh)(tm:Tm)(tmps:Array Value):Prop:=∀ i,bA g (nth tm i) (tmps.getD i undef)
inductive Ua:Option AEx->Option Code->Prop
 |none:Ua none none
 |ret:Ua (some .ret) (some .ret)
 |exit (id:Nat):Ua (some (.exit id)) (some (.exit id))
inductive lH (g:Gh):List (AV×AV)->List MapEntry->Prop
 |nil:lH g [] []
 |cons {k v:AV} {e:MapEntry} {l:List (AV×AV)} {es:List MapEntry} (hk:bA g k e.key) (hv:bA g v e.val) (t:lH g l es):lH g ((k,v)::l) (e::es)
theorem lH.mono {g g':Gh}(x:Ext g g'):∀ {l:List (AV×AV)} {es:List MapEntry},lH g l es->lH g' l es
 |_,_,.nil=>.nil
 |_,_,.cons hk hv t=>.cons (hk.mono x) (hv.mono x) (lH.mono x t)
theorem ep.mono {g g':Gh}(x:Ext g g'){tm:Tm}{a:Array Value}(h:ep g tm a):ep g' tm a:=fun i=>(h i).mono x
def lA:fD->Nat
 |.row n _ _ _ _=>n
 |_=>0
structure Iz (C:Cx)(g:Gh)(st:LoopState)(pend:Option AEx)(tm:Tm)(ps:List Nat)(as b:aF)(f:FuncId)(L:Loop):Prop where
 hst:L.state=st
 hpend:Ua pend L.pending
 htm:ep g tm L.tmps
 hps:L.params.toList=ps
 hfn:L.fn=f
 hcode:∃ nt,nt<=L.tmps.size/\jA L.assign C.P C.T C.kw nt=some as/\jA L.body C.P C.T C.kw nt=some b/\mV nt ps=true
def Uc (mes:Array MapEntry)(clock:Nat):Prop:=(∀ x∈mes.toList,x.born<clock)/\(mes.toList.map (·.born)).Nodup
def OAt (C:Cx)(g:Gh)(w:World)(k:Nat)(l:Loc):fD->Prop
 |.box cs=>l.base=0/\∃ us t,w.heap[l.block]?=some (.cells us t (0,0))/\aY g cs us.toList/\aR cs=true/\∀ o v,g.F l.block o≠some v
 |.row n sz _ cs fz=>l.sz=sz/\0<sz/\∃ us t,w.heap[l.block]?=some (.cells us t (0,0))/\l.base+l.cap*sz<=us.size/\cs.length<=l.cap*sz/\
   aY g cs ((us.toList.drop l.base).take cs.length)/\aR cs=true/\(∀ o v,g.F l.block o=some v->o<l.base+fz)/\∀ m,n<m->g.ρ k m=none
 |.map es=>∃ mes clock,w.heap[l.block]?=some (.map mes clock)/\lH g es mes.toList/\Uc mes clock
 |.loop st pend tm ps as b f=>∃ L,w.heap[l.block]?=some (.loop L)/\Iz C g st pend tm ps as b f L
 |.dfd t=>w.heap[l.block]?=some (.deferred (cond t none (some [])))
structure Sim (C:Cx)(g:Gh)(U:Nat->Option (List AV))(h:AH)(w:World):Prop where
 frz:∀ b o v,g.F b o=some v->w.cell? ⟨b,o,none⟩=some v
 obj:∀ k o,h.get k=some o->U k=none->∃ l,g.ρ k (lA o)=some l/\g.w0.heap.size<=l.block/\OAt C g w k l o
 lt:∀ k o,h.get k=some o->k<h.z
 unb:∀ k z,U k=some z->h.get k=some (.box z)/\∀ n,g.ρ k n=none
 rlt:∀ k n l,g.ρ k n=some l->k<h.z
 sep:∀ k k' o o' l l',k≠k'->h.get k=some o->h.get k'=some o'->g.ρ k (lA o)=some l->g.ρ k' (lA o')=some l'->l.block≠l'.block
 old:∀ b,b<g.w0.heap.size->w.heap[b]?=g.w0.heap[b]?
 sz:g.w0.heap.size<=w.heap.size
 tape:w.tape=g.w0.tape
 os:w.os=g.w0.os
 output:w.output=g.w0.output
 ini:C.ini.p g.w0
section laws
variable {C:Cx}{g g':Gh}{U:Nat->Option (List AV)}{h:AH}{w w':World}
theorem OAt.block_lt {k:Nat}{l:Loc}{o:fD}(x:OAt C g w k l o):l.block<w.heap.size:=by
 have key:∀ ob,w.heap[l.block]?=some ob->l.block<w.heap.size:=fun ob e=>(Array.getElem?_eq_some_iff.1 e).1
 cases o with
 |box cs=>obtain⟨_,us,t,e,_⟩:=x;exact key _ e
 |row n sz agg cs fz=>obtain⟨_,_,us,t,e,_⟩:=x;exact key _ e
 |map es=>obtain⟨mes,c,e,_⟩:=x;exact key _ e
 |loop st pend tm ps as b f=>obtain⟨L,e,_⟩:=x;exact key _ e
 |dfd t=>exact key _ x
theorem OAt.kw {k:Nat}{l:Loc}{o:fD}(x:OAt C g w k l o)(e:Ext g g')(hb:w'.heap[l.block]?=w.heap[l.block]?)
  (hF:∀ i v,g'.F l.block i=some v->g.F l.block i=some v) (hρ:∀ m,lA o<m->g.ρ k m=none->g'.ρ k m=none):OAt C g' w' k l o:=by
 cases o with
 |box cs=>
  obtain⟨hb0,us,t,e1,hv,ha,hn⟩:=x;exact⟨hb0,us,t,hb.trans e1,hv.mono e,ha,fun i v q=>hn i v (hF i v q)⟩
 |row n sz agg cs fz=>
  obtain⟨hs,hp,us,t,e1,h1,h2,hv,ha,hn,hr⟩:=x;exact⟨hs,hp,us,t,hb.trans e1,h1,h2,hv.mono e,ha,fun i v q=>hn i v (hF i v q),fun m hm=>hρ m hm (hr m hm)⟩
 |map es=>obtain⟨mes,c,e1,he,hB⟩:=x;exact⟨mes,c,hb.trans e1,he.mono e,hB⟩
 |loop st pend tm ps as b f=>
  obtain⟨L,e1,hL⟩:=x;exact⟨L,hb.trans e1,⟨hL.hst,hL.hpend,hL.htm.mono e,hL.hps,hL.hfn,hL.hcode⟩⟩
 |dfd t=>exact hb.trans x
theorem Sim.frz_lt (s:Sim C g U h w){b o:Nat}{v:Value}(e:g.F b o=some v):b<w.heap.size:=
 block_lt_of_cell (s.frz b o v e)
theorem Sim.fresh (s:Sim C g U h w):h.get h.z=none:=by
 cases e:h.get h.z with
 |none=>rfl
 |some o=>exact absurd (s.lt _ _ e) (Nat.lt_irrefl _)
theorem Sim.ufresh (s:Sim C g U h w):U h.z=none:=by
 cases e:U h.z with
 |none=>rfl
 |some z=>have:=(s.unb _ _ e).1;rw[s.fresh]at this;cases this
theorem Sim.rfresh (s:Sim C g U h w)(n:Nat):g.ρ h.z n=none:=by
 cases e:g.ρ h.z n with
 |none=>rfl
 |some l=>exact absurd (s.rlt _ _ _ e) (Nat.lt_irrefl _)
theorem Sim.heapEq (s:Sim C g U h w)(hh:w'.heap=w.heap)(ht:w'.tape=w.tape)(ho:w'.os=w.os)(hp:w'.output=w.output):Sim C g U h w' where
 frz b o v e:=by have:=s.frz b o v e;unfold World.cell? at this ⊢;rw[hh];exact this
 obj k o e u:=by
  obtain⟨l,h1,h2,h3⟩:=s.obj k o e u;exact⟨l,h1,h2,h3.kw (.refl g) (by rw[hh]) (fun _ _ q=>q) (fun _ _ q=>q)⟩
 lt:=s.lt
 unb:=s.unb
 rlt:=s.rlt
 sep:=s.sep
 old b hb:=by rw[hh];exact s.old b hb
 sz:=by rw[hh];exact s.sz
 tape:=by rw[ht,s.tape]
 os:=by rw[ho,s.os]
 output:=by rw[hp,s.output]
 ini:=s.ini
theorem Sim.drew (s:Sim C g U h w):Sim C g U h w.drew:=s.heapEq rfl rfl rfl rfl
end laws
def Gh.at (g:Gh)(k n:Nat)(l:Loc):Gh:={g with ρ:=fun a b=>if a=k/\b=n then some l else g.ρ a b}
theorem Gh.at_same (g:Gh)(k n:Nat)(l:Loc):(g.at k n l).ρ k n=some l:=by simp[Gh.at]
theorem Gh.at_other (g:Gh){k n a b:Nat}(l:Loc)(h:¬ (a=k/\b=n)):(g.at k n l).ρ a b=g.ρ a b:=by simp[Gh.at,h]
theorem Gh.at_ext (g:Gh){k n:Nat}(l:Loc)(h:g.ρ k n=none):Ext g (g.at k n l):=
 ⟨fun _ _ _ e=>e,fun a b l' e=>by
  by_cases q:a=k/\b=n
  ·obtain⟨rfl,rfl⟩:=q;rw[h]at e;cases e
  ·rw[Gh.at_other g l q];exact e,rfl,fun _ _ _ _ e=>e⟩
theorem AH.get_new (h:AH)(o:fD)(k:Nat):(h.new o).get k=if k=h.z then some o else h.get k:=by
 cases h;exact Tr.get_put _ _ _ _
theorem AH.get_set (h:AH)(j:Nat)(o:fD)(k:Nat):(h.set j o).get k=if k=j then some o else h.get k:=by
 cases h;exact Tr.get_put _ _ _ _
theorem AH.ala (h:AH)(o:fD):(h.new o).z=h.z+1:=by cases h;rfl
theorem AH.alb (h:AH)(j:Nat)(o:fD):(h.set j o).z=h.z:=by cases h;rfl
theorem AH.low_new (h:AH)(o:fD):(h.new o).low=h.low:=by cases h;rfl
theorem AH.low_set (h:AH)(j:Nat)(o:fD):(h.set j o).low=rZ j h.low:=by cases h;rfl
theorem sE (a b:Nat):rZ a b=min a b:=by
 unfold rZ;cases e:Nat.ble a b with
 |true=>rw[Nat.min_eq_left (eE e)];rfl
 |false=>rw[Nat.min_eq_right (Nat.le_of_lt (pj e))];rfl
theorem acu (a b:Nat):akY a b=max a b:=by
 unfold akY;cases e:Nat.ble a b with
 |true=>rw[Nat.max_eq_right (eE e)];rfl
 |false=>rw[Nat.max_eq_left (Nat.le_of_lt (pj e))];rfl
structure Low (h h':AH):Prop where
 z:h.z<=h'.z
 low:h'.low<=h.low
 get:∀ k,k<h.z->k<h'.low->h'.get k=h.get k
theorem Low.refl (h:AH):Low h h:=⟨e_ _,e_ _,fun _ _ _=>rfl⟩
theorem Low.trans {a b c:AH}(x:Low a b)(y:Low b c):Low a c:=
 ⟨Nat.le_trans x.z y.z,Nat.le_trans y.low x.low,fun k h1 h2=>(y.get k (Nat.lt_of_lt_of_le h1 x.z) h2).trans (x.get k h1 (Nat.lt_of_lt_of_le h2 y.low))⟩
theorem Low.new (h:AH)(o:fD):Low h (h.new o):=
 ⟨by rw[AH.ala];omega,by rw[AH.low_new];exact e_ _,fun k h1 _=>by rw[AH.get_new,N_ o_]⟩
theorem Low.set (h:AH)(j:Nat)(o:fD):Low h (h.set j o):=
 ⟨by rw[AH.alb];exact e_ _,by rw[AH.low_set,sE];exact Nat.min_le_right _ _,fun k h1 h2=>by
  rw[AH.low_set,sE]at h2;have:k<j:=Nat.lt_of_lt_of_le h2 (Nat.min_le_left _ _);rw[AH.get_set,N_ o_]⟩
section steps
variable {C:Cx}{g g':Gh}{U:Nat->Option (List AV)}{h:AH}{w w':World}
theorem fB {ob:Obj}{b:Nat}(hb:b<w.heap.size):(w.alloc ob).heap[b]?=w.heap[b]?:=heap_alloc_old w ob b hb
theorem Sim.alloc (s:Sim C g U h w)(o:fD)(ob:Obj)(l:Loc)(hl:l.block=w.heap.size)(hn:lA o=0)
  (ho:OAt C (g.at h.z 0 l) (w.alloc ob) h.z l o):Ext g (g.at h.z 0 l)/\Sim C (g.at h.z 0 l) U (h.new o) (w.alloc ob):=by
 have ex:Ext g (g.at h.z 0 l):=g.at_ext l (s.rfresh 0);refine⟨ex,?_⟩;constructor
 ·intro b o v e;have e:g.F b o=some v:=e;rw[World.cell?_alloc_lt _ _ _ (s.frz_lt e)];exact s.frz b o v e
 ·intro k o' e u;rw[AH.get_new]at e;by_cases q:k=h.z
  ·subst q;rw[P_ rfl]at e;cases e;exact⟨l,by rw[hn];exact g.at_same _ _ _,by rw[hl];exact s.sz,ho⟩
  ·rw[N_ q]at e;obtain⟨l',h1,h2,h3⟩:=s.obj k o' e u;refine⟨l',ex.ρ _ _ _ h1,h2,h3.kw ex (fB h3.block_lt) (fun _ _ x=>x) fun m _ x=>?_⟩;rw[Gh.at_other g l (fun y=>q y.1)];exact x
 ·intro k o' e;rw[AH.get_new]at e;rw[AH.ala];by_cases q:k=h.z
  ·omega
  ·rw[N_ q]at e;have:=s.lt k o' e;omega
 ·intro k z e;obtain⟨h1,h2⟩:=s.unb k z e;have q:k≠h.z:=fun q=>by rw[q,s.ufresh]at e;cases e
  exact⟨by rw[AH.get_new,N_ q];exact h1,fun n=>by rw[Gh.at_other g l (fun y=>q y.1)];exact h2 n⟩
 ·intro k n l' e;rw[AH.ala];by_cases q:k=h.z/\n=0
  ·omega
  ·rw[Gh.at_other g l q]at e;have:=s.rlt k n l' e;omega
 ·intro k k' o1 o2 l1 l2 hne e1 e2 r1 r2;rw[AH.get_new]at e1 e2;by_cases q1:k=h.z
  ·by_cases q2:k'=h.z
   ·omega
   ·rw[N_ q2]at e2;rw[Gh.at_other g l (fun y=>q2 y.1)]at r2;subst q1;rw[P_ rfl]at e1;cases e1;rw[hn,Gh.at_same]at r1;cases r1;have hu:U k'=none:=by
     cases hu:U k' with
     |none=>rfl
     |some z=>rw[(s.unb k' z hu).2]at r2;cases r2
    obtain⟨l',h1,_,h3⟩:=s.obj k' o2 e2 hu;rw[h1]at r2;cases r2;have:=h3.block_lt;omega
  ·rw[N_ q1]at e1;rw[Gh.at_other g l (fun y=>q1 y.1)]at r1;by_cases q2:k'=h.z
   ·subst q2;rw[P_ rfl]at e2;cases e2;rw[hn,Gh.at_same]at r2;cases r2;have hu:U k=none:=by
     cases hu:U k with
     |none=>rfl
     |some z=>rw[(s.unb k z hu).2]at r1;cases r1
    obtain⟨l',h1,_,h3⟩:=s.obj k o1 e1 hu;rw[h1]at r1;cases r1;have:=h3.block_lt;omega
   ·rw[N_ q2]at e2;rw[Gh.at_other g l (fun y=>q2 y.1)]at r2;exact s.sep k k' o1 o2 l1 l2 hne e1 e2 r1 r2
 ·intro b hb;have hb:b<g.w0.heap.size:=hb;rw[fB (Nat.lt_of_lt_of_le hb s.sz)];exact s.old b hb
 ·have:=s.sz;show g.w0.heap.size<=_;rw[World.size_alloc];omega
 ·exact s.tape
 ·exact s.os
 ·exact s.output
 ·exact s.ini
def Gh.fz (g:Gh)(b off:Nat)(us:List Value):Gh:={g with F:=fun x o=>if x=b/\off<=o/\o<off+us.length then us[o-off]? else g.F x o}
theorem Gh.fz_at (g:Gh)(b off:Nat)(us:List Value){i:Nat}{u:Value}(e:us[i]?=some u):(g.fz b off us).F b (off+i)=some u:=by
 have hi:i<us.length:=by
  rcases Nat.lt_or_ge i us.length with x|x
  ·exact x
  ·rw[List.getElem?_eq_none x]at e;cases e
 show(if b=b/\off<=off+i/\off+i<off+us.length then us[off+i-off]? else _)=_;rw[P_ ⟨rfl,o_,o_⟩,Nat.add_sub_cancel_left];exact e
theorem Sim.allocFz (s:Sim C g U h w)(us:Array Value)(t:TypeId):
  Ext g (g.fz w.heap.size 0 us.toList)/\Sim C (g.fz w.heap.size 0 us.toList) U h (w.alloc (.cells us t (0,0))):=by
 have old:∀ b o v,g.F b o=some v->(g.fz w.heap.size 0 us.toList).F b o=g.F b o:=by
  intro b o v e;have:=s.frz_lt e;show(if _ then _ else _)=_;rw[N_ o_]
 have nb:∀ b,b<w.heap.size->∀ o,(g.fz w.heap.size 0 us.toList).F b o=g.F b o:=by
  intro b hb o;show(if _ then _ else _)=_;rw[N_ o_]
 have ex:Ext g (g.fz w.heap.size 0 us.toList):=⟨fun b o v e=>(old b o v e).trans e,fun _ _ _ e=>e,rfl,fun b o v hb e=>by rw[nb b (by have:=s.sz;omega)]at e;exact e⟩;refine⟨ex,?_⟩;constructor
 ·intro b o v e;by_cases q:b<w.heap.size
  ·rw[nb b q]at e;rw[World.cell?_alloc_lt _ _ _ q];exact s.frz b o v e
  ·have e':(if b=w.heap.size/\0<=o/\o<0+us.toList.length then us.toList[o-0]? else g.F b o)=some v:=e;by_cases q2:b=w.heap.size/\0<=o/\o<0+us.toList.length
   ·rw[P_ q2]at e';obtain⟨rfl,_,_⟩:=q2;rw[cell_of_row _ _ _ us t (0,0) (heap_alloc_new _ _)];simpa using e'
   ·rw[N_ q2]at e';exact absurd (s.frz_lt e') q
 ·intro k o e u;obtain⟨l,h1,h2,h3⟩:=s.obj k o e u;exact⟨l,h1,h2,h3.kw ex (fB h3.block_lt) (fun i v x=>by rw[nb _ h3.block_lt]at x;exact x) (fun _ _ x=>x)⟩
 ·exact s.lt
 ·exact s.unb
 ·exact s.rlt
 ·exact s.sep
 ·intro b hb;have hb:b<g.w0.heap.size:=hb;rw[fB (Nat.lt_of_lt_of_le hb s.sz)];exact s.old b hb
 ·have:=s.sz;show g.w0.heap.size<=_;rw[World.size_alloc];omega
 ·exact s.tape
 ·exact s.os
 ·exact s.output
 ·exact s.ini
def setBlk (w:World)(b:Nat)(ob:Obj):World:={w with heap:=w.heap.setIfInBounds b ob}
theorem dZ {b:Nat}{ob:Obj}(hb:b<w.heap.size):(setBlk w b ob).heap[b]?=some ob:=by simp[setBlk,hb]
theorem jG {b c:Nat}{ob:Obj}(hb:c≠b):(setBlk w b ob).heap[c]?=w.heap[c]?:=by
 show(w.heap.setIfInBounds b ob)[c]?=_;rw[Array.getElem?_setIfInBounds_ne (Ne.symm hb)]
theorem tG {b:Nat}{ob:Obj}: (setBlk w b ob).heap.size=w.heap.size:=by simp[setBlk]
theorem mn {b o:Nat}(e:w'.heap[b]?=w.heap[b]?):w'.cell? ⟨b,o,none⟩=w.cell? ⟨b,o,none⟩:=by
 unfold World.cell?;simp only[e]
theorem Sim.put (s:Sim C g U h w){k:Nat}{o o':fD}{l:Loc}{ob:Obj}(e:h.get k=some o)(hu:U k=none)(hρ:g.ρ k (lA o)=some l)
  (hg:lA o'=lA o) (ho:OAt C g (setBlk w l.block ob) k l o')
  (hF:∀ i v,g.F l.block i=some v->(setBlk w l.block ob).cell? ⟨l.block,i,none⟩=some v):Sim C g U (h.set k o') (setBlk w l.block ob):=by
 obtain⟨l0,h1,h2,h3⟩:=s.obj k o e hu;rw[hρ]at h1;cases h1;constructor
 ·intro b i v q;by_cases hb:b=l.block
  ·subst hb;exact hF i v q
  ·rw[mn (jG hb)];exact s.frz b i v q
 ·intro j p q u;rw[AH.get_set]at q;by_cases hj:j=k
  ·subst hj;rw[P_ rfl]at q;cases q;exact⟨l,by rw[hg];exact hρ,h2,ho⟩
  ·rw[N_ hj]at q;obtain⟨l',r1,r2,r3⟩:=s.obj j p q u;have:l'.block≠l.block:=s.sep j k p o l' l hj q e r1 hρ;exact⟨l',r1,r2,r3.kw (.refl g) (jG this) (fun _ _ x=>x) (fun _ _ x=>x)⟩
 ·intro j p q;rw[AH.get_set]at q;rw[AH.alb];by_cases hj:j=k
  ·subst hj;exact s.lt _ _ e
  ·rw[N_ hj]at q;exact s.lt j p q
 ·intro j z q;obtain⟨q1,q2⟩:=s.unb j z q;have hj:j≠k:=fun x=>by rw[x,hu]at q;cases q
  exact⟨by rw[AH.get_set,N_ hj];exact q1,q2⟩
 ·intro j n l' q;rw[AH.alb];exact s.rlt j n l' q
 ·intro j j' p p' m m' hne q q' r r';rw[AH.get_set]at q q';by_cases hj:j=k
  ·by_cases hj':j'=k
   ·omega
   ·rw[N_ hj']at q';subst hj;rw[P_ rfl]at q;cases q;rw[hg]at r;exact s.sep j j' o p' m m' hne e q' r r'
  ·rw[N_ hj]at q;by_cases hj':j'=k
   ·subst hj';rw[P_ rfl]at q';cases q';rw[hg]at r';exact s.sep j j' p o m m' hne q e r r'
   ·rw[N_ hj']at q';exact s.sep j j' p p' m m' hne q q' r r'
 ·intro b hb;rw[jG o_];exact s.old b hb
 ·rw[tG];exact s.sz
 ·exact s.tape
 ·exact s.os
 ·exact s.output
 ·exact s.ini
end steps
