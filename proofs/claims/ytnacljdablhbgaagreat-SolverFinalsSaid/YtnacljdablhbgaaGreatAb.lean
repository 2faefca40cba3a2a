/- AbsGo: how the evaluator's values and memory stand for the model's (definitions and first laws; no condition). -/
import Derived.Test.YtnacljdablhbgaaGreatAa
import Derived.Control
import Derived.Laws.Sem
import Derived.Laws.World
import Derived.Laws.Rows
import Derived.Laws.Cells
namespace Go.AG
structure Loc where
 block:Nat
 base:Nat
 cap:Nat
 sz:Nat
structure Gh where
 F:Nat->Nat->Option Value
 ρ:Nat->Nat->Option Loc
 w0:World
structure Ext (g g':Gh):Prop where
 F:∀b o v,g.F b o=some v->g'.F b o=some v
 ρ:∀k n l,g.ρ k n=some l->g'.ρ k n=some l
 w0:g'.w0=g.w0
 old:∀b o v,b<g.w0.heap.size->g'.F b o=some v->g.F b o=some v
theorem Ext.refl (g:Gh):Ext g g:=⟨fun _ _ _ h=>h,fun _ _ _ h=>h,rfl,fun _ _ _ _ h=>h⟩
theorem Ext.trans {a b c:Gh}(h:Ext a b)(k:Ext b c):Ext a c:=
 ⟨fun x y v e=>k.F x y v (h.F x y v e),fun x y l e=>k.ρ x y l (h.ρ x y l e),k.w0.trans h.w0,fun x y v hb e=>h.old x y v hb (k.old x y v (by rw[h.w0];exact hb) e)⟩
mutual
inductive bu (g:Gh):AV->Value->Prop
 |bool (b:Bool):bu g (.bool b) (.bool b)
 |int (k:IntKind) (n:Int):bu g (.int k n) (.int k n)
 |str (s:ByteArray):bu g (.str s) (.string s)
 |nilp:bu g .nilp (.pointer none)
 |ptr {k n off:Nat} {l:Loc} (h:g.ρ k n=some l):bu g (.ptr k n off) (.pointer (some ⟨l.block,l.base+off,none⟩))
 |vptr {v:AV} {b off:Nat} (hc:aO v.cells=true) (h:fm g b off v.cells):bu g (.vptr v) (.pointer (some ⟨b,off,none⟩))
 |nl:bu g .nl (.slice none 0 0)
 |ls {es:List AV} {sz b off n cap:Nat} (hs:∀e∈es,e.cells.length=sz) (ha:aO (flat es)=true) (hn:n=es.length) (hl:es.length<=cap)
   (h:fm g b off (flat es)):bu g (.ls es) (.slice (some ⟨b,off,none⟩) n cap)
 |lst0 {a:Option Addr} {cap:Nat} : bu g (.ls []) (.slice a 0 cap)
 |clip {es:List AV} {sz b off n cap:Nat} (hs:∀e∈es,e.cells.length=sz) (ha:aO (flat es)=true) (hn:n=es.length) (hl:es.length=cap)
   (h:fm g b off (flat es)):bu g (.clip es) (.slice (some ⟨b,off,none⟩) n cap)
 |clip0 {a:Option Addr} : bu g (.clip []) (.slice a 0 0)
 |row {k n sz off len:Nat} {l:Loc} (h:g.ρ k n=some l) (hs:l.sz=sz) (hl:off+len<=l.cap) :
   bu g (.row k n sz off len) (.slice (some ⟨l.block,l.base+off*sz,none⟩) len (l.cap-off))
 |row0 {k n sz off:Nat} {l:Loc} {a:Option Addr} (h:g.ρ k n=some l) (hs:l.sz=sz) (hl:off=l.cap):bu g (.row k n sz off 0) (.slice a 0 0)
 |nilm:bu g .nilm (.map none)
 |map {k:Nat} {l:Loc} (h:g.ρ k 0=some l):bu g (.map k) (.map (some l.block))
 |fn {f:FuncId} {a b:List AV} {x y:List Value} (h:aR g a x) (h':aR g b y):bu g (.fn f a b) (.func (.func f) ⟨x⟩ ⟨y⟩)
 |yld {k:Nat} {l:Loc} (h:g.ρ k 0=some l):bu g (.yld k) (.func (.yield l.block) #[] #[])
 |nilf:bu g .nilf .nilFunc
 |ifc {t:TypeId} {v:AV} {u:Value} (h:bu g v u):bu g (.ifc t v) (.iface t u)
 |nili:bu g .nili .nilIface
 |agg {cs:List AV} {us:List Value} (hc:aO cs=true) (h:aR g cs us):bu g (.agg cs) (.agg ⟨us⟩)
 |tup {cs:List AV} {us:List Value} (h:aR g cs us):bu g (.tup cs) (.tuple ⟨us⟩)
 |any (u:Value):bu g .any u
inductive aR (g:Gh):List AV->List Value->Prop
 |nil:aR g [] []
 |cons {a:AV} {u:Value} {l:List AV} {us:List Value} (h:bu g a u) (t:aR g l us):aR g (a::l) (u::us)
inductive fm (g:Gh):Nat->Nat->List AV->Prop
 |nil (b off:Nat):fm g b off []
 |cons {b off:Nat} {a:AV} {l:List AV} {u:Value} (hu:g.F b off=some u) (h:bu g a u) (t:fm g b (off+1) l):fm g b off (a::l)
end
mutual
theorem bu.mono {g g':Gh}(e:Ext g g'):∀{a:AV} {u:Value},bu g a u->bu g' a u
 |_,_,.bool b=>.bool b
 |_,_,.int k n=>.int k n
 |_,_,.str s=>.str s
 |_,_,.nilp=>.nilp
 |_,_,.ptr h=>.ptr (e.ρ _ _ _ h)
 |_,_,.vptr hc h=>.vptr hc (fm.mono e h)
 |_,_,.nl=>.nl
 |_,_,.ls hs ha hn hl h=>.ls hs ha hn hl (fm.mono e h)
 |_,_,.lst0=>.lst0
 |_,_,.clip hs ha hn hl h=>.clip hs ha hn hl (fm.mono e h)
 |_,_,.clip0=>.clip0
 |_,_,.row h hs hl=>.row (e.ρ _ _ _ h) hs hl
 |_,_,.row0 h hs hl=>.row0 (e.ρ _ _ _ h) hs hl
 |_,_,.nilm=>.nilm
 |_,_,.map h=>.map (e.ρ _ _ _ h)
 |_,_,.fn h h'=>.fn (aR.mono e h) (aR.mono e h')
 |_,_,.yld h=>.yld (e.ρ _ _ _ h)
 |_,_,.nilf=>.nilf
 |_,_,.ifc h=>.ifc (bu.mono e h)
 |_,_,.nili=>.nili
 |_,_,.agg hc h=>.agg hc (aR.mono e h)
 |_,_,.tup h=>.tup (aR.mono e h)
 |_,_,.any u=>.any u
theorem aR.mono {g g':Gh}(e:Ext g g'):∀{a:List AV} {u:List Value},aR g a u->aR g' a u
 |_,_,.nil=>.nil
 |_,_,.cons h t=>.cons (bu.mono e h) (aR.mono e t)
theorem fm.mono {g g':Gh}(e:Ext g g'):∀{b off:Nat} {l:List AV},fm g b off l->fm g' b off l
 |_,_,_,.nil b off=>.nil b off
 |_,_,_,.cons hu h t=>.cons (e.F _ _ _ hu) (bu.mono e h) (fm.mono e t)
end
section lists
variable {g:Gh}
theorem aR.length:∀{a:List AV} {u:List Value},aR g a u->a.length=u.length
 |_,_,.nil=>rfl
 |_,_,.cons _ t=>by simp[aR.length t]
theorem aR.append:∀{a b:List AV} {u v:List Value},aR g a u->aR g b v->aR g (a++b) (u++v)
 |_,_,_,_,.nil,h=>h
 |_,_,_,_,.cons h t,k=>.cons h (aR.append t k)
theorem aR.get:∀{a:List AV} {u:List Value} {i:Nat} {x:AV},aR g a u->a[i]?=some x->∃y,u[i]?=some y/\bu g x y
 |_,_,i,x,.nil,h=>by simp at h
 |_,_,0,x,.cons h t,k=>by simp at k;subst k;exact⟨_,rfl,h⟩
 |_,_,i+1,x,.cons h t,k=>by
  obtain⟨y,hy,r⟩:=aR.get (i:=i) (x:=x) t (by simpa using k);exact⟨y,by simpa using hy,r⟩
theorem aR.get' {a:List AV}{u:List Value}{i:Nat}{y:Value}(h:aR g a u)(k:u[i]?=some y):∃x,a[i]?=some x/\bu g x y:=by
 have hi:i<u.length:=by
  rcases Nat.lt_or_ge i u.length with x|x
  ·exact x
  ·rw[List.getElem?_eq_none x]at k;cases k
 have hi':i<a.length:=by rw[h.length];exact hi
 obtain⟨y',hy,r⟩:=h.get (wO hi');rw[k]at hy;cases hy;exact⟨_,wO hi',r⟩
theorem aR.drop:∀(n:Nat) {a:List AV} {u:List Value},aR g a u->aR g (a.drop n) (u.drop n)
 |0,_,_,h=>h
 |_+1,_,_,.nil=>.nil
 |n+1,_,_,.cons _ t=>aR.drop n t
theorem aR.take:∀(n:Nat) {a:List AV} {u:List Value},aR g a u->aR g (a.take n) (u.take n)
 |0,_,_,_=>by simp;exact .nil
 |_+1,_,_,.nil=>.nil
 |n+1,_,_,.cons h t=>.cons h (aR.take n t)
theorem aR.over:∀{vs:List AV} {ws:List Value},aR g vs ws->∀{cs:List AV} {us:List Value},aR g cs us->aR g (AG.over vs cs) (AG.over ws us)
 |_,_,.nil,_,_,h=>h
 |_,_,.cons _ _,_,_,.nil=>.nil
 |_,_,.cons h t,_,_,.cons _ k=>.cons h (aR.over t k)
theorem aR.setR {vs:List AV}{ws:List Value}(h:aR g vs ws):∀(off:Nat) {cs:List AV} {us:List Value},aR g cs us->aR g (AG.setR off vs cs) (AG.setR off ws us)
 |0,_,_,k=>aR.over h k
 |_+1,_,_,.nil=>.nil
 |n+1,_,_,.cons x t=>.cons x (aR.setR h n t)
theorem fm.vals:∀{b off:Nat} {l:List AV},fm g b off l->∃us,aR g l us/\∀i u,us[i]?=some u->g.F b (off+i)=some u
 |_,_,_,.nil b off=>⟨[],.nil,fun i u h=>by simp at h⟩
 |b,off,_,.cons hu h t=>by
  obtain⟨us,hr,hF⟩:=fm.vals t;refine⟨_::us,.cons h hr,fun i u hi=>?_⟩;cases i with
  |zero=>simp at hi;subst hi;exact hu
  |succ i=>have:=hF i u (by simpa using hi);rw[show off+(i+1)=off+1+i by omega];exact this
theorem fm.mk:∀{l:List AV} {us:List Value} {b off:Nat},aR g l us->(∀i u,us[i]?=some u->g.F b (off+i)=some u)->fm g b off l
 |_,_,b,off,.nil,_=>.nil b off
 |_,_,b,off,.cons h t,hF=>.cons (by simpa using hF 0 _ rfl) h (fm.mk t fun i u hi=>by
   have:=hF (i+1) u (by simpa using hi);rw[show off+(i+1)=off+1+i by omega]at this;exact this)
theorem fm.left {b off:Nat}{l m:List AV}(h:fm g b off (l++m)):fm g b off l:=by
 obtain⟨us,hr,hF⟩:=h.vals;have h1:=hr.take l.length;rw[List.take_left'  rfl]at h1;refine fm.mk h1 fun i u hi=>hF i u ?_
 rw[List.getElem?_take]at hi;split at hi
 ·exact hi
 ·cases hi
theorem fm.right {b off:Nat}{l m:List AV}(h:fm g b off (l++m)):fm g b (off+l.length) m:=by
 obtain⟨us,hr,hF⟩:=h.vals;have h1:=hr.drop l.length;rw[List.drop_left' rfl]at h1;refine fm.mk h1 fun i u hi=>?_
 rw[List.getElem?_drop]at hi;have:=hF _ u hi;rw[<-Nat.add_assoc]at this;exact this
theorem fm.sub {b off:Nat}{l:List AV}(h:fm g b off l)(n m:Nat)(hn:n<=l.length):fm g b (off+n) ((l.drop n).take m):=by
 have e:l=l.take n++((l.drop n).take m++(l.drop n).drop m):=by rw[List.take_append_drop,List.take_append_drop]
 rw[e]at h;have h1:=h.right;rw[List.length_take,Nat.min_eq_left hn]at h1;exact h1.left
end lists
theorem bu.oneCell {g:Gh}{a:AV}{u:Value}(h:bu g a u)(hc:a.isCell=true):u.oneCell'=true:=by
 cases h<;>first|rfl|(simp[AV.isCell]at hc)
theorem bu.fine {g:Gh}{a:AV}{u:Value}(h:bu g a u)(hl:a.lies=true):aO a.cells=true:=by
 cases h<;>first|rfl|assumption|(simp[AV.lies]at hl)
theorem bu.cells {g:Gh}{a:AV}{u:Value}(h:bu g a u)(hl:a.lies=true):aR g a.cells u.cells.toList:=by
 cases h
 case agg hc h=>exact h
 case tup h=>simp[AV.lies]at hl
 case any=>simp[AV.lies]at hl
 all_goals exact .cons (by constructor<;>assumption) .nil
section inv
variable {g:Gh}{u:Value}
theorem bu.bool_inv {b:Bool}(h:bu g (.bool b) u):u=.bool b:=by cases h;rfl
theorem bu.int_inv {k:IntKind}{n:Int}(h:bu g (.int k n) u):u=.int k n:=by cases h;rfl
theorem bu.str_inv {s:ByteArray}(h:bu g (.str s) u):u=.string s:=by cases h;rfl
theorem bu.nilp_inv (h:bu g .nilp u):u=.pointer none:=by cases h;rfl
theorem bu.ptr_inv {k n off:Nat}(h:bu g (.ptr k n off) u):∃l,g.ρ k n=some l/\u=.pointer (some ⟨l.block,l.base+off,none⟩):=by
 cases h;exact⟨_,by assumption,rfl⟩
theorem bu.vptr_inv {v:AV}(h:bu g (.vptr v) u):∃b off,aO v.cells=true/\fm g b off v.cells/\u=.pointer (some ⟨b,off,none⟩):=by
 cases h with|vptr hc h=>exact⟨_,_,hc,h,rfl⟩
theorem bu.nils_inv (h:bu g .nl u):u=.slice none 0 0:=by cases h;rfl
theorem bu.lst_inv {es:List AV}(h:bu g (.ls es) u):∃a cap,u=.slice a es.length cap/\es.length<=cap/\
  (es=[]∨∃sz b off,a=some ⟨b,off,none⟩/\(∀e∈es,e.cells.length=sz)/\aO (flat es)=true/\fm g b off (flat es)):=by
 cases h with
 |ls hs ha hn hl h=>subst hn;exact⟨_,_,rfl,hl,.inr ⟨_,_,_,rfl,hs,ha,h⟩⟩
 |lst0=>exact⟨_,_,rfl,Nat.zero_le _,.inl rfl⟩
theorem bu.clip_inv {es:List AV}(h:bu g (.clip es) u):∃a,u=.slice a es.length es.length/\
  (es=[]∨∃sz b off,a=some ⟨b,off,none⟩/\(∀e∈es,e.cells.length=sz)/\aO (flat es)=true/\fm g b off (flat es)):=by
 cases h with
 |clip hs ha hn hl h=>subst hn hl;exact⟨_,rfl,.inr ⟨_,_,_,rfl,hs,ha,h⟩⟩
 |clip0=>exact⟨_,rfl,.inl rfl⟩
theorem bu.row_inv {k n sz off m:Nat}(h:bu g (.row k n sz off m) u):∃l a,g.ρ k n=some l/\l.sz=sz/\off+m<=l.cap/\u=.slice a m (l.cap-off)/\
  (a=some ⟨l.block,l.base+off*sz,none⟩∨(m=0/\off=l.cap)):=by
 cases h with
 |row h hs hl=>exact⟨_,_,h,hs,hl,rfl,.inl rfl⟩
 |@row0 _ _ _ _ _ a h hs hl=>subst hl;exact⟨_,a,h,hs,by omega,by simp,.inr ⟨rfl,rfl⟩⟩
theorem bu.nilm_inv (h:bu g .nilm u):u=.map none:=by cases h;rfl
theorem bu.map_inv {k:Nat}(h:bu g (.map k) u):∃l,g.ρ k 0=some l/\u=.map (some l.block):=by
 cases h;exact⟨_,by assumption,rfl⟩
theorem bu.fn_inv {f:FuncId}{a b:List AV}(h:bu g (.fn f a b) u):∃x y,aR g a x/\aR g b y/\u=.func (.func f) ⟨x⟩ ⟨y⟩:=by
 cases h with|fn h h'=>exact⟨_,_,h,h',rfl⟩
theorem bu.yld_inv {k:Nat}(h:bu g (.yld k) u):∃l,g.ρ k 0=some l/\u=.func (.yield l.block) #[] #[]:=by
 cases h;exact⟨_,by assumption,rfl⟩
theorem bu.nilf_inv (h:bu g .nilf u):u=.nilFunc:=by cases h;rfl
theorem bu.ifc_inv {t:TypeId}{v:AV}(h:bu g (.ifc t v) u):∃x,bu g v x/\u=.iface t x:=by
 cases h;exact⟨_,by assumption,rfl⟩
theorem bu.nili_inv (h:bu g .nili u):u=.nilIface:=by cases h;rfl
theorem bu.agg_inv {cs:List AV}(h:bu g (.agg cs) u):∃us,aO cs=true/\aR g cs us/\u=.agg ⟨us⟩:=by
 cases h with|agg hc h=>exact⟨_,hc,h,rfl⟩
theorem bu.tup_inv {cs:List AV}(h:bu g (.tup cs) u):∃us,aR g cs us/\u=.tuple ⟨us⟩:=by
 cases h with|tup h=>exact⟨_,h,rfl⟩
end inv
structure Cx where
 P:Program
 T:Tr TypeInfo
 kw:TypeId->Bool
 ok:∀t i,T.get t=some i->P.info? t=some i
 mixed:P.follows .mixedOrders=true
def eQ (g:Gh)(tm:Tm)(tmps:Array Value):Prop:=∀i,bu g (nth tm i) (tmps.getD i undef)
inductive MN:Option AEx->Option Code->Prop
 |none:MN none none
 |ret:MN (some .ret) (some .ret)
 |exit (id:Nat):MN (some (.exit id)) (some (.exit id))
inductive lI (g:Gh):List (AV×AV)->List MapEntry->Prop
 |nil:lI g [] []
 |cons {k v:AV} {e:MapEntry} {l:List (AV×AV)} {es:List MapEntry} (hk:bu g k e.key) (hv:bu g v e.val) (t:lI g l es):lI g ((k,v)::l) (e::es)
theorem lI.mono {g g':Gh}(x:Ext g g'):∀{l:List (AV×AV)} {es:List MapEntry},lI g l es->lI g' l es
 |_,_,.nil=>.nil
 |_,_,.cons hk hv t=>.cons (hk.mono x) (hv.mono x) (lI.mono x t)
theorem eQ.mono {g g':Gh}(x:Ext g g'){tm:Tm}{a:Array Value}(h:eQ g tm a):eQ g' tm a:=fun i=>(h i).mono x
def lC:eI->Nat
 |.row n _ _ _ _=>n
 |_=>0
structure Hv (C:Cx)(g:Gh)(st:LoopState)(pend:Option AEx)(tm:Tm)(ps:List Nat)(as b:aw)(f:FuncId)(L:Loop):Prop where
 hst:L.state=st
 hpend:MN pend L.pending
 htm:eQ g tm L.tmps
 hps:L.params.toList=ps
 hfn:L.fn=f
 hcode:∃nt,nt<=L.tmps.size/\jJ L.assign C.P C.T C.kw nt=some as/\jJ L.body C.P C.T C.kw nt=some b/\ml nt ps=true
def MP (mes:Array MapEntry)(clock:Nat):Prop:=(∀x∈mes.toList,x.born<clock)/\(mes.toList.map (·.born)).Nodup
def OAt (C:Cx)(g:Gh)(w:World)(k:Nat)(l:Loc):eI->Prop
 |.box cs=>l.base=0/\∃us t,w.heap[l.block]?=some (.cells us t (0,0))/\aR g cs us.toList/\aO cs=true/\∀o v,g.F l.block o≠some v
 |.row n sz _ cs fz=>l.sz=sz/\0<sz/\∃us t,w.heap[l.block]?=some (.cells us t (0,0))/\l.base+l.cap*sz<=us.size/\cs.length<=l.cap*sz/\
   aR g cs ((us.toList.drop l.base).take cs.length)/\aO cs=true/\(∀o v,g.F l.block o=some v->o<l.base+fz)/\∀m,n<m->g.ρ k m=none
 |.map es=>∃mes clock,w.heap[l.block]?=some (.map mes clock)/\lI g es mes.toList/\MP mes clock
 |.loop st pend tm ps as b f=>∃L,w.heap[l.block]?=some (.loop L)/\Hv C g st pend tm ps as b f L
 |.dfd t=>w.heap[l.block]?=some (.deferred (cond t none (some [])))
structure Sim (C:Cx)(g:Gh)(U:Nat->Option (List AV))(h:AH)(w:World):Prop where
 frz:∀b o v,g.F b o=some v->w.cell? ⟨b,o,none⟩=some v
 obj:∀k o,h.get k=some o->U k=none->∃l,g.ρ k (lC o)=some l/\g.w0.heap.size<=l.block/\OAt C g w k l o
 lt:∀k o,h.get k=some o->k<h.z
 unb:∀k z,U k=some z->h.get k=some (.box z)/\∀n,g.ρ k n=none
 rlt:∀k n l,g.ρ k n=some l->k<h.z
 sep:∀k k' o o' l l',k≠k'->h.get k=some o->h.get k'=some o'->g.ρ k (lC o)=some l->g.ρ k' (lC o')=some l'->l.block≠l'.block
 old:∀b,b<g.w0.heap.size->w.heap[b]?=g.w0.heap[b]?
 sz:g.w0.heap.size<=w.heap.size
 tape:w.tape=g.w0.tape
 os:w.os=g.w0.os
 output:w.output=g.w0.output
section laws
variable {C:Cx}{g g':Gh}{U:Nat->Option (List AV)}{h:AH}{w w':World}
theorem OAt.block_lt {k:Nat}{l:Loc}{o:eI}(x:OAt C g w k l o):l.block<w.heap.size:=by
 have key:∀ob,w.heap[l.block]?=some ob->l.block<w.heap.size:=fun ob e=>(Array.getElem?_eq_some_iff.1 e).1
 cases o with
 |box cs=>obtain⟨_,us,t,e,_⟩:=x;exact key _ e
 |row n sz agg cs fz=>obtain⟨_,_,us,t,e,_⟩:=x;exact key _ e
 |map es=>obtain⟨mes,c,e,_⟩:=x;exact key _ e
 |loop st pend tm ps as b f=>obtain⟨L,e,_⟩:=x;exact key _ e
 |dfd t=>exact key _ x
theorem OAt.kw {k:Nat}{l:Loc}{o:eI}(x:OAt C g w k l o)(e:Ext g g')(hb:w'.heap[l.block]?=w.heap[l.block]?)
  (hF:∀i v,g'.F l.block i=some v->g.F l.block i=some v) (hρ:∀m,lC o<m->g.ρ k m=none->g'.ρ k m=none):OAt C g' w' k l o:=by
 cases o with
 |box cs=>
  obtain⟨hb0,us,t,e1,hv,ha,hn⟩:=x;exact⟨hb0,us,t,hb.trans e1,hv.mono e,ha,fun i v q=>hn i v (hF i v q)⟩
 |row n sz agg cs fz=>
  obtain⟨hs,hp,us,t,e1,h1,h2,hv,ha,hn,hr⟩:=x;exact⟨hs,hp,us,t,hb.trans e1,h1,h2,hv.mono e,ha,fun i v q=>hn i v (hF i v q),fun m hm=>hρ m hm (hr m hm)⟩
 |map es=>obtain⟨mes,c,e1,he,hB⟩:=x;exact⟨mes,c,hb.trans e1,he.mono e,hB⟩
 |loop st pend tm ps as b f=>
  obtain⟨L,e1,hL⟩:=x;exact⟨L,hb.trans e1,⟨hL.hst,hL.hpend,hL.htm.mono e,hL.hps,hL.hfn,hL.hcode⟩⟩
 |dfd t=>exact hb.trans x
theorem Sim.frz_lt (s:Sim C g U h w){b o:Nat}{v:Value}(e:g.F b o=some v):b<w.heap.size:=
 block_lt_of_cell (s.frz b o v e)
theorem Sim.fresh (s:Sim C g U h w):h.get h.z=none:=by
 cases e:h.get h.z with
 |none=>rfl
 |some o=>exact absurd (s.lt _ _ e) (Nat.lt_irrefl _)
theorem Sim.ufresh (s:Sim C g U h w):U h.z=none:=by
 cases e:U h.z with
 |none=>rfl
 |some z=>have:=(s.unb _ _ e).1;rw[s.fresh]at this;cases this
theorem Sim.rfresh (s:Sim C g U h w)(n:Nat):g.ρ h.z n=none:=by
 cases e:g.ρ h.z n with
 |none=>rfl
 |some l=>exact absurd (s.rlt _ _ _ e) (Nat.lt_irrefl _)
theorem Sim.heapEq (s:Sim C g U h w)(hh:w'.heap=w.heap)(ht:w'.tape=w.tape)(ho:w'.os=w.os)(hp:w'.output=w.output):Sim C g U h w' where
 frz b o v e:=by have:=s.frz b o v e;unfold World.cell? at this ⊢;rw[hh];exact this
 obj k o e u:=by
  obtain⟨l,h1,h2,h3⟩:=s.obj k o e u;exact⟨l,h1,h2,h3.kw (.refl g) (by rw[hh]) (fun _ _ q=>q) (fun _ _ q=>q)⟩
 lt:=s.lt
 unb:=s.unb
 rlt:=s.rlt
 sep:=s.sep
 old b hb:=by rw[hh];exact s.old b hb
 sz:=by rw[hh];exact s.sz
 tape:=by rw[ht,s.tape]
 os:=by rw[ho,s.os]
 output:=by rw[hp,s.output]
theorem Sim.drew (s:Sim C g U h w):Sim C g U h w.drew:=s.heapEq rfl rfl rfl rfl
end laws
def Gh.at (g:Gh)(k n:Nat)(l:Loc):Gh:={g with ρ:=fun a b=>if a=k/\b=n then some l else g.ρ a b}
theorem Gh.at_same (g:Gh)(k n:Nat)(l:Loc):(g.at k n l).ρ k n=some l:=by simp[Gh.at]
theorem Gh.at_other (g:Gh){k n a b:Nat}(l:Loc)(h:¬(a=k/\b=n)):(g.at k n l).ρ a b=g.ρ a b:=by simp[Gh.at,h]
theorem Gh.at_ext (g:Gh){k n:Nat}(l:Loc)(h:g.ρ k n=none):Ext g (g.at k n l):=
 ⟨fun _ _ _ e=>e,fun a b l' e=>by
  by_cases q:a=k/\b=n
  ·obtain⟨rfl,rfl⟩:=q;rw[h]at e;cases e
  ·rw[Gh.at_other g l q];exact e,rfl,fun _ _ _ _ e=>e⟩
theorem AH.get_new (h:AH)(o:eI)(k:Nat):(h.new o).get k=if k=h.z then some o else h.get k:=by
 cases h;exact Tr.get_put _ _ _ _
theorem AH.get_set (h:AH)(j:Nat)(o:eI)(k:Nat):(h.set j o).get k=if k=j then some o else h.get k:=by
 cases h;exact Tr.get_put _ _ _ _
theorem AH.ci (h:AH)(o:eI):(h.new o).z=h.z+1:=by cases h;rfl
theorem AH.co (h:AH)(j:Nat)(o:eI):(h.set j o).z=h.z:=by cases h;rfl
theorem AH.low_new (h:AH)(o:eI):(h.new o).low=h.low:=by cases h;rfl
theorem AH.low_set (h:AH)(j:Nat)(o:eI):(h.set j o).low=gz j h.low:=by cases h;rfl
theorem rM (a b:Nat):gz a b=min a b:=by
 unfold gz;cases e:Nat.ble a b with
 |true=>rw[Nat.min_eq_left (eG e)];rfl
 |false=>rw[Nat.min_eq_right (Nat.le_of_lt (lV e))];rfl
theorem Xk (a b:Nat):aeK a b=max a b:=by
 unfold aeK;cases e:Nat.ble a b with
 |true=>rw[Nat.max_eq_right (eG e)];rfl
 |false=>rw[Nat.max_eq_left (Nat.le_of_lt (lV e))];rfl
structure Low (h h':AH):Prop where
 z:h.z<=h'.z
 low:h'.low<=h.low
 get:∀k,k<h.z->k<h'.low->h'.get k=h.get k
theorem Low.refl (h:AH):Low h h:=⟨Fv _,Fv _,fun _ _ _=>rfl⟩
theorem Low.trans {a b c:AH}(x:Low a b)(y:Low b c):Low a c:=
 ⟨Nat.le_trans x.z y.z,Nat.le_trans y.low x.low,fun k h1 h2=>(y.get k (Nat.lt_of_lt_of_le h1 x.z) h2).trans (x.get k h1 (Nat.lt_of_lt_of_le h2 y.low))⟩
theorem Low.new (h:AH)(o:eI):Low h (h.new o):=
 ⟨by rw[AH.ci];omega,by rw[AH.low_new];exact Fv _,fun k h1 _=>by rw[AH.get_new,wad (by omega)]⟩
theorem Low.set (h:AH)(j:Nat)(o:eI):Low h (h.set j o):=
 ⟨by rw[AH.co];exact Fv _,by rw[AH.low_set,rM];exact Nat.min_le_right _ _,fun k h1 h2=>by
  rw[AH.low_set,rM]at h2;have:k<j:=Nat.lt_of_lt_of_le h2 (Nat.min_le_left _ _);rw[AH.get_set,wad (by omega)]⟩
section steps
variable {C:Cx}{g g':Gh}{U:Nat->Option (List AV)}{h:AH}{w w':World}
theorem fR {ob:Obj}{b:Nat}(hb:b<w.heap.size):(w.alloc ob).heap[b]?=w.heap[b]?:=heap_alloc_old w ob b hb
theorem Sim.alloc (s:Sim C g U h w)(o:eI)(ob:Obj)(l:Loc)(hl:l.block=w.heap.size)(hn:lC o=0)
  (ho:OAt C (g.at h.z 0 l) (w.alloc ob) h.z l o):Ext g (g.at h.z 0 l)/\Sim C (g.at h.z 0 l) U (h.new o) (w.alloc ob):=by
 have ex:Ext g (g.at h.z 0 l):=g.at_ext l (s.rfresh 0);refine⟨ex,?_⟩;constructor
 ·intro b o v e;have e:g.F b o=some v:=e;rw[World.cell?_alloc_lt _ _ _ (s.frz_lt e)];exact s.frz b o v e
 ·intro k o' e u;rw[AH.get_new]at e;by_cases q:k=h.z
  ·subst q;rw[wae rfl]at e;cases e;exact⟨l,by rw[hn];exact g.at_same _ _ _,by rw[hl];exact s.sz,ho⟩
  ·rw[wad q]at e;obtain⟨l',h1,h2,h3⟩:=s.obj k o' e u;refine⟨l',ex.ρ _ _ _ h1,h2,h3.kw ex (fR h3.block_lt) (fun _ _ x=>x) fun m _ x=>?_⟩;rw[Gh.at_other g l (fun y=>q y.1)];exact x
 ·intro k o' e;rw[AH.get_new]at e;rw[AH.ci];by_cases q:k=h.z
  ·omega
  ·rw[wad q]at e;have:=s.lt k o' e;omega
 ·intro k z e;obtain⟨h1,h2⟩:=s.unb k z e;have q:k≠h.z:=fun q=>by rw[q,s.ufresh]at e;cases e
  exact⟨by rw[AH.get_new,wad q];exact h1,fun n=>by rw[Gh.at_other g l (fun y=>q y.1)];exact h2 n⟩
 ·intro k n l' e;rw[AH.ci];by_cases q:k=h.z/\n=0
  ·omega
  ·rw[Gh.at_other g l q]at e;have:=s.rlt k n l' e;omega
 ·intro k k' o1 o2 l1 l2 hne e1 e2 r1 r2;rw[AH.get_new]at e1 e2;by_cases q1:k=h.z
  ·by_cases q2:k'=h.z
   ·omega
   ·rw[wad q2]at e2;rw[Gh.at_other g l (fun y=>q2 y.1)]at r2;subst q1;rw[wae rfl]at e1;cases e1;rw[hn,Gh.at_same]at r1;cases r1;have hu:U k'=none:=by
     cases hu:U k' with
     |none=>rfl
     |some z=>rw[(s.unb k' z hu).2]at r2;cases r2
    obtain⟨l',h1,_,h3⟩:=s.obj k' o2 e2 hu;rw[h1]at r2;cases r2;have:=h3.block_lt;omega
  ·rw[wad q1]at e1;rw[Gh.at_other g l (fun y=>q1 y.1)]at r1;by_cases q2:k'=h.z
   ·subst q2;rw[wae rfl]at e2;cases e2;rw[hn,Gh.at_same]at r2;cases r2;have hu:U k=none:=by
     cases hu:U k with
     |none=>rfl
     |some z=>rw[(s.unb k z hu).2]at r1;cases r1
    obtain⟨l',h1,_,h3⟩:=s.obj k o1 e1 hu;rw[h1]at r1;cases r1;have:=h3.block_lt;omega
   ·rw[wad q2]at e2;rw[Gh.at_other g l (fun y=>q2 y.1)]at r2;exact s.sep k k' o1 o2 l1 l2 hne e1 e2 r1 r2
 ·intro b hb;have hb:b<g.w0.heap.size:=hb;rw[fR (Nat.lt_of_lt_of_le hb s.sz)];exact s.old b hb
 ·have:=s.sz;show g.w0.heap.size<=_;rw[World.size_alloc];omega
 ·exact s.tape
 ·exact s.os
 ·exact s.output
def Gh.fz (g:Gh)(b off:Nat)(us:List Value):Gh:={g with F:=fun x o=>if x=b/\off<=o/\o<off+us.length then us[o-off]? else g.F x o}
theorem Gh.fz_at (g:Gh)(b off:Nat)(us:List Value){i:Nat}{u:Value}(e:us[i]?=some u):(g.fz b off us).F b (off+i)=some u:=by
 have hi:i<us.length:=by
  rcases Nat.lt_or_ge i us.length with x|x
  ·exact x
  ·rw[List.getElem?_eq_none x]at e;cases e
 show(if b=b/\off<=off+i/\off+i<off+us.length then us[off+i-off]? else _)=_;rw[wae ⟨rfl,by omega,by omega⟩,Nat.add_sub_cancel_left];exact e
theorem Sim.allocFz (s:Sim C g U h w)(us:Array Value)(t:TypeId):
  Ext g (g.fz w.heap.size 0 us.toList)/\Sim C (g.fz w.heap.size 0 us.toList) U h (w.alloc (.cells us t (0,0))):=by
 have old:∀b o v,g.F b o=some v->(g.fz w.heap.size 0 us.toList).F b o=g.F b o:=by
  intro b o v e;have:=s.frz_lt e;show(if _ then _ else _)=_;rw[wad (by omega)]
 have nb:∀b,b<w.heap.size->∀o,(g.fz w.heap.size 0 us.toList).F b o=g.F b o:=by
  intro b hb o;show(if _ then _ else _)=_;rw[wad (by omega)]
 have ex:Ext g (g.fz w.heap.size 0 us.toList):=⟨fun b o v e=>(old b o v e).trans e,fun _ _ _ e=>e,rfl,fun b o v hb e=>by rw[nb b (by have:=s.sz;omega)]at e;exact e⟩;refine⟨ex,?_⟩;constructor
 ·intro b o v e;by_cases q:b<w.heap.size
  ·rw[nb b q]at e;rw[World.cell?_alloc_lt _ _ _ q];exact s.frz b o v e
  ·have e':(if b=w.heap.size/\0<=o/\o<0+us.toList.length then us.toList[o-0]? else g.F b o)=some v:=e;by_cases q2:b=w.heap.size/\0<=o/\o<0+us.toList.length
   ·rw[wae q2]at e';obtain⟨rfl,_,_⟩:=q2;rw[cell_of_row _ _ _ us t (0,0) (heap_alloc_new _ _)];simpa using e'
   ·rw[wad q2]at e';exact absurd (s.frz_lt e') q
 ·intro k o e u;obtain⟨l,h1,h2,h3⟩:=s.obj k o e u;exact⟨l,h1,h2,h3.kw ex (fR h3.block_lt) (fun i v x=>by rw[nb _ h3.block_lt]at x;exact x) (fun _ _ x=>x)⟩
 ·exact s.lt
 ·exact s.unb
 ·exact s.rlt
 ·exact s.sep
 ·intro b hb;have hb:b<g.w0.heap.size:=hb;rw[fR (Nat.lt_of_lt_of_le hb s.sz)];exact s.old b hb
 ·have:=s.sz;show g.w0.heap.size<=_;rw[World.size_alloc];omega
 ·exact s.tape
 ·exact s.os
 ·exact s.output
def setBlk (w:World)(b:Nat)(ob:Obj):World:={w with heap:=w.heap.setIfInBounds b ob}
theorem eK {b:Nat}{ob:Obj}(hb:b<w.heap.size):(setBlk w b ob).heap[b]?=some ob:=by simp[setBlk,hb]
theorem jO {b c:Nat}{ob:Obj}(hb:c≠b):(setBlk w b ob).heap[c]?=w.heap[c]?:=by
 show(w.heap.setIfInBounds b ob)[c]?=_;rw[Array.getElem?_setIfInBounds_ne (Ne.symm hb)]
theorem tb {b:Nat}{ob:Obj}: (setBlk w b ob).heap.size=w.heap.size:=by simp[setBlk]
theorem lU {b o:Nat}(e:w'.heap[b]?=w.heap[b]?):w'.cell? ⟨b,o,none⟩=w.cell? ⟨b,o,none⟩:=by
 unfold World.cell?;simp only[e]
theorem Sim.put (s:Sim C g U h w){k:Nat}{o o':eI}{l:Loc}{ob:Obj}(e:h.get k=some o)(hu:U k=none)(hρ:g.ρ k (lC o)=some l)
  (hg:lC o'=lC o) (ho:OAt C g (setBlk w l.block ob) k l o')
  (hF:∀i v,g.F l.block i=some v->(setBlk w l.block ob).cell? ⟨l.block,i,none⟩=some v):Sim C g U (h.set k o') (setBlk w l.block ob):=by
 obtain⟨l0,h1,h2,h3⟩:=s.obj k o e hu;rw[hρ]at h1;cases h1;constructor
 ·intro b i v q;by_cases hb:b=l.block
  ·subst hb;exact hF i v q
  ·rw[lU (jO hb)];exact s.frz b i v q
 ·intro j p q u;rw[AH.get_set]at q;by_cases hj:j=k
  ·subst hj;rw[wae rfl]at q;cases q;exact⟨l,by rw[hg];exact hρ,h2,ho⟩
  ·rw[wad hj]at q;obtain⟨l',r1,r2,r3⟩:=s.obj j p q u;have:l'.block≠l.block:=s.sep j k p o l' l hj q e r1 hρ;exact⟨l',r1,r2,r3.kw (.refl g) (jO this) (fun _ _ x=>x) (fun _ _ x=>x)⟩
 ·intro j p q;rw[AH.get_set]at q;rw[AH.co];by_cases hj:j=k
  ·subst hj;exact s.lt _ _ e
  ·rw[wad hj]at q;exact s.lt j p q
 ·intro j z q;obtain⟨q1,q2⟩:=s.unb j z q;have hj:j≠k:=fun x=>by rw[x,hu]at q;cases q
  exact⟨by rw[AH.get_set,wad hj];exact q1,q2⟩
 ·intro j n l' q;rw[AH.co];exact s.rlt j n l' q
 ·intro j j' p p' m m' hne q q' r r';rw[AH.get_set]at q q';by_cases hj:j=k
  ·by_cases hj':j'=k
   ·omega
   ·rw[wad hj']at q';subst hj;rw[wae rfl]at q;cases q;rw[hg]at r;exact s.sep j j' o p' m m' hne e q' r r'
  ·rw[wad hj]at q;by_cases hj':j'=k
   ·subst hj';rw[wae rfl]at q';cases q';rw[hg]at r';exact s.sep j j' p o m m' hne q e r r'
   ·rw[wad hj']at q';exact s.sep j j' p p' m m' hne q q' r r'
 ·intro b hb;rw[jO (by omega)];exact s.old b hb
 ·rw[tb];exact s.sz
 ·exact s.tape
 ·exact s.os
 ·exact s.output
end steps
section
variable {C:Cx}{g g':Gh}{U:Nat->Option (List AV)}{h:AH}{w w':World}
theorem Sim.regen (s:Sim C g U h w){k n':Nat}{o o':eI}{l l':Loc}(e:h.get k=some o)(hu:U k=none)(hρ:g.ρ k (lC o)=some l)
  (hg:lC o'=n') (hnone:g.ρ k n'=none) (hblk:∀b,b≠l'.block->b<w.heap.size->w'.heap[b]?=w.heap[b]?) (hsz:w.heap.size<=w'.heap.size)
  (hfree:l'.block=l.block∨w.heap.size<=l'.block) (ho:OAt C (g.at k n' l') w' k l' o')
  (hF:∀i v,g.F l'.block i=some v->w'.cell? ⟨l'.block,i,none⟩=some v) (ht:w'.tape=w.tape) (hos:w'.os=w.os) (hout:w'.output=w.output) :
  Ext g (g.at k n' l')/\Sim C (g.at k n' l') U (h.set k o') w':=by
 have ex:Ext g (g.at k n' l'):=g.at_ext l' hnone;obtain⟨l0,h1,h2,h3⟩:=s.obj k o e hu;rw[hρ]at h1;cases h1;have apart:∀j p m,j≠k->h.get j=some p->g.ρ j (lC p)=some m->m.block<w.heap.size->m.block≠l'.block:=by
  intro j p m hj q r hm;rcases hfree with x|x
  ·rw[x];exact s.sep j k p o m l hj q e r hρ
  ·omega
 have live:∀j p m,h.get j=some p->g.ρ j (lC p)=some m->U j=none:=by
  intro j p m q r;cases hj:U j with
  |none=>rfl
  |some z=>rw[(s.unb j z hj).2]at r;cases r
 refine⟨ex,?_⟩;constructor
 ·intro b i v q;have q:g.F b i=some v:=q;by_cases hb:b=l'.block
  ·subst hb;exact hF i v q
  ·rw[lU (hblk b hb (s.frz_lt q))];exact s.frz b i v q
 ·intro j p q u;rw[AH.get_set]at q;by_cases hj:j=k
  ·subst hj;rw[wae rfl]at q;cases q;refine⟨l',by rw[hg];exact g.at_same _ _ _,?_,ho⟩;show g.w0.heap.size<=_;rcases hfree with x|x
   ·rw[x];exact h2
   ·have:=s.sz;omega
  ·rw[wad hj]at q;obtain⟨m,r1,r2,r3⟩:=s.obj j p q u;have:=apart j p m hj q r1 r3.block_lt;refine⟨m,ex.ρ _ _ _ r1,r2,r3.kw ex (hblk _ this r3.block_lt) (fun _ _ x=>x) fun m' _ x=>?_⟩;rw[Gh.at_other g l' (fun y=>hj y.1)];exact x
 ·intro j p q;rw[AH.get_set]at q;rw[AH.co];by_cases hj:j=k
  ·subst hj;exact s.lt _ _ e
  ·rw[wad hj]at q;exact s.lt j p q
 ·intro j z q;obtain⟨q1,q2⟩:=s.unb j z q;have hj:j≠k:=fun x=>by rw[x,hu]at q;cases q
  exact⟨by rw[AH.get_set,wad hj];exact q1,fun n=>by rw[Gh.at_other g l' (fun y=>hj y.1)];exact q2 n⟩
 ·intro j n m q;rw[AH.co];by_cases y:j=k/\n=n'
  ·rw[y.1];exact s.lt _ _ e
  ·rw[Gh.at_other g l' y]at q;exact s.rlt j n m q
 ·intro j j' p p' m m' hne q q' r r';rw[AH.get_set]at q q';by_cases hj:j=k
  ·by_cases hj':j'=k
   ·omega
   ·rw[wad hj']at q';rw[Gh.at_other g l' (fun y=>hj' y.1)]at r';subst hj;rw[wae rfl]at q;cases q;rw[hg,Gh.at_same]at r;cases r;obtain⟨m2,r1,_,r3⟩:=s.obj j' p' q' (live j' p' m' q' r');rw[r']at r1;cases r1;exact Ne.symm (apart j' p' m' hj' q' r' r3.block_lt)
  ·rw[wad hj]at q;rw[Gh.at_other g l' (fun y=>hj y.1)]at r;by_cases hj':j'=k
   ·subst hj';rw[wae rfl]at q';cases q';rw[hg,Gh.at_same]at r';cases r';obtain⟨m2,r1,_,r3⟩:=s.obj j p q (live j p m q r);rw[r]at r1;cases r1;exact apart j p m hj q r r3.block_lt
   ·rw[wad hj']at q';rw[Gh.at_other g l' (fun y=>hj' y.1)]at r';exact s.sep j j' p p' m m' hne q q' r r'
 ·intro b hb;have hb:b<g.w0.heap.size:=hb;have:b≠l'.block:=by
   rcases hfree with x|x
   ·rw[x];omega
   ·have:=s.sz;omega
  rw[hblk b this (Nat.lt_of_lt_of_le hb s.sz)];exact s.old b hb
 ·show g.w0.heap.size<=_;exact Nat.le_trans s.sz hsz
 ·rw[ht];exact s.tape
 ·rw[hos];exact s.os
 ·rw[hout];exact s.output
theorem Sim.shut (s:Sim C g U h w){k n sz fz m:Nat}{agg:Bool}{cs:List AV}{l:Loc}{us:Array Value}{t:TypeId}(e:h.get k=some (.row n sz agg cs fz))(hu:U k=none)
  (hρ:g.ρ k n=some l) (hb:w.heap[l.block]?=some (.cells us t (0,0))) :
  Ext g (g.fz l.block l.base ((us.toList.drop l.base).take m))/\Sim C (g.fz l.block l.base ((us.toList.drop l.base).take m)) U (h.set k (.row n sz agg cs (max fz m))) w:=by
 obtain⟨l0,h1,h2,h3⟩:=s.obj k _ e hu;have hρ':g.ρ k (lC (.row n sz agg cs fz))=some l:=hρ;rw[hρ']at h1;cases h1;obtain⟨hs,hp,us',t',e1,q1,q2,hv,ha,hn,hr⟩:=h3;rw[hb]at e1;cases e1;have cell:∀i,w.cell? ⟨l.block,i,none⟩=us.toList[i]?:=fun i=>by rw[cell_of_row _ _ _ us t (0,0) hb];simp
 obtain⟨vs,hvs⟩:∃vs,vs=(us.toList.drop l.base).take m:=⟨_,rfl⟩
 rw[<-hvs];have vlen:vs.length<=m:=by rw[hvs];simp;omega
 have val:∀i,l.base<=i->i<l.base+vs.length->vs[i-l.base]?=us.toList[i]?:=by
  intro i hi1 hi2;rw[hvs,List.getElem?_take,wae (by omega),List.getElem?_drop];congr 1;omega
 have Fat:∀b i,(g.fz l.block l.base vs).F b i=if b=l.block/\l.base<=i/\i<l.base+vs.length then vs[i-l.base]? else g.F b i:=fun _ _=>rfl
 have ex:Ext g (g.fz l.block l.base vs):=by
  refine⟨fun b i v q=>?_,fun _ _ _ q=>q,rfl,fun b i v hb' q=>by rw[Fat,wad (fun x=>by have:=x.1;omega)]at q;exact q⟩;rw[Fat];split
  ·rename_i x;obtain⟨rfl,x1,x2⟩:=x;rw[val i x1 x2,<-cell];exact s.frz _ i v q
  ·exact q
 have nb:∀b,b≠l.block->∀i,(g.fz l.block l.base vs).F b i=g.F b i:=fun b hb' i=>by rw[Fat,wad (fun x=>hb' x.1)]
 refine⟨ex,?_⟩;constructor
 ·intro b i v q;rw[Fat]at q;split at q
  ·rename_i x;obtain⟨rfl,x1,x2⟩:=x;rw[val i x1 x2]at q;rw[cell];exact q
  ·exact s.frz b i v q
 ·intro j p q u;rw[AH.get_set]at q;by_cases hj:j=k
  ·subst hj;rw[wae rfl]at q;cases q;refine⟨l,hρ,h2,hs,hp,us,t,hb,q1,q2,hv.mono ex,ha,fun i v y=>?_,hr⟩;rw[Fat]at y;have:=Nat.le_max_left fz m;have:=Nat.le_max_right fz m;split at y
   ·rename_i x;omega
   ·have:=hn i v y;omega
  ·rw[wad hj]at q;obtain⟨m',r1,r2,r3⟩:=s.obj j p q u;have:=s.sep j k p _ m' l hj q e r1 hρ;exact⟨m',r1,r2,r3.kw ex rfl (fun i v x=>by rw[nb _ this]at x;exact x) (fun _ _ x=>x)⟩
 ·intro j p q;rw[AH.get_set]at q;rw[AH.co];by_cases hj:j=k
  ·subst hj;exact s.lt _ _ e
  ·rw[wad hj]at q;exact s.lt j p q
 ·intro j z q;obtain⟨y1,y2⟩:=s.unb j z q;have hj:j≠k:=fun x=>by rw[x,hu]at q;cases q
  exact⟨by rw[AH.get_set,wad hj];exact y1,y2⟩
 ·intro j n' l' q;rw[AH.co];exact s.rlt j n' l' q
 ·intro j j' p p' m' m'' hne q q' r r';rw[AH.get_set]at q q';by_cases hj:j=k
  ·by_cases hj':j'=k
   ·omega
   ·rw[wad hj']at q';subst hj;rw[wae rfl]at q;cases q;exact s.sep j j' _ p' m' m'' hne e q' r r'
  ·rw[wad hj]at q;by_cases hj':j'=k
   ·subst hj';rw[wae rfl]at q';cases q';exact s.sep j j' p _ m' m'' hne q e r r'
   ·rw[wad hj']at q';exact s.sep j j' p p' m' m'' hne q q' r r'
 ·exact s.old
 ·exact s.sz
 ·exact s.tape
 ·exact s.os
 ·exact s.output
theorem Sim.promise (s:Sim C g U h w)(z:List AV):Sim C g (fun k=>if k=h.z then some z else U k) (h.new (.box z)) w:=by
 constructor
 ·exact s.frz
 ·intro k o e u;by_cases q:k=h.z
  ·simp[q]at u
  ·simp only[q,if_false]at u;rw[AH.get_new,wad q]at e;exact s.obj k o e u
 ·intro k o e;rw[AH.get_new]at e;rw[AH.ci];by_cases q:k=h.z
  ·omega
  ·rw[wad q]at e;have:=s.lt k o e;omega
 ·intro k z' e;by_cases q:k=h.z
  ·subst q;simp only[if_true]at e;cases e;exact⟨by rw[AH.get_new,wae rfl],s.rfresh⟩
  ·simp only[q,if_false]at e;obtain⟨h1,h2⟩:=s.unb k z' e;exact⟨by rw[AH.get_new,wad q];exact h1,h2⟩
 ·intro k n l e;rw[AH.ci];have:=s.rlt k n l e;omega
 ·intro k k' o o' l l' hne e e' r r';rw[AH.get_new]at e e';by_cases q:k=h.z
  ·subst q;rw[s.rfresh]at r;cases r
  ·by_cases q':k'=h.z
   ·subst q';rw[s.rfresh]at r';cases r'
   ·rw[wad q]at e;rw[wad q']at e';exact s.sep k k' o o' l l' hne e e' r r'
 ·exact s.old
 ·exact s.sz
 ·exact s.tape
 ·exact s.os
 ·exact s.output
theorem Sim.birth (s:Sim C g U h w){k:Nat}{z:List AV}(e:U k=some z)(us:Array Value)(t:TypeId)(hv:aR g z us.toList)(ha:aO z=true):
  Ext g (g.at k 0 ⟨w.heap.size,0,0,0⟩)/\Sim C (g.at k 0 ⟨w.heap.size,0,0,0⟩) (fun j=>if j=k then none else U j) h (w.alloc (.cells us t (0,0))):=by
 obtain⟨hk,hnone⟩:=s.unb k z e;have ex:Ext g (g.at k 0 ⟨w.heap.size,0,0,0⟩):=g.at_ext _ (hnone 0);have live:∀j p m,h.get j=some p->g.ρ j (lC p)=some m->U j=none:=by
  intro j p m q r;cases hj:U j with
  |none=>rfl
  |some z=>rw[(s.unb j z hj).2]at r;cases r
 refine⟨ex,?_⟩;constructor
 ·intro b o v q;have q:g.F b o=some v:=q;rw[World.cell?_alloc_lt _ _ _ (s.frz_lt q)];exact s.frz b o v q
 ·intro j p q u;by_cases hj:j=k
  ·subst hj;rw[hk]at q;cases q;refine⟨_,g.at_same _ _ _,s.sz,rfl,us,t,heap_alloc_new _ _,hv.mono ex,ha,fun o v y=>?_⟩;have y:g.F w.heap.size o=some v:=y;exact absurd (s.frz_lt y) (Nat.lt_irrefl _)
  ·simp only[hj,if_false]at u;obtain⟨l,r1,r2,r3⟩:=s.obj j p q u;refine⟨l,ex.ρ _ _ _ r1,r2,r3.kw ex (fR r3.block_lt) (fun _ _ x=>x) fun m _ x=>?_⟩;rw[Gh.at_other g _ (fun y=>hj y.1)];exact x
 ·exact s.lt
 ·intro j z' q;by_cases hj:j=k
  ·simp[hj]at q
  ·simp only[hj,if_false]at q;obtain⟨h1,h2⟩:=s.unb j z' q;exact⟨h1,fun n=>by rw[Gh.at_other g _ (fun y=>hj y.1)];exact h2 n⟩
 ·intro j n l q;by_cases y:j=k/\n=0
  ·rw[y.1];exact s.lt _ _ hk
  ·rw[Gh.at_other g _ y]at q;exact s.rlt j n l q
 ·intro j j' p p' m m' hne q q' r r';by_cases hj:j=k
  ·by_cases hj':j'=k
   ·omega
   ·rw[Gh.at_other g _ (fun y=>hj' y.1)]at r';subst hj;rw[hk]at q;cases q;have r:(g.at j 0 ⟨w.heap.size,0,0,0⟩).ρ j 0=some m:=r;rw[Gh.at_same]at r;cases r;obtain⟨m2,r1,_,r3⟩:=s.obj j' p' q' (live j' p' m' q' r');rw[r']at r1;cases r1;have:=r3.block_lt;show w.heap.size≠m'.block;omega
  ·rw[Gh.at_other g _ (fun y=>hj y.1)]at r;by_cases hj':j'=k
   ·subst hj';rw[hk]at q';cases q';have r':(g.at j' 0 ⟨w.heap.size,0,0,0⟩).ρ j' 0=some m':=r';rw[Gh.at_same]at r';cases r';obtain⟨m2,r1,_,r3⟩:=s.obj j p q (live j p m q r);rw[r]at r1;cases r1;have:=r3.block_lt;show m.block≠w.heap.size;omega
   ·rw[Gh.at_other g _ (fun y=>hj' y.1)]at r';exact s.sep j j' p p' m m' hne q q' r r'
 ·intro b hb;have hb:b<g.w0.heap.size:=hb;rw[fR (Nat.lt_of_lt_of_le hb s.sz)];exact s.old b hb
 ·have:=s.sz;show g.w0.heap.size<=_;rw[World.size_alloc];omega
 ·exact s.tape
 ·exact s.os
 ·exact s.output
structure nO (n:Nat)(U U':Nat->Option (List AV)):Prop where
 kw:∀k,k<n->U' k=U k
theorem nO.refl (n:Nat)(U:Nat->Option (List AV)):nO n U U:=⟨fun _ _=>rfl⟩
theorem nO.trans {n m:Nat}{U V W:Nat->Option (List AV)}(h:nO n U V)(k:nO m V W)(hnm:n<=m):nO n U W:=
 ⟨fun j hj=>(k.kw j (Nat.lt_of_lt_of_le hj hnm)).trans (h.kw j hj)⟩
def Bg (g:Gh)(h:AH)(base b:Nat):Prop:=b<g.w0.heap.size∨∃k o l,k<base/\h.get k=some o/\g.ρ k (lC o)=some l/\l.block=b
open Classical in
noncomputable def Gh.leave (g:Gh)(h:AH)(base:Nat)(w:World):Gh:=
 {g with F:=fun b o=>if Bg g h base b then g.F b o else w.cell? ⟨b,o,none⟩}
theorem Gh.leave_owned {base b:Nat}(x:Bg g h base b)(o:Nat):(g.leave h base w).F b o=g.F b o:=by
 simp only[Gh.leave,x,if_true]
theorem Gh.leave_free {base b:Nat}(x:¬Bg g h base b)(o:Nat):(g.leave h base w).F b o=w.cell? ⟨b,o,none⟩:=by
 simp only[Gh.leave,x,if_false]
theorem Sim.leave_ext (s:Sim C g U h w)(base:Nat):Ext g (g.leave h base w):=by
 refine⟨fun b o v e=>?_,fun _ _ _ e=>e,rfl,fun b o v hb e=>by rw[Gh.leave_owned (.inl hb)]at e;exact e⟩;by_cases x:Bg g h base b
 ·rw[Gh.leave_owned x];exact e
 ·rw[Gh.leave_free x];exact s.frz b o v e
theorem Sim.leave (s:Sim C g U h w){h0:AH}(hn:h0.z<=h.z)(low:Nat)(hlt:∀k o,h0.get k=some o->k<h0.z)(hsame:∀k,k<h0.z->h.get k=h0.get k):
  Sim C (g.leave h h0.z w) (fun k=>if k<h0.z then U k else none) ⟨h.z,low,h0.objs⟩ w:=by
 have get0:∀k o,(⟨h.z,low,h0.objs⟩:AH).get k=some o->k<h0.z/\h.get k=some o:=by
  intro k o e;have e:h0.get k=some o:=e;exact⟨hlt k o e,by rw[hsame k (hlt k o e)];exact e⟩
 constructor
 ·intro b o v e;by_cases x:Bg g h h0.z b
  ·rw[Gh.leave_owned x]at e;exact s.frz b o v e
  ·rw[Gh.leave_free x]at e;exact e
 ·intro k o e u;obtain⟨h1,h2⟩:=get0 k o e;simp only[h1,if_true]at u;obtain⟨l,r1,r2,r3⟩:=s.obj k o h2 u;refine⟨l,r1,r2,r3.kw (s.leave_ext _) rfl (fun i v x=>?_) (fun _ _ x=>x)⟩;rw[Gh.leave_owned (.inr ⟨k,o,l,h1,h2,r1,rfl⟩)]at x;exact x
 ·intro k o e;have:=(get0 k o e).1;show k<h.z;omega
 ·intro k z e;by_cases q:k<h0.z
  ·simp only[q,if_true]at e;obtain⟨h1,h2⟩:=s.unb k z e;exact⟨(hsame k q).symm.trans h1,h2⟩
  ·simp[q]at e
 ·exact s.rlt
 ·intro k k' o o' l l' hne e e' r r';exact s.sep k k' o o' l l' hne (get0 k o e).2 (get0 k' o' e').2 r r'
 ·exact s.old
 ·exact s.sz
 ·exact s.tape
 ·exact s.os
 ·exact s.output
end
section types
variable {C:Cx}{w:World}
theorem Pw {t:TypeId}{d:TypeDesc}(h:und C.T t=some d):C.P.underlying t=some d:=by
 obtain⟨i,hi,h⟩:=ah h;have hp:=C.ok t i hi;unfold Program.underlying;rw[hp];obtain⟨desc,_,_,_,_,_,_,_,_,_⟩:=i;cases desc with
 |named n u=>
  obtain⟨j,hj,h⟩:=ah (o:=C.T.get u) h;cases h;simp[C.ok u j hj]
 |_=>cases h;rfl
theorem XB {t:TypeId}{i:TypeInfo}(h:C.T.get t=some i):C.P.info? t=some i:=C.ok t i h
theorem bh {t:TypeId}{d:TypeDesc}(h:und C.T t=some d):(underlying t).run C.P w=.ok d w:=by
 simp[underlying,Pw h]
theorem iC {t:TypeId}{i:TypeInfo}(h:C.T.get t=some i):(typeInfo t).run C.P w=.ok i w:=by
 simp[typeInfo,XB h]
theorem lY {t:TypeId}{n:Nat}(h:szT C.T t=some n):∃i d,C.T.get t=some i/\i.size=n/\und C.T t=some d:=by
 obtain⟨i,hi,h⟩:=ah h;obtain⟨d,hd,h⟩:=ah h;cases h;exact⟨i,d,hi,rfl,by unfold und;rw[Pc hi];exact hd⟩
theorem bU {t:TypeId}{n:Nat}(h:szT C.T t=some n):(sizeOf t).run C.P w=.ok n w:=by
 obtain⟨i,d,hi,rfl,_⟩:=lY h;simp[sizeOf,iC hi]
theorem mh {t:TypeId}{d:TypeDesc}(h:und C.T t=some d):(isAgg t).run C.P w=.ok (cn C.T t) w:=by
 have e:cn C.T t=aggD d:=by unfold cn;rw[h]
 rw[e];simp only[isAgg,Sem.run_bind,bh h,Result.andThen_ok];cases d<;>rfl
theorem xy {t:TypeId}{n:Nat}(h:szT C.T t=some n):(isAgg t).run C.P w=.ok (cn C.T t) w:=by
 obtain⟨_,d,_,_,hd⟩:=lY h;exact mh hd
mutual
theorem uO (g:Gh):∀{v:Value} {a:AV},ofV v=some a->bu g a v
 |.bool b,a,h=>by cases h;exact .bool b
 |.int k n,a,h=>by cases h;exact .int k n
 |.float _ _,a,h=>by cases h
 |.complex _ _ _,a,h=>by cases h
 |.string s,a,h=>by cases h;exact .str s
 |.pointer none,a,h=>by cases h;exact .nilp
 |.pointer (some _),a,h=>by cases h
 |.slice none l c,a,h=>by
  have h:(bif Nat.beq l 0&&Nat.beq c 0 then some AV.nl else none)=some a:=h;obtain⟨h1,h2⟩:=aH h;obtain⟨h3,h4⟩:=dd h1;cases h2;rw[beq_eq h3,beq_eq h4];exact .nl
 |.slice (some _) l c,a,h=>by cases h
 |.map none,a,h=>by cases h;exact .nilm
 |.map (some _),a,h=>by cases h
 |.chan _,a,h=>by cases h
 |.func f x y,a,h=>by
  have h:ofFn f x y=some a:=h;cases f with
  |func f=>
   have h:(bif Nat.beq x.toList.length 0&&Nat.beq y.toList.length 0 then some (AV.fn f [] []) else none)=some a:=h;obtain⟨h1,h2⟩:=aH h;obtain⟨h3,h4⟩:=dd h1;cases h2;obtain⟨x⟩:=x;obtain⟨y⟩:=y;have h3:=List.length_eq_zero_iff.1 (beq_eq h3);have h4:=List.length_eq_zero_iff.1 (beq_eq h4);simp only at h3 h4;subst h3 h4;exact .fn .nil .nil
  |_=>cases h
 |.nilFunc,a,h=>by cases h;exact .nilf
 |.iface t v,a,h=>by
  have h:aq (ofV v) (fun a=>some (AV.ifc t a))=some a:=h;obtain⟨b,hb,h⟩:=ah h;cases h;exact .ifc (uO g hb)
 |.nilIface,a,h=>by cases h;exact .nili
 |.agg ⟨cs⟩,a,h=>by
  have h:aq (MH cs) (fun l=>bif aO l then some (AV.agg l) else none)=some a:=h;obtain⟨b,hb,h⟩:=ah h;obtain⟨hc,h⟩:=aH h;cases h;exact .agg hc (vr g hb)
 |.tuple ⟨cs⟩,a,h=>by
  have h:aq (MH cs) (fun l=>some (AV.tup l))=some a:=h;obtain⟨b,hb,h⟩:=ah h;cases h;exact .tup (vr g hb)
theorem vr (g:Gh):∀{v:List Value} {a:List AV},MH v=some a->aR g a v
 |[],a,h=>by cases h;exact .nil
 |x::l,a,h=>by
  have h:aq (ofV x) (fun a=>aq (MH l) fun r=>some (a::r))=some a:=h;obtain⟨b,hb,h⟩:=ah h;obtain⟨r,hr,h⟩:=ah h;cases h;exact .cons (uO g hb) (vr g hr)
end
theorem iM (g:Gh){t:TypeId}{v:AV}(h:jS C.T t=some v):
  ∃i z,C.T.get t=some i/\i.zero=some z/\bu g v z/\v.cells.length=i.size/\aO v.cells=true/\v.isAgg=cn C.T t:=by
 obtain⟨i,hi,h⟩:=ah h;obtain⟨z,hz,h⟩:=ah h;obtain⟨v',hv,h⟩:=ah h;obtain⟨hc,h⟩:=aH h;cases h;obtain⟨h1,h3⟩:=dd hc;obtain⟨h1,h2⟩:=dd h1;exact⟨i,z,hi,hz,uO g hv,beq_eq h1,h2,vh h3⟩
theorem dt {t:TypeId}{i:TypeInfo}{z:Value}(h:C.T.get t=some i)(hz:i.zero=some z):(zeroValue t).run C.P w=.ok z w:=by
 simp[zeroValue,iC h,hz]
end types
section mem
variable {C:Cx}{g:Gh}{w:World}
theorem iO (b off i:Nat):(⟨b,off,none⟩:Addr).add i=⟨b,off+i,none⟩:=by
 unfold Addr.add;split
 ·rename_i h;subst h;rfl
 ·rfl
def vU (agg:Bool)(ws:List Value):Value:=if agg then .agg ⟨ws⟩ else ws.headD undef
theorem lF {b off:Nat}{us:List Value}(h:∀i u,us[i]?=some u->w.cell? ⟨b,off+i,none⟩=some u):
  (loadCells ⟨b,off,none⟩ us.length).run C.P w=.ok ⟨us⟩ w:=by
 have:=run_loadCells_list (P:=C.P) (w:=w) ⟨b,off,none⟩ us (fun j v e=>by rw[iO];exact h j v e);simpa using this
theorem tT {t:TypeId}{b off:Nat}{us:List Value}(hs:szT C.T t=some us.length)(h1:cn C.T t=false->us.length=1)
  (h:∀i u,us[i]?=some u->w.cell? ⟨b,off+i,none⟩=some u):(loadVar t ⟨b,off,none⟩).run C.P w=.ok (vU (cn C.T t) us) w:=by
 simp only[loadVar,Sem.run_bind,xy hs,Result.andThen_ok];cases ha:cn C.T t with
 |true=>
  simp only[if_true,Sem.run_bind,bU hs,Result.andThen_ok,lF h,Sem.run_pure,vU]
 |false=>
  have hl:=h1 ha
  match us,hl with
  |[u],_=>
   have:=h 0 u rfl;simp only[Nat.add_zero]at this;simp[vU,this]
theorem vz {agg:Bool}{sz off:Nat}{cs:List AV}{us:List Value}{v:AV}(h:pN agg sz off cs=some v)(hv:aR g cs us)(ha:aO cs=true):
  ((us.drop off).take sz).length=sz/\bu g v (vU agg ((us.drop off).take sz))/\v.cells.length=sz/\v.isAgg=agg/\(agg=false->sz=1)/\aO v.cells=true/\off+sz<=cs.length/\v.cells=(cs.drop off).take sz:=by
 have hl:=hv.length;cases agg with
 |true=>
  have h:cond (Nat.ble (Nat.add off sz) (len cs)) (some (AV.agg (tke sz (drp off cs)))) none=some v:=h;obtain⟨h1,h2⟩:=aH h;have h1:=eG h1;rw[bH]at h1;have h1:off+sz<=cs.length:=h1;cases h2;rw[lz,fM];have hc:aO ((cs.drop off).take sz)=true:=by
   rw[dw]at ha ⊢;exact fun a hm=>ha a (List.mem_of_mem_drop (List.mem_of_mem_take hm))
  refine⟨by simp;omega,.agg hc ((hv.drop off).take sz),by simp[AV.cells];omega,rfl,(fun x=>by cases x),hc,h1,rfl⟩
 |false=>
  have h:cond (Nat.beq sz 1) (pK off cs) none=some v:=h;obtain⟨h1,h2⟩:=aH h;have h1:=beq_eq h1;subst h1;rw[iQ]at h2;obtain⟨u,hu,hr⟩:=hv.get h2;have hi:off<us.length:=by
   rcases Nat.lt_or_ge off us.length with x|x
   ·exact x
   ·rw[List.getElem?_eq_none x]at hu;cases hu
  have hi':off<cs.length:=by omega
  have e:(us.drop off).take 1=[u]:=by
   rw[wO hi]at hu;cases hu;rw[List.drop_eq_getElem_cons hi];rfl
  have e':(cs.drop off).take 1=[v]:=by
   rw[wO hi']at h2;cases h2;rw[List.drop_eq_getElem_cons hi'];rfl
  have hc:v.isCell=true:=(dw cs).1 ha v (wS h2);have hcells:v.cells=[v]:=by cases v<;>first|rfl|(simp[AV.isCell]at hc)
  have hagg:v.isAgg=false:=by cases v<;>first|rfl|(simp[AV.isCell]at hc)
  refine⟨by rw[e];rfl,by rw[e];exact hr,by rw[hcells];rfl,hagg,fun _=>rfl,by rw[hcells,bQ,hc];rfl,by omega,by rw[hcells,e']⟩
theorem AU {b o:Nat}{us:Array Value}{t:TypeId}{v:Value}(e:w.heap[b]?=some (.cells us t (0,0))):
  w.setCell ⟨b,o,none⟩ v=setBlk w b (.cells (us.setIfInBounds o v) t (0,0)):=by
 have hb:b<w.heap.size:=(Array.getElem?_eq_some_iff.1 e).1;have hv:w.heap[b]=.cells us t (0,0):=(Array.getElem?_eq_some_iff.1 e).2;unfold World.setCell setBlk;congr 1;apply Array.ext_getElem?;intro i;by_cases hi:i=b
 ·subst hi;rw[Array.getElem?_modify,wae rfl,e];simp[hb]
 ·rw[Array.getElem?_setIfInBounds_ne (Ne.symm hi),Array.getElem?_modify,wad (fun x=>hi x.symm)]
theorem yK {b:Nat}{x y:Obj}: setBlk (setBlk w b x) b y=setBlk w b y:=by
 unfold setBlk;simp only[Array.setIfInBounds_setIfInBounds]
theorem JQ {b:Nat}{x:Obj}(e:w.heap[b]?=some x):setBlk w b x=w:=by
 have hb:b<w.heap.size:=(Array.getElem?_eq_some_iff.1 e).1;have hv:w.heap[b]=x:=(Array.getElem?_eq_some_iff.1 e).2;have:w.heap.setIfInBounds b x=w.heap:=by
  apply Array.ext_getElem?;intro i;by_cases hi:i=b
  ·subst hi;simp[hb,hv]
  ·rw[Array.getElem?_setIfInBounds_ne (Ne.symm hi)]
 unfold setBlk;rw[this]
theorem xk {α:Type}(o:Nat)(v:α)(vs:List α):∀us:List α,o<us.length->setR (o+1) vs (us.set o v)=setR o (v::vs) us:=by
 induction o with
 |zero=>intro us h;cases us with
  |nil=>simp at h
  |cons u us=>rfl
 |succ o ih=>intro us h;cases us with
  |nil=>simp at h
  |cons u us=>
   simp only[List.set_cons_succ];rw[gK,gK,ih us (by simpa using h)]
theorem xq {α:Type}(o:Nat):∀us:List α,setR o [] us=us:=by
 induction o with
 |zero=>intro us;rfl
 |succ o ih=>intro us;cases us with
  |nil=>rfl
  |cons u us=>rw[gK,ih]
theorem fT {b off:Nat}{t:TypeId}: ∀(vs:List Value) (i:Nat) (w:World) (us:Array Value),w.heap[b]?=some (.cells us t (0,0))->
  off+i+vs.length<=us.size->(∀v∈vs,v.oneCell'=true)->
  (storeCells ⟨b,off,none⟩ vs i).run C.P w=.ok () (setBlk w b (.cells ⟨setR (off+i) vs us.toList⟩ t (0,0)))
 |[],i,w,us,e,_,_=>by
  rw[xq];show Result.ok () w=_;rw[JQ e]
 |v::vs,i,w,us,e,hl,hv=>by
  simp only[List.length_cons]at hl;have hi:off+i<us.size:=by omega
  have hcell:w.cell? ⟨b,off+i,none⟩=some us[off+i]:=by rw[cell_of_row _ _ _ us t (0,0) e];simp[hi]
  have hfz:w.frozen? ⟨b,off+i,none⟩=false:=frozen_of_row _ _ _ us t e;have e':(setBlk w b (.cells (us.setIfInBounds (off+i) v) t (0,0))).heap[b]?=some (.cells (us.setIfInBounds (off+i) v) t (0,0)):=
   eK (Array.getElem?_eq_some_iff.1 e).1
  have ih:=fT (off:=off) vs (i+1) _ _ e' (by simp only[Array.size_setIfInBounds];omega) (fun x hx=>hv x (.tail _ hx));simp only[storeCells,Sem.run_bind,iO,run_store _ _ _ _ _ (hv v (.head _)),hcell,hfz,Bool.false_eq_true,if_false,Result.andThen_ok];rw[AU e,ih,yK];congr 4;have:=xk (off+i) v vs us.toList (by simpa using hi);rw[<-this,Nat.add_assoc];congr 1;simp
end mem
