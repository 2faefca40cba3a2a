/- AbsGo: regions that draw their order: on the machine (no condition). -/
import Derived.Test.YtocdlbblemjabaaGreatDoorAo
import Derived.Orders
noncomputable section
namespace Go.AG
def nb:List aV->Nat->Nat
 |_,0=>0
 |[],_+1=>0
 |a::l,i+1=>(if a.op.cls=.born then 1 else 0)+nb l i
theorem pN:∀ (l:List aV) (i:Nat) (a:aV),l[i]?=some a->nb l (i+1)=nb l i+if a.op.cls=.born then 1 else 0
 |[],i,a,h=>by simp at h
 |b::l,0,a,h=>by simp at h;subst h;simp[nb]
 |b::l,i+1,a,h=>by
  have:=pN l i a (by simpa using h);show _+nb l (i+1)=_+nb l i+_;rw[this];omega
theorem OB (l:List aV){i:Nat}: ∀ m,i+m<=l.length->nb l i<=nb l (i+m)
 |0,_=>e_ _
 |m+1,h=>by
  have:=OB l (i:=i) m o_;have e:=pN l (i+m) (l[i+m]'o_) (a_ o_);rw[show i+(m+1)=i+m+1 by omega,e];omega
theorem aaU (l:List aV){i j:Nat}{a:aV}(hij:i<j)(hj:j<=l.length)(hi:l[i]?=some a)(hc:a.op.cls=.born):nb l i<nb l j:=by
 have e:=pN l i a hi;rw[P_ hc]at e;have:=OB l (i:=i+1) (j-(i+1)) o_;rw[show i+1+(j-(i+1))=j by omega]at this;omega
section
variable {C:Cx}{g:Gh}{w:World}
theorem CX (p:aV×DI)(l:List (aV×DI))(h:AH):kK (p::l) h=kK l (birth p.1.op h):=rfl
theorem GK {op:AOp}{z:List AV}(e:op=.new z)(h:AH):birth op h=h.new (.box z):=by subst e;rfl
theorem WH {op:AOp}(e:op.cls≠.born)(h:AH):birth op h=h:=by
 cases op<;>first|rfl|exact absurd rfl e
theorem qC:∀ (L:List (aV×DI)) {U:Nat->Option (List AV)} {h:AH},Sim C g U h w->
  ∃ U',Sim C g U' (kK L h) w/\(∀ k,k<h.z->U' k=U k)/\Low h (kK L h)/\(kK L h).z=h.z+nb (L.map (·.1)) L.length/\
   ∀ i ao z,(L.map (·.1))[i]?=some ao->ao.op=.new z->U' (h.z+nb (L.map (·.1)) i)=some z
 |[],U,h,s=>⟨U,s,fun _ _=>rfl,.refl _,rfl,fun i ao z hi=>by simp at hi⟩
 |(a,d)::L,U,h,s=>by
  rw[CX];by_cases hc:a.op.cls=.born
  ·obtain⟨z,hz⟩:=Fm hc;have s1:=s.promise z;rw[GK hz];obtain⟨U',b1,b2,b3,b4,b5⟩:=qC L s1;rw[AH.ala]at b2 b4 b5;refine⟨U',b1,fun k hk=>?_,(Low.new _ _).trans b3,?_,fun i ao z' hi hao=>?_⟩
   ·rw[b2 k o_];simp[show k≠h.z by omega]
   ·rw[b4];show _=h.z+((if a.op.cls=.born then 1 else 0)+nb (L.map (·.1)) L.length);rw[P_ hc];omega
   ·cases i with
    |zero=>
     simp at hi;subst hi;rw[hz]at hao;cases hao;show U' (h.z+0)=_;rw[Nat.add_zero,b2 h.z o_];simp
    |succ i=>
     have:=b5 i ao z' (by simpa using hi) hao;show U' (h.z+((if a.op.cls=.born then 1 else 0)+nb (L.map (·.1)) i))=_;rw[P_ hc,<- Nat.add_assoc];exact this
  ·rw[WH hc];obtain⟨U',b1,b2,b3,b4,b5⟩:=qC L s;refine⟨U',b1,b2,b3,?_,fun i ao z' hi hao=>?_⟩
   ·rw[b4];show _=h.z+((if a.op.cls=.born then 1 else 0)+nb (L.map (·.1)) L.length);rw[N_ hc];omega
   ·cases i with
    |zero=>
     simp at hi;subst hi;rw[hao]at hc;exact absurd rfl hc
    |succ i=>
     have:=b5 i ao z' (by simpa using hi) hao;show U' (h.z+((if a.op.cls=.born then 1 else 0)+nb (L.map (·.1)) i))=_;rw[N_ hc,z_];exact this
end
def abd (T:Tr TypeInfo)(op:Op)(a:AOp):Prop:=∀ z,a=.new z->∃ t zv,op=.alloc t/\jN T t=some zv/\z=zv.cells
theorem cJ {T:Tr TypeInfo}{op:Op}{a:AOp}(h:∀ z,a≠.new z):abd T op a:=fun z e=>absurd e (h z)
theorem zK (b:Builtin)(T:Tr TypeInfo)(tys:Array TypeId)(l:List AX)(op:Op):Okd (abd T op) (rW b T tys l):=by
 cases b<;>first
  |exact .none
  |exact .some (cJ (by simp))
  |(refine Okd.bind fun _=>?_;exact .some (cJ (by simp)))
  |(refine Okd.bind fun _=>?_;refine Okd.bind fun _=>?_;refine Okd.bind fun _=>?_;exact .some (cJ (by simp)))
  |(refine Okd.bind fun _=>?_;refine Okd.bind fun _=>?_;refine Okd.bind fun _=>?_;refine Okd.bind fun _=>?_;refine Okd.bind fun _=>?_;refine Okd.cond ?_;exact .some (cJ (by simp)))
  |(refine Okd.bind fun _=>?_;refine Okd.bind fun _=>?_;refine Okd.bind fun _=>?_;refine Okd.cond ?_;exact .some (cJ (by simp)))
theorem adg (op:Op)(P:Program)(T:Tr TypeInfo)(keep:TypeId->Bool):Okd (abd T op) (cOp op P T keep):=by
 cases op with
 |move x=>exact Okd.bind fun _=>.some (cJ (by simp))
 |assign x=>exact Okd.bind fun _=>.some (cJ (by simp))
 |pick a b c=>exact Okd.bind fun _=>.bind fun _=>.bind fun _=>.some (cJ (by simp))
 |alloc t=>
  intro a e;obtain⟨z,h1,e⟩:=aA (show aD (jN T t) _=_ from e);cases e;intro z' e';cases e';exact⟨t,z,rfl,h1,rfl⟩
 |box t x=>exact Okd.bind fun _=>.bind fun _=>.some (cJ (by simp))
 |build t ps=>
  refine Okd.bind fun _=>.bind fun d=>?_
  cases d<;>first|exact .none|exact Okd.bind fun _=>.bind fun _=>.some (cJ (by simp))
 |buildSlice t n ps=>exact Okd.bind fun _=>.bind fun _=>.bind fun _=>.bind fun _=>.cond (.some (cJ (by simp)))
 |load t x=>exact Okd.bind fun _=>.bind fun _=>.cond (.some (cJ (by simp)))
 |store t a x=>exact Okd.bind fun _=>.bind fun _=>.bind fun _=>.some (cJ (by simp))
 |nilCheck x=>exact Okd.bind fun _=>.some (cJ (by simp))
 |binOp op t x y t'=>exact Okd.bind fun _=>.bind fun _=>.bind fun _=>.some (cJ (by simp))
 |unOp op t x=>exact Okd.bind fun _=>.some (cJ (by simp))
 |convert t t' x=>
  refine Okd.bind fun d=>.bind fun d'=>.bind fun _=>?_
  cases d with
  |int k=>exact Okd.bind fun _=>.some (cJ (by simp))
  |string=>cases d'<;>first|exact .none|exact .some (cJ (by simp))
  |_=>exact .none
 |makeInterface t x=>exact Okd.bind fun _=>.cond' (.bind fun _=>.some (cJ (by simp)))
 |makeFunc f a b=>cases f<;>first|exact .none|exact Okd.bind fun _=>.bind fun _=>.some (cJ (by simp))
 |makeMap t r=>cases r with
  |none=>exact .some (cJ (by simp))
  |some r=>exact .none
 |makeSlice t l c=>exact Okd.bind fun _=>.bind fun _=>.bind fun _=>.bind fun _=>.bind fun _=>.bind fun _=>.cond (.some (cJ (by simp)))
 |slice t x lo hi mx=>
  refine Okd.bind fun _=>.bind fun _=>.bind fun _=>.bind fun mx=>.bind fun d=>?_
  cases d with
  |slice e=>exact Okd.bind fun _=>.cond (.some (cJ (by simp)))
  |string=>cases mx with
   |none=>exact .some (cJ (by simp))
   |some m=>exact .none
  |_=>exact .none
 |fieldAddr t x f=>exact Okd.bind fun _=>.bind fun _=>.some (cJ (by simp))
 |field t x f=>exact Okd.bind fun _=>.bind fun _=>.some (cJ (by simp))
 |indexAddr t x i=>
  refine Okd.bind fun _=>.bind fun _=>.bind fun d=>?_
  cases d<;>first|exact .none|exact Okd.bind fun _=>.some (cJ (by simp))
 |index t x i=>
  refine Okd.bind fun _=>.bind fun _=>.bind fun d=>?_
  cases d<;>first|exact .none|exact .some (cJ (by simp))|exact Okd.bind fun _=>.some (cJ (by simp))
 |lookup t x i ok=>exact Okd.bind fun _=>.bind fun _=>.bind fun _=>.bind fun _=>.some (cJ (by simp))
 |mapUpdate t m k v=>exact Okd.bind fun _=>.bind fun _=>.bind fun _=>.bind fun _=>.some (cJ (by simp))
 |typeAssert x t t' ok=>exact Okd.bind fun _=>.cond' (.bind fun _=>.bind fun _=>.some (cJ (by simp)))
 |extract x i=>exact Okd.bind fun _=>.some (cJ (by simp))
 |call c=>
  obtain⟨cc,args,tys⟩:=c;refine Okd.bind fun l=>?_
  cases cc with
  |value f=>exact Okd.bind fun _=>.some (cJ (by simp))
  |invoke a b=>exact .none
  |builtin b=>exact zK b T tys l _
 |defer c=>
  obtain⟨cc,args,tys⟩:=c;refine Okd.bind fun l=>?_
  cases cc with
  |value f=>exact Okd.bind fun _=>.some (cJ (by simp))
  |_=>exact .none
 |panic x=>exact Okd.bind fun _=>.some (cJ (by simp))
 |_=>exact .none
theorem ep.congr {g:Gh}{tm tm':Tm}{tmps:Array Value}(h:ep g tm tmps)(e:∀ t,nth tm' t=nth tm t):ep g tm' tmps:=fun i=>by rw[e i];exact h i
theorem Sa (p:aV×DI)(l:List (aV×DI))(tm:Tm):xX (p::l) tm=xX l (ez p.1.dst tm .any):=rfl
theorem hide_nth:∀ (L:List (aV×DI)) (tm:Tm) (t:Nat),nth (xX L tm) t=.any∨(nth (xX L tm) t=nth tm t/\∀ p∈L,p.1.dst≠some t)
 |[],tm,t=>.inr ⟨rfl,fun p hp=>by simp at hp⟩
 |p::L,tm,t=>by
  rw[Sa];rcases hide_nth L (ez p.1.dst tm .any) t with h|⟨h,h'⟩
  ·exact .inl h
  ·by_cases hd:p.1.dst=some t
   ·left;rw[h,eK,P_ hd]
   ·right;rw[h,eK,N_ hd];exact⟨rfl,fun q hq=>by
     cases hq with
     |head=>exact hd
     |tail _ hq=>exact h' q hq⟩
theorem jU {dst:Nat->Option Nat}{v:Nat->AV}{tm0:Tm}{S:Nat->Bool}{t:Nat}(h:∀ i,dst i≠some t):∀ m,nth (iu dst v tm0 S m) t=nth tm0 t
 |0=>rfl
 |m+1=>by
  rw[dG];cases S m with
  |true=>rw[P_ rfl,eK,N_ (h m)];exact jU h m
  |false=>rw[N_ (by simp)];exact jU h m
theorem Dw {dst:Nat->Option Nat}{v:Nat->AV}{tm0:Tm}{S:Nat->Bool}: ∀ m,(∀ i,i<m->S i=true)->iu dst v tm0 S m=iu dst v tm0 (fun _=>true) m
 |0,_=>rfl
 |m+1,h=>by rw[dG,dG,P_ (h m o_),P_ rfl,Dw m fun i hi=>h i o_]
structure Inv (C:Cx)(nt:Nat)(l:List aV)(ss:List OS)(st:Nat->DS)(p:Nat)(v:Nat->AV)(b:Frame)(K:KK)(g0:Gh)(U0:Nat->Option (List AV))(h0:AH)(S:Nat->Bool)
  (j:Nat) (g:Gh) (U:Nat->Option (List AV)) (w:World) (tmps:Array Value) (ds:List Deferred):Prop where
 hj:j<=p
 count:cS ss S=na ss j
 sim:Sim C g U (st j).h w
 fr:FR g b K nt ⟨iu (dh l) v (st 0).fr.tm S l.length,(st j).fr.cx⟩ tmps ds
 ext:Ext g0 g
 low0:Low h0 (st j).h
 low:Low (st 0).h (st j).h
 old:∀ k,k<h0.z->U k=U0 k
 kept:∀ i ao z,l[i]?=some ao->ao.op=.new z->S i=false->U (h0.z+nb l i)=some z
section
variable {C:Cx}{nt:Nat}{ops:Array Oper}{l:List aV}{ps:List Nat}{ss:List OS}{S:Nat->Bool}{call:aQ}{st:Nat->DS}{p:Nat}{v:Nat->AV}{b:Frame}{K:KK}{k:List Item}{g0:Gh}
 {U0:Nat->Option (List AV)} {h0:AH}
theorem Run.nk (P:fU C nt ops l ps ss)(R:Run call l ss st p v):∀ i,i<=p->(st i).nk=(st 0).nk+nb l i
 |0,_=>by simp[nb]
 |i+1,hi=>by
  obtain⟨ao,x,h1,h2,F⟩:=R.at P (i:=i) o_;rw[pN l i ao h1];by_cases hc:ao.op.cls=.born
  ·rw[P_ hc,(F.born hc).2,Run.nk P R i o_];omega
  ·rw[N_ hc,F.nk hc,Run.nk P R i o_];omega
theorem EO (hcall:cK C call)(P:fU C nt ops l ps ss)(R:Run call l ss st p v)(hhs:(st 0).hs=[(st 0).h])(hok:rdsOk (st p).rds (st p).hs=true)(hnk:(st 0).nk=h0.z)
  (hnx:(st 0).h.z=h0.z+nb l l.length)
  (hS:jF ops S) {i:Nat} (hop:∀ o ao,ops[i]?=some o->l[i]?=some ao->uf C nt ops.toList o ao) (hi:i<p) (hr:qK ops S i) {is:List Nat} {j:Nat} {g:Gh} {U:Nat->Option (List AV)} {w:World} {tmps:Array Value} {ds:List Deferred} (I:Inv C nt l ss st p v b K g0 U0 h0 S j g U w tmps ds) :
  ∃ j' g' U' w' tmps' ds',Inv C nt l ss st p v b K g0 U0 h0 (js S i) j' g' U' w' tmps' ds'/\
   Steps C.P (lone (stF b tmps ds (.inRegion ops (i::is)::k)) (ei K (st j).fr.cx.rc) w) (lone (stF b tmps' ds' (.inRegion ops is::k)) (ei K (st j').fr.cx.rc) w'):=by
 have hil:i<l.length:=Nat.lt_of_lt_of_le hi R.le;obtain⟨ao,x,hl,hx,F⟩:=R.at P hi;have hr':=hr;obtain⟨hni,o,ho,hd⟩:=hr;have hco:=hop o ao ho hl;have hadd:=Zq P hl hni;have putc:∀ t,nth (iu (dh l) v (st 0).fr.tm (js S i) l.length) t=nth (ez ao.dst (iu (dh l) v (st 0).fr.tm S l.length) (v i)) t:=P.put hS hl hr'
 by_cases hc:ao.op.cls=.born
 ·obtain⟨z,hz⟩:=Fm hc;obtain⟨t,zv,hop,hzt,hzc⟩:=adg o.op C.P C.T C.kw ao.op hco.hop z hz;have hg:=P.born i ao hl hc;have hog:o.guard=none:=by
   rcases hco.hg with⟨h1,_⟩|⟨_,_,_,_,_,_,_,h4⟩
   ·exact h1
   ·rw[hg]at h4;cases h4
  have hw:Region.wanted o (yielded ops tmps)=true:=by simp[Region.wanted,hog]
  obtain⟨ti,zz,hti,hzz,hrz,_,hca,_⟩:=iG g hzt;have hlz:zv.lies=true:=lZ hca;have hU:U (h0.z+nb l i)=some z:=I.kept i ao z hl hz hni;obtain⟨x1,s1⟩:=I.sim.birth hU zz.cells t (by rw[hzc];exact hrz.cells hlz) (by rw[hzc];exact hca);have hrun:(execOp (alc tmps) o).run C.P w=.ok (.value (.pointer (some ⟨w.heap.size,0,none⟩))) (w.alloc (.cells zz.cells t (0,0))):=by
   simp[execOp,hop,Instr.alloc,cZ hti hzz,newVar,newRow]
  have hvi:v i=.ptr (h0.z+nb l i) 0 0:=by rw[(F.born hc).1,R.nk P i o_,hnk]
  have hnd:∀ c2,o.op≠.defer c2:=fun c2 q=>by rw[hop]at q;cases q
  refine⟨j,_,_,_,rf o.dst tmps (.pointer (some ⟨w.heap.size,0,none⟩)),ds,⟨I.hj,?_,s1,?_,I.ext.trans x1,I.low0,I.low,?_,?_⟩,.one (DA ho hw (.inl hnd) (.inl hrun))⟩
  ·rw[hadd,N_ (by rw[hc];simp)];exact I.count
  ·have f1:=(I.fr.mono x1).put (d:=o.dst) (v:=v i) (u:=.pointer (some ⟨w.heap.size,0,none⟩)) hco.hok (by rw[hvi];exact .ptr (l:=⟨w.heap.size,0,0,0⟩) (Gh.at_same _ _ _ _));refine⟨?_,f1.hd,f1.hr,f1.hn,f1.hf,f1.ho⟩;refine ep.congr f1.ht fun t=>?_
   rw[xI,<- hco.hdst];exact putc t
  ·intro kk hkk;show(if kk=h0.z+nb l i then none else U kk)=U0 kk;rw[N_ o_];exact I.old kk hkk
  ·intro i' ao' z' hl' hz' hS';have hne:i'≠i:=fun q=>by rw[q]at hS';simp[js]at hS'
   have hS'':S i'=false:=by simpa [js,hne] using hS'
   have hb':ao'.op.cls=.born:=by rw[hz'];rfl
   have hil':i'<l.length:=(E_.1 hl').1;have hkey:h0.z+nb l i'≠h0.z+nb l i:=by
    rcases Nat.lt_or_gt_of_ne hne with q|q
    ·have:=aaU l q o_ hl' hb';omega
    ·have:=aaU l q o_ hl hc;omega
   show(if h0.z+nb l i'=h0.z+nb l i then none else U _)=_;rw[N_ hkey];exact I.kept i' ao' z' hl' hz' hS''
 ·have key:∃ j' ,j'<=p/\cS ss (js S i)=na ss j'/\
    dL ao call ⟨iu (dh l) v (st 0).fr.tm S l.length,(st j).fr.cx⟩ (st j).h=some (.normal,⟨ez ao.dst (iu (dh l) v (st 0).fr.tm S l.length) (v i),(st j').fr.cx⟩,(st j').h):=by
   by_cases ha:ao.op.cls=.acts
   ·have hcnt:=P.count_act hS hl ha hr';obtain⟨e1,e2⟩:=R.same' P I.hj (show i<=p by omega) (I.count.symm.trans hcnt);refine⟨i+1,o_,?_,?_⟩
    ·rw[hadd,P_ ha,vO P hl,P_ ha,hcnt]
    ·rw[e1,e2];have hag:=P.agree (v:=v) (tm0:=(st 0).fr.tm) hS hl hr';rw[<- R.tm P i o_]at hag;exact(F.act ha).2 _ hag
   ·refine⟨j,I.hj,by rw[hadd,N_ ha];exact I.count,?_⟩;exact R.rest P hhs hok hS hi hl hr' (by cases hcl:ao.op.cls<;>simp_all) I.hj I.count _
  obtain⟨j',hj',hcnt',hev⟩:=key;obtain⟨G,_⟩:=oM (k:=k) (is:=is) hcall ho hco hev I.sim I.fr;obtain⟨g1,U1,w1,t1,d1,x1,u1,s1,l1,f1,o1⟩:=G;refine⟨j',g1,U1,w1,t1,d1,⟨hj',hcnt',s1,⟨ep.congr f1.ht putc,f1.hd,f1.hr,f1.hn,f1.hf,f1.ho⟩,I.ext.trans x1,I.low0.trans l1,I.low.trans l1,?_,?_⟩,o1⟩
  ·intro kk hkk;rw[u1.kw kk (Nat.lt_of_lt_of_le hkk I.low0.z)];exact I.old kk hkk
  ·intro i' ao' z' hl' hz' hS';have hne:i'≠i:=fun q=>by rw[q]at hS';simp[js]at hS'
   have hS'':S i'=false:=by simpa [js,hne] using hS'
   have hb':ao'.op.cls=.born:=by rw[hz'];rfl
   have hil':i'<l.length:=(E_.1 hl').1;have hlt:h0.z+nb l i'<(st j).h.z:=by
    have h1:=aaU l hil' (e_ _) hl' hb';have h2:=I.low.z;omega
   rw[u1.kw _ hlt];exact I.kept i' ao' z' hl' hz' hS''
def pz (f:Nat->Bool):Nat->Nat
 |0=>0
 |n+1=>pz f n+if f n then 1 else 0
theorem Ew (f:Nat->Bool):∀ n,pz f n<=n
 |0=>e_ _
 |n+1=>by have:=Ew f n;unfold pz;split<;>omega
theorem qp {f:Nat->Bool}: ∀ n,n<=pz f n->∀ i,i<n->f i=true
 |0,_,i,hi=>by omega
 |n+1,h,i,hi=>by
  have h1:=Ew f n;unfold pz at h;cases hf:f n with
  |false=>rw[hf]at h;simp at h;omega
  |true=>
   rw[hf]at h;simp at h;by_cases e:i=n
   ·subst e;exact hf
   ·exact qp n h i o_
theorem th {f:Nat->Bool}{i:Nat}(hf:f i=false):∀ n,pz (js f i) n=pz f n+if i<n then 1 else 0
 |0=>rfl
 |n+1=>by
  unfold pz;rw[th hf n];by_cases e:n=i
  ·subst e;simp[js,hf]
  ·have:js f i n=f n:=by simp[js,e]
   rw[this];by_cases h:i<n
   ·rw[P_ h,P_ (show i<n+1 by omega)];omega
   ·rw[N_ h,N_ (show ¬ i<n+1 by omega)];rfl
theorem first_not {f:Nat->Bool}: ∀ n,(∀ i,i<n->f i=true)∨∃ i,i<n/\f i=false/\∀ j,j<i->f j=true
 |0=>.inl fun i hi=>by omega
 |n+1=>by
  rcases first_not (f:=f) n with h|⟨i,h1,h2,h3⟩
  ·cases hf:f n with
   |true=>
    refine .inl fun i hi=>?_
    by_cases e:i=n
    ·subst e;exact hf
    ·exact h i o_
   |false=>exact .inr ⟨n,o_,hf,h⟩
  ·exact .inr ⟨i,o_,h2,h3⟩
def eS (listed:Array Bool):Nat->Bool:=fun i=>listed.getD i false
theorem gX {listed:Array Bool}{i:Nat}(hi:i<listed.size):eS (listed.setIfInBounds i true)=js (eS listed) i:=by
 funext j;unfold eS js;by_cases h:j=i
 ·subst h;simp[hi]
 ·have h':¬ i=j:=fun q=>h q.symm
  simp[Array.getD_eq_getD_getElem?,h,h']
theorem OJ {o:Oper}{j:Nat}: j∈dO o↔∃ e∈o.after,Region.binds .any e=true/\e.on=j:=by
 unfold dO;simp only[List.mem_map,List.mem_filter,Array.mem_toList_iff];constructor
 ·rintro⟨e,⟨h1,h2⟩,h3⟩;exact⟨e,h1,h2,h3⟩
 ·rintro⟨e,h1,h2,h3⟩;exact⟨e,⟨h1,h2⟩,h3⟩
theorem oW {listed:Array Bool}(hsz:listed.size=ops.size){i:Nat}: i∈Region.ready .any ops listed↔qK ops (eS listed) i:=by
 rw[mem_ready];constructor
 ·rintro⟨h1,o,h2,h3⟩;have hi:i<ops.size:=(Array.getElem?_eq_some_iff.1 h2).1;refine⟨?_,o,h2,fun j hj=>?_⟩
  ·have hi':i<listed.size:=o_;unfold eS;simp[Array.getD_eq_getD_getElem?,hi']at h1 ⊢;exact h1
  ·obtain⟨e,he,hb,rfl⟩:=OJ.1 hj;exact h3 e he hb
 ·rintro⟨h1,o,h2,h3⟩;have hi:i<ops.size:=(Array.getElem?_eq_some_iff.1 h2).1;refine⟨?_,o,h2,fun e he hb=>h3 _ (OJ.2 ⟨e,he,hb,rfl⟩)⟩;have hi':i<listed.size:=o_;unfold eS at h1;simp[Array.getD_eq_getD_getElem?,hi']at h1 ⊢;exact h1
end
def fu:aV:=⟨none,.mv (.c .nilp),none⟩
def oD (Z:Nat->Bool):List aV->Nat->List aV
 |[],_=>[]
 |a::l,i=>(cond (Z i) fu a)::oD Z l (i+1)
def nG (Z:Nat->Bool):List OS->Nat->List OS
 |[],_=>[]
 |x::l,i=>(cond (Z i) ⟨x.pre,ig fu.dst,looks fu,pC fu.op.cls⟩ x)::nG Z l (i+1)
theorem iH (Z:Nat->Bool):∀ (l:List aV) (i k:Nat),(oD Z l i)[k]?=(l[k]?).map fun a=>cond (Z (i+k)) fu a
 |[],_,_=>by simp[oD]
 |a::l,i,0=>by simp[oD]
 |a::l,i,k+1=>by
  simp only[oD,List.getElem?_cons_succ,iH Z l (i+1) k];rw[show i+1+k=i+(k+1) by omega]
theorem vZ (Z:Nat->Bool):∀ (l:List OS) (i k:Nat),(nG Z l i)[k]?=(l[k]?).map fun x=>cond (Z (i+k)) ⟨x.pre,ig fu.dst,looks fu,pC fu.op.cls⟩ x
 |[],_,_=>by simp[nG]
 |a::l,i,0=>by simp[nG]
 |a::l,i,k+1=>by
  simp only[nG,List.getElem?_cons_succ,vZ Z l (i+1) k];rw[show i+1+k=i+(k+1) by omega]
theorem mA (Z:Nat->Bool):∀ (l:List aV) (i:Nat),(oD Z l i).length=l.length
 |[],_=>rfl
 |a::l,i=>by simp[oD,mA Z l (i+1)]
theorem Du (Z:Nat->Bool):∀ (l:List OS) (i:Nat),(nG Z l i).length=l.length
 |[],_=>rfl
 |a::l,i=>by simp[nG,Du Z l (i+1)]
theorem mX (Z:Nat->Bool)(f:Nat->OS->Bool):∀ (l:List OS) (i:Nat),eG f (nG Z l i) i=eG (fun k x=>f k (cond (Z k) ⟨x.pre,ig fu.dst,looks fu,pC fu.op.cls⟩ x)) l i
 |[],_=>rfl
 |a::l,i=>by rw[nG,dY,dY,mX Z f l (i+1)]
theorem uO:looks fu=0:=rfl
theorem SX:pC fu.op.cls=false:=rfl
section
variable {C:Cx}{nt:Nat}{ops:Array Oper}{l:List aV}{ps:List Nat}{ss:List OS}{S Z:Nat->Bool}{call:aQ}{st:Nat->DS}{v:Nat->AV}
theorem fU.vir (P:fU C nt ops l ps ss)(Z:Nat->Bool):fU C nt ops (oD Z l 0) ps (nG Z ss 0) where
 len:=by rw[mA];exact P.len
 slen:=by rw[mA,Du];exact P.slen
 pres:=P.pres
 sum i x hx:=by
  rw[vZ]at hx;obtain⟨y,hy,rfl⟩:=Option.map_eq_some_iff.1 hx;obtain⟨ao,p,h1,h2,h3⟩:=P.sum i y hy;rw[iH,h1];refine⟨_,p,rfl,h2,?_⟩;subst h3;cases Z (0+i)<;>rfl
 pair i j x y hij hx hy:=by
  rw[iH]at hx hy;obtain⟨x1,hx1,rfl⟩:=Option.map_eq_some_iff.1 hx;obtain⟨y1,hy1,rfl⟩:=Option.map_eq_some_iff.1 hy;rcases P.pair i j x1 y1 hij hx1 hy1 with hb|⟨h1,h2,h3⟩
  ·exact .inl hb
  ·refine .inr ⟨fun t ht=>?_,fun t ht=>?_,fun h=>?_⟩
   ·cases hz:Z (0+i) with
    |true=>rw[hz]at ht;cases ht
    |false=>
     rw[hz]at ht;cases hz2:Z (0+j) with
     |true=>exact⟨by show(looks fu).testBit t=false;rw[uO];exact Nat.zero_testBit t,by intro e;cases e⟩
     |false=>exact h1 t ht
   ·cases hz:Z (0+j) with
    |true=>rw[hz]at ht;cases ht
    |false=>
     rw[hz]at ht;cases hz2:Z (0+i) with
     |true=>show(looks fu).testBit t=false;rw[uO];exact Nat.zero_testBit t
     |false=>exact h2 t ht
   ·obtain⟨a,b⟩:=h;cases hz:Z (0+i) with
    |true=>rw[hz]at a;cases a
    |false=>
     rw[hz]at a;cases hz2:Z (0+j) with
     |true=>rw[hz2]at b;cases b
     |false=>rw[hz2]at b;exact h3 ⟨a,b⟩
 born i o ho hc:=by
  rw[iH]at ho;obtain⟨a,ha,rfl⟩:=Option.map_eq_some_iff.1 ho;cases hz:Z (0+i) with
  |true=>rfl
  |false=>rw[hz]at hc;exact P.born i a ha hc
theorem mN (P:fU C nt ops l ps ss){a q:Nat}(h1:dX ps a q):∀ (i:Nat),i<ops.size->dX ps q i->dX ps a i:=by
 intro i;induction i using Nat.strongRecOn with
 |_ i ih=>
  intro hi h2;have ho:ops.toList[i]?=some ops[i]:=by simp
  have hp:ps[i]?=some (ps[i]'(by have:=P.pres.len;simp at this;omega)):=a_ _;have hb:=P.pres.bits i _ _ ho hp;unfold dX at h2 ⊢;rw[hp]at h2 ⊢;obtain⟨j,hj,hq⟩:=(hb q).1 h2;have hji:=P.pres.back i _ ho j hj;refine(hb a).2 ⟨j,hj,.inr ?_⟩;rcases hq with rfl|hq
  ·exact h1
  ·exact ih j hji o_ hq
theorem Zp (hZ:∀ i,Z i=true->S i=false):cS (nG Z ss 0) S=cS ss S:=by
 unfold cS;rw[mX];refine iV ss 0 fun k x _=>?_
 rw[z_];cases hz:Z k with
 |true=>rw[hZ k hz];simp
 |false=>rfl
theorem sU.wider {o:aV}{d d':DI}{s s':DS}{u:AV}(F:sU call o d s s' u)(h1:d'.lo=d.lo)(h2:d'.hi<=d.hi)(h3:d'.lo<=d'.hi):sU call o d' s s' u:=
 ⟨F.tm,F.nonact,F.act,F.born,F.nk,F.still,F.rds,fun hc=>by
  obtain⟨a,b⟩:=F.reads hc;refine⟨a,?_⟩;rcases b with e|b|⟨w,hi,hle,m⟩
  ·exact .inl o_
  ·exact .inr (.inl b)
  ·exact .inr (.inr ⟨w,hi,o_,by rw[h1];exact m⟩)⟩
def cH (ss:List OS)(q:Nat)(i:Nat):Bool:=decide (i=q)||(decide (q<i)&&match ss[i]? with
 |some x=>decide (na ss q<(mK ss i x).lo)
 |none=>false)
theorem mz {q i:Nat}{x:OS}(hx:ss[i]?=some x):cH ss q i=true↔i=q∨(q<i/\na ss q<(mK ss i x).lo):=by
 unfold cH;rw[hx];simp
theorem vY {q i:Nat}(h:cH ss q i=true):q<=i:=by
 unfold cH at h;simp only[Bool.or_eq_true,Bool.and_eq_true,decide_eq_true_eq]at h;omega
theorem waits_before (P:fU C nt ops l ps ss){q:Nat}{aq:aV}(hq:l[q]?=some aq)(hact:aq.op.cls=.acts){i:Nat}(h:cH ss q i=true):i=q∨dX ps q i:=by
 cases hx:ss[i]? with
 |none=>
  unfold cH at h;rw[hx]at h;simp at h;exact .inl h
 |some x=>
  rcases (mz hx).1 h with e|⟨hlt,hlo⟩
  ·exact .inl e
  ·right;obtain⟨ai,pi,k1,k2,k3⟩:=P.sum i x hx;have hio:i<ops.size:=by rw[<- P.len];exact(E_.1 k1).1
   cases hb:bit x.pre q with
   |true=>unfold dX;rw[k2,<- kO];rw[k3]at hb;exact hb
   |false=>
    exfalso;have:(mK ss i x).lo<=na ss q:=by
     refine fA ss 0 fun k y hy hf=>?_
     rw[z_]at hf ⊢;simp only[Bool.and_eq_true,decide_eq_true_eq]at hf ⊢;refine⟨hf.1,?_⟩;rcases Nat.lt_trichotomy k q with h|h|h
     ·exact h
     ·subst h;rw[hb]at hf;exact absurd hf.2 (by simp)
     ·exfalso;obtain⟨ak,pk,m1,m2,m3⟩:=P.sum k y hy;have hka:ak.op.cls=.acts:=(po _).1 (by have:=hf.1;rw[m3]at this;exact this);rcases P.pair q k _ _ h hq m1 with hbk|⟨_,_,hn⟩
      ·have hki:dX ps k i:=by unfold dX;rw[k2,<- kO];have:=hf.2;rw[k3]at this;exact this
       have:=mN P hbk i hio hki;unfold dX at this;rw[k2,<- kO]at this;rw[k3]at hb;rw[show bit pi q=true from this]at hb;cases hb
      ·exact hn ⟨hact,hka⟩
    omega
theorem ahN (P:fU C nt ops l ps ss){q:Nat}{aq:aV}(hq:l[q]?=some aq)(hact:aq.op.cls=.acts){i:Nat}{x:OS}(hx:ss[i]?=some x)(hw:cH ss q i=false):
  (mK (nG (cH ss q) ss 0) i x).lo=(mK ss i x).lo/\(mK (nG (cH ss q) ss 0) i x).hi<=(mK ss i x).hi:=by
 constructor
 ·show eG (fun k y=>y.acts&&bit x.pre k) (nG (cH ss q) ss 0) 0=eG (fun k y=>y.acts&&bit x.pre k) ss 0;rw[mX];refine iV ss 0 fun k y hy=>?_
  rw[z_];cases hz:cH ss q k with
  |false=>rfl
  |true=>
   show(false&&_)=_;cases hya:y.acts with
   |false=>rfl
   |true=>
    cases hb:bit x.pre k with
    |false=>rfl
    |true=>
     exfalso;obtain⟨ai,pi,k1,k2,k3⟩:=P.sum i x hx;have hio:i<ops.size:=by rw[<- P.len];exact(E_.1 k1).1
     have hki:dX ps k i:=by unfold dX;rw[k2,<- kO];rw[k3]at hb;exact hb
     have hqi:dX ps q i:=by
      rcases waits_before P hq hact hz with rfl|h
      ·exact hki
      ·exact mN P h i hio hki
     have hlt:q<i:=by
      have hqp:=hqi;unfold dX at hqp;rw[k2]at hqp;have ho:ops.toList[i]?=some ops[i]:=by simp
      obtain⟨j,hj,hh⟩:=(P.pres.bits i _ _ ho k2 q).1 hqp;have hji:=P.pres.back i _ ho j hj;rcases hh with rfl|hh
      ·exact hji
      ·rcases Nat.lt_or_ge q i with h|h
       ·exact h
       ·exfalso;have low:∀ (m:Nat),m<ops.size->∀ t,dX ps t m->t<m:=by
         intro m;induction m using Nat.strongRecOn with
         |_ m ihm=>
          intro hm t ht;have ho:ops.toList[m]?=some ops[m]:=by simp
          have hp:ps[m]?=some (ps[m]'(by have:=P.pres.len;simp at this;omega)):=a_ _;unfold dX at ht;rw[hp]at ht;obtain⟨j,hj,hh⟩:=(P.pres.bits m _ _ ho hp t).1 ht;have hji:=P.pres.back m _ ho j hj;rcases hh with rfl|hh
          ·exact hji
          ·have:=ihm j hji o_ t hh;omega
        have:=low i hio q hqi;omega
     have:na ss (q+1)<=(mK ss i x).lo:=by
      refine fA ss 0 fun k y hy hf=>?_
      rw[z_]at hf ⊢;simp only[Bool.and_eq_true,decide_eq_true_eq]at hf ⊢;refine⟨hf.1,?_⟩;have hbk:dX ps k i:=by
       rcases Nat.lt_or_eq_of_le (Nat.le_of_lt_succ hf.2) with h|h
       ·obtain⟨ak,pk,m1,m2,m3⟩:=P.sum k y hy;have hka:ak.op.cls=.acts:=(po _).1 (by have:=hf.1;rw[m3]at this;exact this);rcases P.pair k q _ _ h m1 hq with hb2|⟨_,_,hn⟩
        ·exact mN P hb2 i hio hqi
        ·exact absurd ⟨hka,hact⟩ hn
       ·subst h;exact hqi
      unfold dX at hbk;rw[k2,<- kO]at hbk;rw[k3];exact hbk
     have hn:=vO P hq;rw[P_ hact]at hn;have hwt:cH ss q i=true:=(mz hx).2 (.inr ⟨hlt,o_⟩);rw[hw]at hwt;cases hwt
 ·show eG (fun _ y=>y.acts && !(bit y.pre i)) (nG (cH ss q) ss 0) 0<=eG (fun _ y=>y.acts && !(bit y.pre i)) ss 0;rw[mX];refine fA ss 0 fun k y hy hf=>?_
  cases hz:cH ss q (0+k) with
  |true=>rw[hz]at hf;simp[SX]at hf
  |false=>rw[hz]at hf;exact hf
def lz (q:Nat)(st st':Nat->DS)(i:Nat):DS:=if i<=q then st i else st' (i-(q+1))
theorem QW (d:DI)(s:DS):sU call fu d s s .nilp:=
 ⟨rfl,fun _=>⟨rfl,rfl,rfl⟩,(fun h=>by cases h),(fun h=>by cases h),fun _=>rfl,fun _ h cx=>rfl,fun x hx=>hx,(fun h=>by cases h)⟩
theorem abR (P:fU C nt ops l ps ss){q:Nat}{aq:aV}(hq:l[q]?=some aq)(hact:aq.op.cls=.acts)(R:Run call l ss st q v){st':Nat->DS}(D:abg call (na ss q) ((ku ss l 0 ss).drop (q+1)) (st q) st'):
  ∃ v',(∀ i,i<q->v' i=v i)/\Run call (oD (cH ss q) l 0) (nG (cH ss q) ss 0) (lz q st st') l.length v'/\rdsOk (lz q st st' l.length).rds (lz q st st' l.length).hs=true:=by
 obtain⟨w1,w2⟩:=jZ ss l 0 ss P.slen;have hql:q<l.length:=(E_.1 hq).1;have PV:=P.vir (cH ss q);have step:∀ i,∃ u,(i<q->u=v i)/\∀ (ao:aV) (x:OS),i<l.length->(oD (cH ss q) l 0)[i]?=some ao->(nG (cH ss q) ss 0)[i]?=some x->sU call ao (mK (nG (cH ss q) ss 0) i x) (lz q st st' i) (lz q st st' (i+1)) u:=by
  intro i;by_cases hil:i<l.length
  ·have hla:l[i]?=some l[i]:=a_ hil;have hsa:ss[i]?=some (ss[i]'(by rw[P.slen];exact hil)):=a_ (by rw[P.slen];exact hil);revert hla hsa;generalize l[i]=a;generalize ss[i]'_=y;intro hla hsa;have gL:(oD (cH ss q) l 0)[i]?=some (cond (cH ss q i) fu a):=by rw[iH,hla,z_];rfl
   have gS:(nG (cH ss q) ss 0)[i]?=some (cond (cH ss q i) ⟨y.pre,ig fu.dst,looks fu,pC fu.op.cls⟩ y):=by rw[vZ,hsa,z_];rfl
   cases hz:cH ss q i with
   |true=>
    have hge:=vY hz;refine⟨.nilp,fun h=>by omega,fun ao x _ h1 h2=>?_⟩;rw[gL,hz]at h1;cases h1;have e:lz q st st' (i+1)=lz q st st' i:=by
     unfold lz;rw[N_ (show ¬ i+1<=q by omega)];rcases Nat.lt_or_eq_of_le hge with hlt|heq
     ·rw[N_ (show ¬ i<=q by omega)];have hd:((ku ss l 0 ss).drop (q+1))[i-(q+1)]?=some (a,mK ss i y):=by
       rw[List.getElem?_drop,show q+1+(i-(q+1))=i by omega,w2 i a y hla hsa,z_]
      rcases D.step _ _ _ hd with⟨_,_,h⟩|⟨h,_,_⟩
      ·rw[show i+1-(q+1)=i-(q+1)+1 by omega];exact h
      ·rcases (mz hsa).1 hz with h'|⟨_,h'⟩<;>omega
     ·subst heq;rw[P_ (e_ _),Nat.sub_self,D.start]
    rw[e];exact QW _ _
   |false=>
    have hdi:=ahN P hq hact hsa hz;have hle:(mK (nG (cH ss q) ss 0) i y).lo<=(mK (nG (cH ss q) ss 0) i y).hi:=by
     have:=PV.count_le (PV.closed_lt i) (x:=y) (by rw[gS,hz,cond_false]) (PV.ready_lt (by rw[<- P.len];exact hil));exact Nat.le_trans this.1 this.2
    rcases Nat.lt_trichotomy i q with hlt|heq|hgt
    ·refine⟨v i,fun _=>rfl,fun ao x _ h1 h2=>?_⟩;rw[gL,hz]at h1;rw[gS,hz]at h2;cases h1;cases h2;have:=R.fact i a y hlt hla hsa;unfold lz;rw[P_ o_,P_ o_];exact this.wider hdi.1 hdi.2 hle
    ·subst heq;have:cH ss i i=true:=(mz hsa).2 (.inl rfl);rw[hz]at this;cases this
    ·have hd:((ku ss l 0 ss).drop (q+1))[i-(q+1)]?=some (a,mK ss i y):=by
      rw[List.getElem?_drop,show q+1+(i-(q+1))=i by omega,w2 i a y hla hsa,z_]
     rcases D.step _ _ _ hd with⟨h,_,_⟩|⟨_,_,h⟩
     ·have:cH ss q i=true:=(mz hsa).2 (.inr ⟨hgt,h⟩);rw[hz]at this;cases this
     ·obtain⟨u,hu⟩:=afw h;refine⟨u,fun h=>by omega,fun ao x _ h1 h2=>?_⟩;rw[gL,hz]at h1;rw[gS,hz]at h2;cases h1;cases h2;unfold lz;rw[N_ o_,N_ o_,show i+1-(q+1)=i-(q+1)+1 by omega];exact hu.wider hdi.1 hdi.2 hle
  ·exact⟨v i,fun _=>rfl,fun ao x h=>absurd h hil⟩
 refine⟨fun i=>(step i).choose,fun i hi=>(step i).choose_spec.1 hi,⟨by rw[mA];exact e_ _,fun i ao x h1 h2 h3=>(step i).choose_spec.2 ao x h1 h2 h3⟩,?_⟩;unfold lz;rw[N_ o_];have:=D.fin;rw[List.length_drop,w1]at this;exact this
theorem Fz {q:Nat}{aq:aV}(P:fU C nt ops l ps ss)(hq:l[q]?=some aq)(hact:aq.op.cls=.acts){s:DS}{st':Nat->DS}(D:abg call (na ss q) ((ku ss l 0 ss).drop (q+1)) s st'){i:Nat}{a:aV}(ha:l[i]?=some a)(hw:cH ss q i=true):a.op.cls≠.born:=by
 obtain⟨w1,w2⟩:=jZ ss l 0 ss P.slen;obtain⟨x,p,hx,_,_⟩:=P.ss_get ha;rcases (mz hx).1 hw with rfl|⟨hlt,hlo⟩
 ·rw[hq]at ha;cases ha;rw[hact];intro e;cases e
 ·have hd:((ku ss l 0 ss).drop (q+1))[i-(q+1)]?=some (a,mK ss i x):=by
   rw[List.getElem?_drop,show q+1+(i-(q+1))=i by omega,w2 i a x ha hx,z_]
  rcases D.step _ _ _ hd with⟨_,h,_⟩|⟨h,_,_⟩
  ·exact h
  ·omega
end
