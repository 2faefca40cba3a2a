/- MachineKeeps: key as an oracle (no condition). -/
import Derived.Test.YtocdlbblemjabaaGreatDoorBz
import Derived.Test.YtocdlbblemjabaaGreatDoorBk
import Derived.Shelf.Sort.Plain
import Derived.Shelf.SlIterI.Nil
import Derived.Shelf.Slices.In.SortNone
noncomputable section
namespace Go.AG
theorem Sim.wider {C:Cx}{g:Gh}{U:Nat->Option (List AV)}{h:AH}{w w':World}(s:Sim C g U h w)(hh:∀ b,b<w.heap.size->w'.heap[b]?=w.heap[b]?)(hs:w.heap.size<=w'.heap.size)
  (ht:w'.tape=w.tape) (ho:w'.os=w.os) (hu:w'.output=w.output):Sim C g U h w':=by
 constructor
 ·intro b o v e;rw[mn (hh b (s.frz_lt e))];exact s.frz b o v e
 ·intro k o e u;obtain⟨l,r1,r2,r3⟩:=s.obj k o e u;exact⟨l,r1,r2,r3.kw (.refl g) (hh _ r3.block_lt) (fun _ _ q=>q) (fun _ _ q=>q)⟩
 ·exact s.lt
 ·exact s.unb
 ·exact s.rlt
 ·exact s.sep
 ·intro b hb;rw[hh b (Nat.lt_of_lt_of_le hb s.sz)];exact s.old b hb
 ·exact Nat.le_trans s.sz hs
 ·rw[ht];exact s.tape
 ·rw[ho];exact s.os
 ·rw[hu];exact s.output
 ·exact s.ini
theorem Sim.more {C:Cx}{g:Gh}{U:Nat->Option (List AV)}{h:AH}{w w':World}(s:Sim C g U h w){gb:Nat}(hgb:w.heap.size<=gb){F:Nat->Option Value}(hF:∀ o v,F o=some v->w'.cell? ⟨gb,o,none⟩=some v)
  (hh:∀ b,b<w.heap.size->w'.heap[b]?=w.heap[b]?) (hs:w.heap.size<=w'.heap.size) (ht:w'.tape=w.tape) (ho:w'.os=w.os) (hu:w'.output=w.output) :
  Ext g {g with F:=fun b o=>if b=gb then F o else g.F b o}/\Sim C {g with F:=fun b o=>if b=gb then F o else g.F b o} U h w':=by
 have hne:∀ b o v,g.F b o=some v->b≠gb:=fun b o v e=>by have:=s.frz_lt e;omega
 have ex:Ext g {g with F:=fun b o=>if b=gb then F o else g.F b o}:=by
  refine⟨fun b o v e=>?_,fun _ _ _ h=>h,rfl,fun b o v hb e=>?_⟩
  ·show(if b=gb then F o else g.F b o)=some v;rw[N_ (hne b o v e)];exact e
  ·have hb':=s.sz;have e:(if b=gb then F o else g.F b o)=some v:=e;rw[N_ o_]at e;exact e
 refine⟨ex,?_⟩;constructor
 ·intro b o v e;have e2:(if b=gb then F o else g.F b o)=some v:=e;by_cases hb:b=gb
  ·rw[P_ hb]at e2;rw[hb];exact hF o v e2
  ·rw[N_ hb]at e2;rw[mn (hh b (s.frz_lt e2))];exact s.frz b o v e2
 ·intro k o e u;obtain⟨l,r1,r2,r3⟩:=s.obj k o e u;have hlt:=r3.block_lt;refine⟨l,r1,r2,r3.kw ex (hh _ hlt) (fun i v q=>?_) (fun _ _ q=>q)⟩;have q:(if l.block=gb then F i else g.F l.block i)=some v:=q;rw[N_ o_]at q;exact q
 ·exact s.lt
 ·exact s.unb
 ·exact s.rlt
 ·exact s.sep
 ·intro b hb;rw[hh b (Nat.lt_of_lt_of_le hb s.sz)];exact s.old b hb
 ·exact Nat.le_trans s.sz hs
 ·rw[ht];exact s.tape
 ·rw[ho];exact s.os
 ·rw[hu];exact s.output
 ·exact s.ini
end Go.AG
namespace Go.Proofs.YtocdlbblemjabaaGreatDoor
open Go.AG Go.AG.MK Go.Proofs Go.RowKit
theorem aaW {f:FuncId}{us:Array Value}{w:World}{c0:Frame}{rest:List Frame}{Rr:Value->World->Prop}(hc:Calls Tryz.prog f us w fun e w1=>∃ v,e=.returned v/\Rr v w1):
  ∃ v w1,Rr v w1/\Steps Tryz.prog (lone (Frame.enter Tryz.prog f us .normal) (c0::rest) w) (lone (c0.finish v) rest w1):=by
 obtain⟨e,w',fr,⟨v,rfl,hR⟩,hcomes,hfn,hleave⟩:=hc (c0::rest);exact⟨v,w',hR,Steps.trans hcomes (.one (step_leave_returned hleave))⟩
section
variable {g:Gh}{U:Nat->Option (List AV)}{h:AH}{w:World}
theorem cr_at {es:List AV}{sz b off n:Nat}{v:AV}(hs:∀ e∈es,e.cells.length=sz)(hc:eu g b off (flat es))(hv:es[n]?=some v):eu g b (off+n*sz) v.cells:=by
 have q:=Go.AG.nS hs hv;have k:=hc.sub (n*sz) sz (by have:=q.2;omega);rw[q.1]at k;exact k
theorem Ij {α:Type}{f:α->AV}{sz:Nat}(hf:∀ x,(f x).cells.length=sz){l:List α}{u:Value}(hu:bA g (.ls (l.map f)) u):
  ∃ base cap,u=.slice base l.length cap/\∀ (j:Nat) x,l[j]?=some x->∃ b off,base=some ⟨b,off,none⟩/\eu g b (off+j*sz) (f x).cells:=by
 obtain⟨a,cap,rfl,_,hc⟩:=hu.lst_inv;rw[L_];refine⟨a,cap,rfl,fun j x hx=>?_⟩;rcases hc with hc|⟨sz',b,off,rfl,hs,_,hc⟩
 ·rw[List.map_eq_nil_iff]at hc;subst hc;cases hx
 ·have hm:(l.map f)[j]?=some (f x):=by rw[List.getElem?_map,hx];rfl
  have e:sz'=sz:=(hs _ (m_ hm)).symm.trans (hf x);subst e;exact⟨b,off,rfl,cr_at hs hc hm⟩
theorem ah1 (s:Sim CI g U h w){l:List LV}{u:Value}(hu:bA g (.ls (l.map bV)) u):RVs w u l:=by
 obtain⟨base,cap,rfl,hx⟩:=Ij cV hu;refine⟨base,cap,rfl,fun j x hj=>?_⟩;obtain⟨b,off,rfl,hc⟩:=hx j x hj;refine⟨b,off,rfl,?_⟩;have hc:eu g b (off+j*2) [i_ x.idx,i_ x.plus]:=hc;cases hc with
 |cons h1 r1 t1=>
  cases t1 with
  |cons h2 r2 t2=>
   rw[r1.int_inv]at h1;rw[r2.int_inv]at h2;rw[Nat.mul_comm]at h1 h2;exact⟨s.frz_lt h1,s.frz _ _ _ h1,s.frz _ _ _ h2⟩
theorem ah4 (s:Sim CI g U h w){l:List LL}{u:Value}(hu:bA g (.ls (l.map ba)) u):RLs w u l:=by
 obtain⟨base,cap,rfl,hx⟩:=Ij eC hu;refine⟨base,cap,rfl,fun j x hj=>?_⟩;obtain⟨b,off,rfl,hc⟩:=hx j x hj;have hc:eu g b (off+j*2) [i_ x.c,.ls (x.vars.map bV)]:=hc;cases hc with
 |@cons _ _ _ _ u1 h1 r1 t1=>
  cases t1 with
  |@cons _ _ _ _ u2 h2 r2 t2=>
   rw[r1.int_inv]at h1;rw[Nat.mul_comm]at h1 h2;exact⟨b,off,u2,rfl,s.frz_lt h1,s.frz _ _ _ h1,s.frz _ _ _ h2,ah1 s r2⟩
theorem ah5 (s:Sim CI g U h w){l:List Int}{u:Value}(hu:bA g (.ls (l.map AG.aO)) u):RKs w u l:=by
 obtain⟨base,cap,rfl,hx⟩:=Ij (f:=AG.aO) (sz:=1) (fun _=>rfl) hu;refine⟨base,cap,rfl,fun j x hj=>?_⟩;obtain⟨b,off,rfl,hc⟩:=hx j x hj;refine⟨b,off,rfl,?_⟩;have hc:eu g b (off+j*1) [i_ x]:=hc;cases hc with
 |cons h1 r1 t1=>
  rw[r1.int_inv,Nat.mul_one]at h1;exact⟨s.frz_lt h1,s.frz _ _ _ h1⟩
theorem ahR (s:Sim CI g U h w):Lib.TabIs Tryz.prog w "internal/strconv.uint64pow10" .u64 Lib.pow10Tab:=HH _ _ (show Lib.TabIs Tryz.prog g.w0 _ _ _ from s.ini) s.old
end
theorem CD {n:Int}(h:inI n):(Lib.itoa n).length<=21:=Lib.itoa_length_le n h.1 h.2
theorem nn {α:Type}{f:α->List UInt8}{b:Nat}: ∀ {l:List α},(∀ x∈l,(f x).length<=b)->(l.flatMap f).length<=l.length*b
 |[],_=>by simp
 |x::l,h=>by
  have h1:=h x (List.mem_cons_self ..);have h2:=nn (l:=l) fun y hy=>h y (List.mem_cons_of_mem _ hy)
  rw[List.flatMap_cons,List.length_append,List.length_cons,Nat.add_mul,Nat.one_mul];omega
theorem um {n:Int}(h0 : -70000<=n)(h1:n<=70000):inI n:=⟨o_,o_⟩
theorem NOK.inr {n:NV}(o:NOK n)(hv:∀ l∈n.L,l.vars.length<=70000)(hn:n.L.length<=10)(hk:n.K.length<=10):InR n where
 k:=um (by have:=o.nd.k0;omega) (by have:=o.nd.k1;omega)
 i:=um (by have:=o.nd.i0;omega) (by have:=o.nd.i1;omega)
 l x hx:=by
  have v:=o.nd.val x hx;refine⟨um (by have:=v.c0;omega) (by have:=v.c1;omega),fun y hy=>?_⟩;obtain⟨i,hi⟩:=List.getElem?_of_mem hy;obtain⟨r1,r2,r3,r4⟩:=v.rng i y hi;exact⟨um o_ o_,um o_ o_⟩
 d x hx:=by have:=o.kr x hx;exact um o_ o_
 nl:=o_
 nv x hx:=by have:=hv x hx;omega
 nk:=o_
theorem VE {n:NV}(r:InR n)(hv:∀ l∈n.L,l.vars.length<=70000)(hn:n.L.length<=10)(hk:n.K.length<=10)(hs:n.name.size<=1000):(cQ n).length<=1000000000:=by
 have h1:=CD r.k;have h2:=CD r.i;have h3:n.name.data.toList.length<=1000:=by rw[Array.length_toList];exact hs
 have h4:(n.L.flatMap qH).length<=n.L.length*4000000:=nn fun x hx=>by
  obtain⟨a,b⟩:=r.l x hx;have:=CD a;have h5:(x.vars.flatMap fun v=>Lib.itoa v.idx++32::(Lib.itoa v.plus++[32])).length<=x.vars.length*44:=nn fun y hy=>by
   have:=CD (b y hy).1;have:=CD (b y hy).2;simp only[List.length_append,List.length_cons,List.length_nil];omega
  have:=hv x hx;unfold qH;simp only[List.length_append,List.length_cons];omega
 have h6:(n.K.flatMap fun k=>Lib.itoa k++[32]).length<=n.K.length*22:=nn fun x hx=>by
  have:=CD (r.d x hx);simp only[List.length_append,List.length_cons,List.length_nil];omega
 unfold cQ;simp only[List.length_append,List.length_cons];omega
theorem Wb {a b:NV}(h:aT a=aT b):a=b:=by
 obtain⟨k,i,nm,l,d⟩:=a;obtain⟨k',i',nm',l',d'⟩:=b;simp only[aT,AV.agg.injEq,List.cons.injEq,AV.int.injEq,AV.str.injEq,AV.ls.injEq,true_and,and_true]at h;obtain⟨rfl,rfl,rfl,h4,h5⟩:=h;rw[vP (fun _ _=>Wd) h4,vP (fun _ _=>We) h5]
open Classical in
def uw:aQ:=fun f a rc h=>match f,a,rc with
 |.fn 138 [] [],[v],.no=>if hx:∃ n:NV,v=aT n/\NOK n then some (.ret (.str (bs (cQ hx.choose))),.no,h) else none
 |_,_,_=>none
theorem VX (args:Array Value)(w:World):(callFunc 138 args).run Tryz.prog w=.ok (.enter 138 args) w:=enters_of (f:=138) Tryz.func138 (by kernel_rfl) rfl args w
theorem yG {n:NV}(hn:NOK n)(h:AH):uw (.fn 138 [] []) [aT n] .no h=some (.ret (.str (bs (cQ n))),.no,h):=by
 have hx:∃ m:NV,aT n=aT m/\NOK m:=⟨n,rfl,hn⟩
 have e:uw (.fn 138 [] []) [aT n] .no h=some (.ret (.str (bs (cQ hx.choose))),.no,h):=dif_pos hx;rw[e,<- Wb hx.choose_spec.1]
theorem NOK.few {n:NV}(o:NOK n):(∀ l∈n.L,l.vars.length<=70000)/\n.L.length<=10/\n.K.length<=10:=by
 refine⟨fun l hl=>by have:=(o.nd.val l hl).len;omega,?_,?_⟩
 ·obtain⟨l1,l2,l3⟩:=o.nd.lev;by_cases k2:n.kind=2
  ·have:=l1 k2;omega
  ·by_cases k3:n.kind=3
   ·have:=l2 k3;omega
   ·rw[l3 k2 k3];simp
 ·have h:=o.nd.K;unfold dW at h;split at h
  ·omega
  ·split at h
   ·omega
   ·split at h<;>omega
theorem YV:cK CI uw:=by
 intro f args rc h out rc' h' q g U w fv us K kind s hf ha hr hK;unfold uw at q;split at q
 ·split at q
  ·rename_i hx;cases q;obtain⟨q1,q2⟩:=hx.choose_spec;generalize hx.choose=n at q1 q2 ⊢;subst q1;obtain⟨x,y,hx1,hy1,rfl⟩:=hf.fn_inv;cases hx1;cases hy1;cases ha with
   |@cons _ u _ _ hu ht=>
    cases ht;obtain⟨vs,_,hvs,rfl⟩:=bA.agg_inv hu;cases hvs with
    |cons r1 t1=>
    cases t1 with
    |cons r2 t2=>
    cases t2 with
    |cons r3 t3=>
    cases t3 with
    |@cons _ u4 _ _ r4 t4=>
    cases t4 with
    |@cons _ u5 _ _ r5 t5=>
    cases t5;rw[r1.int_inv,r2.int_inv,r3.str_inv];have hk:kind=.normal:=hr;subst hk;obtain⟨f1,f2,f3⟩:=q2.few;have ir:=q2.inr f1 f2 f3;have hc:Calls Tryz.prog 138 #[.agg #[.int .i64 n.kind,.int .i64 n.idx,.string n.name,u4,u5]] w fun e w1=>∃ v,e=.returned v/\(v=.string ⟨(cQ n).toArray⟩/\Below w.heap.size w w1):=
     (VB n u4 u5 w (ah4 s r4) (ah5 s r5) ir (VE ir f1 f2 f3 q2.nd.short) (ahR s)).mono fun e w1 hh=>⟨_,hh.1,rfl,hh.2⟩
    obtain⟨v,w1,⟨rfl,hb⟩,hst⟩:=aaW (c0:=K.c0) (rest:=K.rest) hc;refine⟨{target:=.fn (.func 138) ⟨[]⟩,args:=⟨[.agg ⟨[.int .i64 n.kind,.int .i64 n.idx,.string n.name,u4,u5]⟩]⟩},Frame.enter CI.P 138 ⟨[.agg ⟨[.int .i64 n.kind,.int .i64 n.idx,.string n.name,u4,u5]⟩]⟩ .normal,fun w=>by simp[Deferred.ofValue],.inl ⟨138,⟨[.agg ⟨[.int .i64 n.kind,.int .i64 n.idx,.string n.name,u4,u5]⟩]⟩,?_,rfl⟩,g,U,w1,.refl g,.refl _ _,s.wider hb.block hb.size hb.tape hb.os hb.output,.refl _,hr,_,.str _,?_⟩
    ·exact VX _ w
    ·show Steps CI.P (lone _ K.cs w) _;rw[hK];exact hst
  ·cases q
 ·cases q
open Classical in
def oy:aQ:=fun f a rc h=>match f,a,rc with
 |.fn 107 [] [],[.nl,.int .i64 n],.no=>if n=0 then some (.ret .nl,.no,h) else if 0<n/\n<=10000000000 then some (.ret (.row h.z 0 1 0 0),.no,h.new (.row 0 1 false [] 0)) else none
 |_,_,_=>none
theorem Sc (h:AH):oy (.fn 107 [] []) [.nl,.int .i64 0] .no h=some (.ret .nl,.no,h):=rfl
theorem VK (n:Nat)(h:AH)(h0:0<n)(h1:n<=10000000000):oy (.fn 107 [] []) [.nl,.int .i64 (n:Int)] .no h=some (.ret (.row h.z 0 1 0 0),.no,h.new (.row 0 1 false [] 0)):=by
 show(if (n:Int)=0 then _ else if 0<(n:Int)/\(n:Int)<=10000000000 then _ else _)=_;rw[if_neg (by omega),if_pos (by omega)]
theorem aiI (args:Array Value)(w:World):(callFunc (107) args).run Tryz.prog w=.ok (.enter (107) args) w:=enters_of (f:=107) Tryz.func107 (by kernel_rfl) rfl args w
theorem info3:(Tryz.prog.info? 3).map (fun i=>(i.zero,i.size,i.bytes))=some (some (.int .i64 0),1,8):=by kernel_rfl
theorem OQ:cK CI oy:=by
 intro f args rc h out rc' h' q g U w fv us K kind s hf ha hr hK;unfold oy at q;split at q
 ·rename_i n;obtain⟨x,y,hx1,hy1,rfl⟩:=hf.fn_inv;cases hx1;cases hy1;cases ha with
  |cons r1 t1=>
  cases t1 with
  |cons r2 t2=>
  cases t2;rw[r1.nils_inv,r2.int_inv];have hk:kind=.normal:=hr;subst hk;have fin:∀ {v:Value} {w1:World} {g':Gh} {o:AV},Steps Tryz.prog (lone (Frame.enter Tryz.prog (107) #[.slice none 0 0,.int .i64 n] .normal) (K.c0::K.rest) w) (lone (K.c0.finish v) K.rest w1)->Ext g g'->Sim CI g' U h' w1->bA g' o v->Low h h'->rc'=.no->out=.ret o->
    ∃ d fr0,(∀ w,(Deferred.ofValue (.func (.func (107)) ⟨[]⟩ ⟨[]⟩) ⟨[.slice none 0 0,.int .i64 n]⟩).run CI.P w=.ok d w)/\Go.AG.IA CI.P d .normal w fr0/\∃ g' U' w',Ext g g'/\nX h.z U U'/\Sim CI g' U' h' w'/\Low h h'/\ub g' K .normal rc'/\
     xj CI.P K .normal rc' (lone fr0 (ei K .no) w) g' w' out:=by
   rintro v w1 g' o hst ex s' hv lw rfl rfl;refine⟨{target:=.fn (.func (107)) ⟨[]⟩,args:=⟨[.slice none 0 0,.int .i64 n]⟩},Frame.enter CI.P (107) ⟨[.slice none 0 0,.int .i64 n]⟩ .normal,fun w=>by simp[Deferred.ofValue],.inl ⟨107,⟨[.slice none 0 0,.int .i64 n]⟩,?_,rfl⟩,g',U,w1,ex,.refl _ _,s',lw,hr,v,hv,?_⟩
   ·exact aiI _ w
   ·show Steps CI.P (lone _ K.cs w) _;rw[hK];exact hst
  split at q
  ·rename_i h0;subst h0;cases q;have hc:Calls Tryz.prog (107) #[.slice none 0 0,.int .i64 0] w fun e w1=>∃ v,e=.returned v/\(v=.slice none 0 0/\w1=w):=
    (Any8.slices_Grow_room EK none 0 0 0 w (Nat.le_refl _) (by omega) (by omega) (by omega)).mono fun e w1 hh=>⟨_,hh.1,rfl,hh.2⟩
   obtain⟨v,w1,⟨rfl,rfl⟩,hst⟩:=aaW (c0:=K.c0) (rest:=K.rest) hc;exact fin hst (.refl g) s .nl (.refl _) rfl rfl
  ·split at q
   ·rename_i h0 h1;obtain⟨m,rfl⟩:∃ m:Nat,n=m:=⟨n.toNat,by omega⟩
    obtain⟨i0,hi,hz0,hz1,hz2⟩:=info_parts info3;have hc0:=Any8.slices_Grow_grow EK i0 (.int .i64 0) hi hz0 (by omega) none 0 0 m [] w (Nat.le_refl _) (by omega) (by rw[hz2];omega) (by omega) (by simp) (fun _=>rfl) (fun a h=>by cases h);have hge:=grownCap_ge w (0+m) 0 3;have hsz:((#[]:Array Value)++Builtin.zeroCells (Value.int .i64 0).cells (0+m-0)++Builtin.zeroCells (Value.int .i64 0).cells (grownCap w (0+m) 0 3-(0+m))).size=grownCap w (0+m) 0 3*1:=by
     simp only[Array.size_append,size_zeroCells];have:(Value.int .i64 0).cells.size=1:=rfl;rw[this];simp only[List.size_toArray,List.length_nil];omega
    have r25:qT.t 25=3:=rfl;rw[r25]at hc0;generalize grownCap w (0+m) 0 3=G at *;obtain⟨us,hus⟩:∃ us,us=((#[]:Array Value)++Builtin.zeroCells (Value.int .i64 0).cells (0+m-0)++Builtin.zeroCells (Value.int .i64 0).cells (G-(0+m))):=⟨_,rfl⟩
    rw[<- hus]at hsz;have hc:Calls Tryz.prog (107) #[.slice none 0 0,.int .i64 (m:Int)] w fun e w1=>∃ v,e=.returned v/\(v=.slice (some ⟨w.heap.size,0,none⟩) 0 G/\w1=w.drew.alloc (.cells us 3)):=
     hc0.mono fun e w1 hh=>⟨_,hh.1,rfl,by rw[hus];exact hh.2⟩
    obtain⟨v,w1,⟨rfl,rfl⟩,hst⟩:=aaW (c0:=K.c0) (rest:=K.rest) hc;cases q;obtain⟨g',w',hw',ex,s',hv'⟩:=oY (agg:=false) s.drew 3 (sz:=1) (n:=0) (us:=us) (cs:=[]) (by omega) G (Nat.zero_le _) (by omega) (by simp) .nil rfl;have:w'=w.drew.alloc (.cells us 3):=by simp[newRow]at hw';exact hw'.symm
    subst this;exact fin hst ex s' hv' (.new _ _) rfl rfl
   ·cases q
 ·cases q
end Go.Proofs.YtocdlbblemjabaaGreatDoor
namespace Go.Proofs.YtocdlbblemjabaaGreatDoor
open Go.Shelf Go.Proofs
def nZ:Go.Shelf.Ren:=⟨fun|6=>221|8=>232|9=>233|11=>240|13=>242|12=>241|23=>254|24=>236|14=>245|15=>246|16=>247|17=>248|18=>249|19=>250|20=>251|21=>252|22=>253|25=>255|26=>256|27=>257|28=>258|29=>259|30=>260|31=>261|n=>n,fun|26=>3|28=>264|24=>29|0=>0|3=>3|37=>279|48=>277|50=>270|4=>4|40=>286|39=>285|45=>90|5=>5|9=>9|51=>293|55=>297|57=>299|58=>75|33=>130|n=>n,fun|n=>n⟩
theorem Gi:Go.Proofs.SlLaysZI.n6 Tryz.prog nZ where
 mixed:=r_
 f6:=⟨ "slices.Sorted[int]",by decide,Tryz.func221.trans (congrArg some (by kernel_rfl))⟩
 f8:=⟨ "slices.Collect[int]",by decide,Tryz.func232.trans (congrArg some (by kernel_rfl))⟩
 f11:=⟨ "slices.AppendSeq[[]int,int]",by decide,Tryz.func240.trans (congrArg some (by kernel_rfl))⟩
 t0:=Tryz.underlying0
 a0:=Tryz.isAgg0
 z0:=Tryz.sizeOf0
 v0:=Tryz.zeroValue0
 t24:=Tryz.underlying29
 a24:=Tryz.isAgg29
 z24:=Tryz.sizeOf29
 v24:=Tryz.zeroValue29
 t26:=Tryz.underlying3
 a26:=Tryz.isAgg3
 z26:=Tryz.sizeOf3
 v26:=Tryz.zeroValue3
 t28:=Tryz.underlying264
 a28:=Tryz.isAgg264
 z28:=Tryz.sizeOf264
 v28:=Tryz.zeroValue264
 i26:=r_
def qS:Go.Shelf.Ren:=⟨fun|10=>234|n=>n,fun|33=>130|23=>249|0=>0|4=>4|26=>3|3=>3|n=>n,fun|n=>n⟩
theorem Vz:Go.Proofs.SlLaysZI.n10 Tryz.prog qS where
 mixed:=r_
 f10:=⟨ "maps.Keys[euclid/level.offsets,int,int]$1",by decide,Tryz.func234.trans (congrArg some (by kernel_rfl))⟩
 t0:=Tryz.underlying0
 a0:=Tryz.isAgg0
 z0:=Tryz.sizeOf0
 v0:=Tryz.zeroValue0
 t4:=Tryz.underlying4
 a4:=Tryz.isAgg4
 z4:=Tryz.sizeOf4
 v4:=Tryz.zeroValue4
 t23:=Tryz.underlying249
 a23:=Tryz.isAgg249
 z23:=Tryz.sizeOf249
 v23:=Tryz.zeroValue249
 t26:=Tryz.underlying3
 a26:=Tryz.isAgg3
 z26:=Tryz.sizeOf3
 v26:=Tryz.zeroValue3
 t33:=Tryz.underlying130
 a33:=Tryz.isAgg130
 z33:=Tryz.sizeOf130
 v33:=Tryz.zeroValue130
def CB:Go.Shelf.Ren:=⟨fun|189=>233|125=>242|257=>241|128=>254|129=>236|294=>245|295=>246|296=>247|297=>248|298=>249|299=>250|216=>251|300=>252|301=>253|328=>255|329=>256|330=>257|331=>258|332=>259|215=>260|343=>261|n=>n,fun|28=>29|3=>3|46=>279|0=>0|51=>277|53=>270|4=>4|183=>286|182=>285|131=>90|5=>5|9=>9|218=>293|222=>297|228=>299|229=>75|n=>n,fun|n=>n⟩
theorem Bj:Go.Proofs.Lays.n189 Tryz.prog CB where
 mixed:=r_
 f125:=Tryz.func242.trans (congrArg some (by kernel_rfl))
 f128:=Tryz.func254.trans (congrArg some (by kernel_rfl))
 f129:=Tryz.func236.trans (congrArg some (by kernel_rfl))
 f189:=Tryz.func233.trans (congrArg some (by kernel_rfl))
 f215:=Tryz.func260.trans (congrArg some (by kernel_rfl))
 f216:=Tryz.func251.trans (congrArg some (by kernel_rfl))
 f257:=Tryz.func241.trans (congrArg some (by kernel_rfl))
 f294:=Tryz.func245.trans (congrArg some (by kernel_rfl))
 f295:=Tryz.func246.trans (congrArg some (by kernel_rfl))
 f296:=Tryz.func247.trans (congrArg some (by kernel_rfl))
 f297:=Tryz.func248.trans (congrArg some (by kernel_rfl))
 f298:=Tryz.func249.trans (congrArg some (by kernel_rfl))
 f299:=Tryz.func250.trans (congrArg some (by kernel_rfl))
 f300:=Tryz.func252.trans (congrArg some (by kernel_rfl))
 f301:=Tryz.func253.trans (congrArg some (by kernel_rfl))
 f328:=Tryz.func255.trans (congrArg some (by kernel_rfl))
 f329:=Tryz.func256.trans (congrArg some (by kernel_rfl))
 f330:=Tryz.func257.trans (congrArg some (by kernel_rfl))
 f331:=Tryz.func258.trans (congrArg some (by kernel_rfl))
 f332:=Tryz.func259.trans (congrArg some (by kernel_rfl))
 f343:=Tryz.func261.trans (congrArg some (by kernel_rfl))
 t0:=Tryz.underlying0
 a0:=Tryz.isAgg0
 z0:=Tryz.sizeOf0
 v0:=Tryz.zeroValue0
 t3:=Tryz.underlying3
 a3:=Tryz.isAgg3
 z3:=Tryz.sizeOf3
 v3:=Tryz.zeroValue3
 t4:=Tryz.underlying4
 a4:=Tryz.isAgg4
 z4:=Tryz.sizeOf4
 v4:=Tryz.zeroValue4
 t5:=Tryz.underlying5
 a5:=Tryz.isAgg5
 z5:=Tryz.sizeOf5
 v5:=Tryz.zeroValue5
 t9:=Tryz.underlying9
 a9:=Tryz.isAgg9
 z9:=Tryz.sizeOf9
 v9:=Tryz.zeroValue9
 t28:=Tryz.underlying29
 a28:=Tryz.isAgg29
 z28:=Tryz.sizeOf29
 v28:=Tryz.zeroValue29
 t46:=Tryz.underlying279
 a46:=Tryz.isAgg279
 z46:=Tryz.sizeOf279
 v46:=Tryz.zeroValue279
 t51:=Tryz.underlying277
 a51:=Tryz.isAgg277
 z51:=Tryz.sizeOf277
 v51:=Tryz.zeroValue277
 t53:=Tryz.underlying270
 a53:=Tryz.isAgg270
 z53:=Tryz.sizeOf270
 v53:=Tryz.zeroValue270
 t131:=Tryz.underlying90
 a131:=Tryz.isAgg90
 z131:=Tryz.sizeOf90
 v131:=Tryz.zeroValue90
 t182:=Tryz.underlying285
 a182:=Tryz.isAgg285
 z182:=Tryz.sizeOf285
 v182:=Tryz.zeroValue285
 t183:=Tryz.underlying286
 a183:=Tryz.isAgg286
 z183:=Tryz.sizeOf286
 v183:=Tryz.zeroValue286
 t218:=Tryz.underlying293
 a218:=Tryz.isAgg293
 z218:=Tryz.sizeOf293
 v218:=Tryz.zeroValue293
 t222:=Tryz.underlying297
 a222:=Tryz.isAgg297
 z222:=Tryz.sizeOf297
 v222:=Tryz.zeroValue297
 t228:=Tryz.underlying299
 a228:=Tryz.isAgg299
 z228:=Tryz.sizeOf299
 v228:=Tryz.zeroValue299
 t229:=Tryz.underlying75
 a229:=Tryz.isAgg75
 z229:=Tryz.sizeOf75
 v229:=Tryz.zeroValue75
open Go.Sort Go.RowKit in
theorem ahU (blk off cap:Nat)(zs:List Int)(w:World)(hH:Holds (Value.int .i64) w blk off zs.toArray)(hblk:blk<w.heap.size)(hsz:zs.length<4611686018427387904):
  Calls Tryz.prog 233 #[.slice (some ⟨blk,off,none⟩) zs.length cap] w fun e w'=>
   e=.returned (.tuple #[])/\∃ n os,w'=grow (putRow (Value.int .i64) (Sort.ahead w n) blk off (zs.mergeSort fun x y=>decide (x<=y)).toArray) os:=Any.slices_Sort_int Bj blk off cap zs w hH hblk hsz
end Go.Proofs.YtocdlbblemjabaaGreatDoor
namespace Go.Proofs.YtocdlbblemjabaaGreatDoor
open Go.AG Go.AG.MK Go.Proofs
def KR (L:Es):Prop:=∀ k∈L.map (·.1),-65536<=k/\k<=7
theorem ac2 (args:Array Value)(w:World):(callFunc 233 args).run Tryz.prog w=.ok (.enter 233 args) w:=enters_of (f:=233) Bj.f189 (by kernel_rfl) rfl args w
theorem VW (args:Array Value)(w:World):(callFunc 221 args).run Tryz.prog w=.ok (.enter 221 args) w:=enters_of (f:=221) Tryz.func221 (by kernel_rfl) rfl args w
theorem VV (args:Array Value)(w:World):(callFunc 234 args).run Tryz.prog w=.ok (.enter 234 args) w:=enters_of (f:=234) Tryz.func234 (by kernel_rfl) rfl args w
theorem ukey:Tryz.prog.underlying 3=some (.int .i64):=r_
theorem abG (m:Nat):AnyZI.SortsIn Tryz.prog nZ Fence.wide m:=
 ⟨fun blk off cap ss W hH hblk hsz=>callsIn_wide.2 (ahU blk off cap ss W hH hblk hsz),fun p cap W=>callsIn_wide.2 (Any.slices_Sort_int_none Bj p cap W)⟩
theorem zd {g:Gh}: ∀ {L:Es} {es:List MapEntry},lH g (mpE L) es->es.map (·.key)=L.map fun e=>Value.int .i64 e.1
 |[],[],_=>rfl
 |[],_::_,h=>by cases h
 |_::_,[],h=>by cases h
 |e::L,x::es,h=>by
  cases h with
  |cons hk hv t=>rw[List.map_cons,List.map_cons,zd t,hk.int_inv]
def Rk (_:Value):Option (DataW Unit×List MemPlace):=some (.lit (.bool true),[])
theorem wf_kr {k:Int}(h : -65536<=k/\k<=7):(Lit.int .i64 k).wf=true:=by
 have e1:IntKind.i64.min=-9223372036854775808:=by decide
 have e2:IntKind.i64.max=9223372036854775807:=by decide
 show(decide (IntKind.i64.min<=k)&&decide (k<=IntKind.i64.max))=true;rw[e1,e2,t_,t_];rfl
def ahz:Value->Int
 |.int _ k=>k
 |_=>0
theorem ab7 {g:Gh}{w:World}{b clock:Nat}{mes:Array MapEntry}{L:Es}(hb:w.heap[b]?=some (.map mes clock))(he:lH g (mpE L) mes.toList)(hB:Uc mes clock)(hl:L.length<70000)(hn:(L.map (·.1)).Nodup)(hr:KR L):
  ∃ D0:DataW Unit,w.ownsMap Tryz.prog 3 Rk b L.length D0/\(intKeys D0).Perm (L.map (·.1))/\Maps.size D0=L.length:=by
 have hk:=zd he;have hlen:mes.size=L.length:=by have:=congrArg List.length hk;simpa using this
 have hkey:∀ x∈mes.toList,∃ k:Int,x.key=.int .i64 k/\(-65536<=k/\k<=7):=by
  intro x hx;have:x.key∈L.map fun e=>Value.int .i64 e.1:=by rw[<- hk];exact List.mem_map_of_mem hx
  obtain⟨e,he,hq⟩:=List.mem_map.1 this;exact⟨e.1,hq.symm,hr _ (List.mem_map_of_mem he)⟩
 have hrd:∀ x∈mes.toList,∀ k,x.key=.int .i64 k->WideElems.rd Tryz.prog 3 Rk x=some (.int .i64 k,.lit (.bool true)):=by
  intro x hx k hq;obtain⟨k',hq',hr'⟩:=hkey x hx;rw[hq]at hq';cases hq';unfold WideElems.rd;rw[hq,Maps.keyOf_int_mk ukey (wf_kr hr')];rfl
 refine⟨_,⟨mes,clock,hb,⟨?_,⟨hB.1,hB.2,?_⟩,fun x hx=>?_⟩,by omega,rfl⟩,?_,?_⟩
 ·rw[hlen];have:(70000:Nat)<=maxLen:=by decide
  omega
 ·rw[hk];have:(L.map fun e=>Value.int .i64 e.1)=(L.map (·.1)).map (Value.int .i64):=by rw[List.map_map];rfl
  rw[this];exact List.Pairwise.map _ (fun a b hne e=>hne (by cases e;rfl)) hn
 ·obtain⟨k,hq,_⟩:=hkey x hx;exact⟨_,hrd x hx k hq⟩
 ·have e1:∀ x∈mes.toList,Go.intOf (WideElems.rg Tryz.prog 3 Rk x).1=ahz x.key:=by
   intro x hx;obtain⟨k,hq,_⟩:=hkey x hx;have e3:WideElems.rg Tryz.prog 3 Rk x=((Lit.int .i64 k,DataW.lit (.bool true)):Lit×DataW Unit):=WideElems.rg_of (hrd x hx k hq);have e4:(WideElems.rg Tryz.prog 3 Rk x).1=Lit.int .i64 k:=congrArg Prod.fst e3;exact(congrArg Go.intOf e4).trans (congrArg ahz hq).symm
  have e5:(mes.toList.map (·.key)).map ahz=L.map (·.1):=by rw[hk,List.map_map];rfl
  generalize WideElems.rg Tryz.prog 3 Rk=rgf at e1 ⊢;show(((mes.toList.map rgf).foldr DataW.insert []).map fun p=>Go.intOf p.1).Perm _;refine((WideShapes.sorted_perm _).map _).trans ?_;have e2:(mes.toList.map rgf).map (fun p=>Go.intOf p.1)=(mes.toList.map (·.key)).map ahz:=by
   rw[List.map_map,List.map_map];exact List.map_congr_left fun x hx=>e1 x hx
  rw[e2,e5]
 ·show((mes.toList.map (WideElems.rg Tryz.prog 3 Rk)).foldr DataW.insert []).length=_;rw[(WideShapes.sorted_perm _).length_eq,List.length_map];simpa using hlen
theorem QU {g:Gh}{w:World}{b bm clock:Nat}{mes:Array MapEntry}{L:Es}(hm:w.cell? ⟨bm,0,none⟩=some (.map (some b)))(hb:w.heap[b]?=some (.map mes clock))(he:lH g (mpE L) mes.toList)(hB:Uc mes clock)(hl:L.length<70000)(hn:(L.map (·.1)).Nodup)(hr:KR L):
  Calls Tryz.prog 221 #[.func (.func 234) #[] #[.pointer (some ⟨bm,0,none⟩)]] w fun e w'=>∃ v,e=.returned v/\w'.ownsRow w.heap.size 3 1 v L.length ((eN L).map fun z=>Value.int .i64 z)/\RowKit.Below w.heap.size w w':=by
 obtain⟨D0,h1,h2,h3⟩:=ab7 hb he hB hl hn hr;have hBm:bm<w.heap.size:=block_lt_of_cell hm;have hseq:SeqGives Fence.wide 2 Tryz.prog 234 #[.pointer (some ⟨bm,0,none⟩)] Go.encZ (fun ss=>ss.Perm (intKeys D0)) (Maps.size D0) w:=
  AnyZI.keys_gives (ρ:=qS) Vz Fence.wide 2 trivial rfl o_ bm b L.length D0 w hBm hm h1
 have hmax:Maps.size D0<=maxLen:=by
                     rw[h3];have:(70000:Nat)<=maxLen:=by decide
                     omega
 have cS:=AnyZI.sorted_in Gi Fence.wide 5 trivial trivial trivial trivial rfl o_ (abG _) ac2 234 #[.pointer (some ⟨bm,0,none⟩)] trivial VV _ _ hmax (by rw[h3];omega) w hseq;refine(callsIn_wide.1 cS).mono ?_;rintro e w' ⟨v,ss,rfl,hS,hrow,_,hbel⟩;have hp:ss.Perm (L.map (·.1)):=hS.trans h2;have hlen:ss.length=L.length:=by rw[hp.length_eq,L_]
 have hsort:ss.mergeSort (fun x y=>decide (x<=y))=eN L:=mergeSort_of_perm_i hp;refine⟨v,rfl,?_,hbel⟩;rw[hlen,hsort]at hrow;exact hrow
open Classical in
def qI:aQ:=fun f a rc h=>match f,a,rc with
 |.fn 221 [] [],[.fn 234 [] [.ptr kb 0 0]],.no=>
  if hx:∃ L:Es,(∃ km,h.get kb=some (.box [.map km])/\h.get km=some (.map (mpE L)))/\L.length<70000/\(L.map (·.1)).Nodup/\KR L then some (.ret (.ls ((eN hx.choose).map AG.aO)),.no,h) else none
 |_,_,_=>none
theorem YT:∀ {L M:Es},mpE L=mpE M->L=M
 |[],[],_=>rfl
 |[],_::_,h=>by cases h
 |_::_,[],h=>by cases h
 |(a,b)::L,(c,d)::M,h=>by
  simp only[mpE,mpg,AG.aO,List.map_cons,List.cons.injEq,Prod.mk.injEq,AV.int.injEq,true_and]at h;obtain⟨⟨rfl,rfl⟩,h⟩:=h;rw[YT h]
theorem FE {kb km:Nat}{L:Es}{h:AH}(h1:h.get kb=some (.box [.map km]))(h2:h.get km=some (.map (mpE L)))(h3:L.length<70000)(h4:(L.map (·.1)).Nodup)(h5:KR L):
  qI (.fn 221 [] []) [.fn 234 [] [.ptr kb 0 0]] .no h=some (.ret (.ls ((eN L).map AG.aO)),.no,h):=by
 have hx:∃ L:Es,(∃ km,h.get kb=some (.box [.map km])/\h.get km=some (.map (mpE L)))/\L.length<70000/\(L.map (·.1)).Nodup/\KR L:=⟨L,⟨km,h1,h2⟩,h3,h4,h5⟩
 have e:qI (.fn 221 [] []) [.fn 234 [] [.ptr kb 0 0]] .no h=some (.ret (.ls ((eN hx.choose).map AG.aO)),.no,h):=dif_pos hx;have:hx.choose=L:=by
  obtain⟨⟨km',q1,q2⟩,_⟩:=hx.choose_spec;rw[h1]at q1;injection q1 with q1;injection q1 with q1;injection q1 with q1;injection q1 with q1;subst q1;rw[h2]at q2;injection q2 with q2;injection q2 with q2;exact(YT q2).symm
 rw[e,this]
theorem acG {us:Array Value}{w:World}{c0:Frame}{rest:List Frame}{Rr:Value->World->Prop}(hc:Calls Tryz.prog 221 us w fun e w1=>∃ v,e=.returned v/\Rr v w1):
  ∃ v w1,Rr v w1/\Steps Tryz.prog (lone (Frame.enter Tryz.prog 221 us .normal) (c0::rest) w) (lone (c0.finish v) rest w1):=by
 obtain⟨e,w',fr,⟨v,rfl,hR⟩,hcomes,hfn,hleave⟩:=hc (c0::rest);exact⟨v,w',hR,Steps.trans hcomes (.one (step_leave_returned hleave))⟩
theorem vi {g:Gh}: ∀ (zs:List Int),aY g (zs.map AG.aO) (zs.map (Value.int .i64))
 |[]=>.nil
 |_z::zs=>.cons (.int _ _) (vi zs)
theorem yP (zs:List Int):flat (zs.map AG.aO)=zs.map AG.aO:=by
 induction zs with
 |nil=>rfl
 |cons z zs ih=>rw[List.map_cons,cw,ih];rfl
theorem abH:cK CI qI:=by
 intro f args rc h out rc' h' q g U w fv us K kind s hf ha hr hK;unfold qI at q;split at q
 ·rename_i kb;split at q
  ·rename_i hx;cases q;obtain⟨⟨km,q1,q2⟩,q3,q4,q5⟩:=hx.choose_spec;generalize hx.choose=L at q1 q2 q3 q4 q5 ⊢;obtain⟨x,y,hx1,hy1,rfl⟩:=hf.fn_inv;cases hx1;cases hy1;cases ha with
   |@cons _ u _ _ hu ht=>
    cases ht;obtain⟨x,y,hx1,hy1,rfl⟩:=hu.fn_inv;cases hx1;cases hy1 with
    |@cons _ u2 _ _ hu2 ht2=>
     cases ht2;obtain⟨l,hl,rfl⟩:=hu2.ptr_inv;have hkU:=s.live hl;obtain⟨l',r1,r2,r3⟩:=s.obj kb _ q1 hkU;have r1:g.ρ kb 0=some l':=r1;rw[hl]at r1;cases r1;obtain⟨hb0,bus,bt,be,bv,_,_⟩:=r3;obtain⟨u,ebus⟩:∃ u,bus.toList=[u]/\bA g (.map km) u:=by
      cases hbl:bus.toList with
      |nil=>rw[hbl]at bv;cases bv
      |cons u rest=>
       rw[hbl]at bv;cases bv with
       |cons hu3 ht3=>cases ht3;exact⟨u,rfl,hu3⟩
     obtain⟨ebus,hum⟩:=ebus;obtain⟨lm,hlm,rfl⟩:=hum.map_inv;have hmU:=s.live hlm;obtain⟨lm',m1,m2,m3⟩:=s.obj km _ q2 hmU;have m1:g.ρ km 0=some lm':=m1;rw[hlm]at m1;cases m1;obtain⟨mes,clock,m4,m5,m6⟩:=m3;have hcell:w.cell? ⟨l.block,0,none⟩=some (.map (some lm.block)):=by
      rw[cell_of_row _ _ _ bus bt (0,0) be];have:bus.toList[0]?=some (Value.map (some lm.block)):=by rw[ebus];rfl
      simpa using this
     have hk:kind=.normal:=hr;subst hk;obtain⟨v,w1,⟨hrow,hbel⟩,hst⟩:=acG (c0:=K.c0) (rest:=K.rest) (QU hcell m4 m5 m6 q3 q4 q5);obtain⟨b1,b2,b3,b4,b5⟩:=hbel;obtain⟨hlen,hcase⟩:=hrow;have hks:(eN L).length=L.length:=by simpa using hlen
     have hread:∃ g',Ext g g'/\Sim CI g' U h w1/\bA g' (.ls ((eN L).map AG.aO)) v:=by
      rcases hcase with⟨rfl,hz⟩|⟨gb,cap,cur,rfl,hgb,e1,e2,e3,e4,e5⟩
      ·have:eN L=[]:=List.eq_nil_of_length_eq_zero o_;rw[this];exact⟨g,.refl g,s.wider b5 b4 b2 b1 b3,.lst0⟩
      ·have hF:∀ o v,(if o<L.length then cur[o]? else none)=some v->w1.cell? ⟨gb,o,none⟩=some v:=by
        intro o v hv;rw[cell_of_row _ _ _ cur 3 (0,0) e1];by_cases ho:o<L.length
        ·rw[P_ ho]at hv;exact hv
        ·rw[N_ ho]at hv;cases hv
       obtain⟨ex,s'⟩:=s.more hgb (F:=fun o=>if o<L.length then cur[o]? else none) hF b5 b4 b2 b1 b3;refine⟨_,ex,s',?_⟩;have hget:∀ i u,((eN L).map fun z=>Value.int .i64 z)[i]?=some u->cur[i]?=some u/\i<L.length:=by
        intro i u hu;have hi:i<L.length:=by
         have:=(E_.1 hu).1;simpa [hks] using this
        rw[<- e5,List.getElem?_take,P_ o_]at hu;exact⟨by simpa using hu,hi⟩
       have hC:eu {g with F:=fun b o=>if b=gb then (if o<L.length then cur[o]? else none) else g.F b o} gb 0 (flat ((eN L).map AG.aO)):=by
        rw[yP];refine eu.mk (vi _) fun i u hu=>?_
        obtain⟨c1,c2⟩:=hget i u hu;show(if gb=gb then (if 0+i<L.length then cur[0+i]? else none) else g.F gb (0+i))=some u;rw[P_ rfl,z_,P_ c2];exact c1
       refine .ls (sz:=1) (fun e he=>by obtain⟨z,_,rfl⟩:=List.mem_map.1 he;rfl) ?_ (by simp[hks]) (by simp[hks];omega) hC;rw[yP,dc];intro a ha;obtain⟨z,_,rfl⟩:=List.mem_map.1 ha;rfl
     obtain⟨g',ex,s',hv⟩:=hread;refine⟨{target:=.fn (.func 221) ⟨[]⟩,args:=⟨[.func (.func 234) ⟨[]⟩ ⟨[.pointer (some ⟨l.block,l.base+0,none⟩)]⟩]⟩},Frame.enter CI.P 221 ⟨[.func (.func 234) ⟨[]⟩ ⟨[.pointer (some ⟨l.block,l.base+0,none⟩)]⟩]⟩ .normal,fun w=>by simp[Deferred.ofValue],.inl ⟨221,⟨[.func (.func 234) ⟨[]⟩ ⟨[.pointer (some ⟨l.block,l.base+0,none⟩)]⟩]⟩,?_,rfl⟩,g',U,w1,ex,.refl _ _,s',.refl _,hr,v,hv,?_⟩
     ·exact VW _ w
     ·show Steps CI.P (lone _ K.cs w) _;rw[hK,hb0]at *;exact hst
  ·cases q
 ·cases q
