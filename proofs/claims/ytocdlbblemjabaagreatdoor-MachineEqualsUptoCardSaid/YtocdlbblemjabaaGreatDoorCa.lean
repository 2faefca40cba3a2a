/- Lemmas for MachineEquals (no condition). -/
import Derived.Test.YtocdlbblemjabaaGreatDoorBz
import Derived.Test.YtocdlbblemjabaaGreatDoorBj
import Derived.Shelf.Sort.Plain
import Derived.Shelf.SlIterI.Nil
import Derived.Shelf.Slices.In.SortNone
noncomputable section
namespace Go.AG
theorem Sim.wider {C:Cx}{g:Gh}{U:Nat->Option (List AV)}{h:AH}{w a:World}(s:Sim C g U h w)(c:∀b,b<w.heap.size->a.heap[b]?=w.heap[b]?)(hs:w.heap.size<=a.heap.size)
  (n:a.tape=w.tape) (ho:a.os=w.os) (i:a.output=w.output):Sim C g U h a:=by
 constructor
 ·intro b o v e;rw[po (c b (s.frz_lt e))];exact s.frz b o v e
 ·intro k o e u;obtain⟨l,j,m,d⟩:=s.obj k o e u;exact⟨l,j,m,d.kw (.refl g) (c _ d.block_lt) (λ_ _ q=>q) (λ_ _ q=>q)⟩
 ·exact s.lt
 ·exact s.unb
 ·exact s.rlt
 ·exact s.sep
 ·intro b f;rw[c b (Nat.lt_of_lt_of_le f s.sz)];exact s.old b f
 ·exact Nat.le_trans s.sz hs
 ·rw[n];exact s.tape
 ·rw[ho];exact s.os
 ·rw[i];exact s.output
 exact s.ini
theorem Sim.more {C:Cx}{g:Gh}{U:Nat->Option (List AV)}{h:AH}{w c:World}(s:Sim C g U h w){a:Nat}(B:w.heap.size<=a){F:Nat->Option Value}(t:∀o v,F o=some v->c.cell? ⟨a,o,none⟩=some v)
  (j:∀b,b<w.heap.size->c.heap[b]?=w.heap[b]?) (hs:w.heap.size<=c.heap.size) (A:c.tape=w.tape) (ho:c.os=w.os) (r:c.output=w.output) :
  Ext g {g with F:=λb o=>if b=a then F o else g.F b o}/\Sim C {g with F:=λb o=>if b=a then F o else g.F b o} U h c:=by
 have n:∀b o v,g.F b o=some v->b≠a:=λb o v e=>by have:=s.frz_lt e;omega
 have ex:Ext g {g with F:=λb o=>if b=a then F o else g.F b o}:=by
  refine⟨λb o v e=>?_,λ_ _ _ h=>h,rfl,λb o v d e=>?_⟩
  ·show(if b=a then F o else g.F b o)=some v;rw[N_ (n b o v e)];exact e
  have y:=s.sz;have e:(if b=a then F o else g.F b o)=some v:=e;rw[N_ o_]at e;exact e
 refine⟨ex,?_⟩;constructor
 ·intro b o v e;have f:(if b=a then F o else g.F b o)=some v:=e;by_cases d:b=a
  ·rw[P_ d]at f;rw[d];exact t o v f
  rw[N_ d]at f;rw[po (j b (s.frz_lt f))];exact s.frz b o v f
 ·intro k o e u;obtain⟨l,x,z,p⟩:=s.obj k o e u;have m:=p.block_lt;refine⟨l,x,z,p.kw ex (j _ m) (λi v q=>?_) (λ_ _ q=>q)⟩;have q:(if l.block=a then F i else g.F l.block i)=some v:=q;rw[N_ o_]at q;exact q
 ·exact s.lt
 ·exact s.unb
 ·exact s.rlt
 ·exact s.sep
 ·intro b d;rw[j b (Nat.lt_of_lt_of_le d s.sz)];exact s.old b d
 ·exact Nat.le_trans s.sz hs
 ·rw[A];exact s.tape
 ·rw[ho];exact s.os
 ·rw[r];exact s.output
 exact s.ini
end Go.AG
namespace Go.Proofs.YtocdlbblemjabaaGreatDoor
open Go.AG Go.AG.MK Go.Proofs Go.RowKit
theorem WJ {f:FuncId}{d:Array Value}{w:World}{c0:Frame}{rest:List Frame}{Rr:Value->World->Prop}(h:Calls Tryz.prog f d w λe c=>∃v,e=.returned v/\Rr v c):
  ∃v c,Rr v c/\Steps Tryz.prog (lone (Frame.enter Tryz.prog f d .normal) (c0::rest) w) (lone (c0.finish v) rest c):=by
 obtain⟨e,g,k,⟨v,rfl,i⟩,a,j,b⟩:=h (c0::rest);exact⟨v,g,i,Steps.trans a (.one (step_leave_returned b))⟩
section
variable {g:Gh}{U:Nat->Option (List AV)}{h:AH}{w:World}
theorem cr_at {d:List AV}{c b a n:Nat}{v:AV}(hs:∀e∈d,e.cells.length=c)(f:fO g b a (bJ d))(h:d[n]?=some v):fO g b (a+n*c) v.cells:=by
 have q:=Go.AG.qI hs h;have k:=f.sub (n*c) c (by have:=q.2;omega);rw[q.1]at k;exact k
theorem Kt {m:Type}{f:m->AV}{sz:Nat}(o:∀x,(f x).cells.length=sz){l:List m}{u:Value}(n:bR g (.ls (l.map f)) u):
  ∃d h,u=.slice d l.length h/\∀(j:Nat) x,l[j]?=some x->∃b c,d=some ⟨b,c,none⟩/\fO g b (c+j*sz) (f x).cells:=by
 obtain⟨a,h,rfl,_,i⟩:=n.lst_inv;rw[L_];refine⟨a,h,rfl,λj x hx=>?_⟩;rcases i with i|⟨k,b,c,rfl,hs,_,i⟩
 ·rw[List.map_eq_nil_iff]at i;subst i;cases hx
 have hm:(l.map f)[j]?=some (f x):=by rw[List.getElem?_map,hx];rfl
 have e:k=sz:=(hs _ (m_ hm)).symm.trans (o x);subst e;exact⟨b,c,rfl,cr_at hs i hm⟩
theorem adl (s:Sim CI g U h w){l:List LV}{u:Value}(k:bR g (.eV l) u):RVs w u l:=by
 obtain⟨a,i,rfl,hx⟩:=Kt gG k;refine⟨a,i,rfl,λj x m=>?_⟩;obtain⟨b,c,rfl,f⟩:=hx j x m;refine⟨b,c,rfl,?_⟩;have f:=f;cases f with
 |cons d n p=>
  cases p with
  |cons e o q=>
   rw[n.int_inv]at d;rw[o.int_inv]at e;rw[Nat.mul_comm]at d e;exact⟨s.frz_lt d,s.frz _ _ _ d,s.frz _ _ _ e⟩
theorem adn (s:Sim CI g U h w){l:List LL}{u:Value}(k:bR g (.eL l) u):RLs w u l:=by
 obtain⟨a,f,rfl,hx⟩:=Kt fj k;refine⟨a,f,rfl,λj x m=>?_⟩;obtain⟨b,c,rfl,e⟩:=hx j x m;have e:=e;cases e with
 |@cons _ _ _ _ u1 d n o=>
  cases o with
  |@cons _ _ _ _ u2 i p q=>
   rw[n.int_inv]at d;rw[Nat.mul_comm]at d i;exact⟨b,c,u2,rfl,s.frz_lt d,s.frz _ _ _ d,s.frz _ _ _ i,adl s p⟩
theorem ado (s:Sim CI g U h w){l:List Int}{u:Value}(i:bR g (.eI l) u):RKs w u l:=by
 obtain⟨a,e,rfl,hx⟩:=Kt (f:=AG.bh) (sz:=1) (λ_=>rfl) i;refine⟨a,e,rfl,λj x k=>?_⟩;obtain⟨b,c,rfl,d⟩:=hx j x k;refine⟨b,c,rfl,?_⟩;have d:=d;cases d with
 |cons f m n=>
  rw[m.int_inv,Nat.mul_one]at f;exact⟨s.frz_lt f,s.frz _ _ _ f⟩
theorem ac8 (s:Sim CI g U h w):Lib.TabIs Tryz.prog w "internal/strconv.uint64pow10" .u64 Lib.pow10Tab:=Kg _ _ (show Lib.TabIs Tryz.prog g.w0 _ _ _ from s.ini) s.old
end
theorem FB {n:Int}(h:inI n):(Lib.itoa n).length<=21:=Lib.itoa_length_le n h.1 h.2
theorem qg {a:Type}{f:a->List UInt8}{b:Nat}: ∀{l:List a},(∀x∈l,(f x).length<=b)->(l.flatMap f).length<=l.length*b
 |[],_=>by simp
 |x::l,h=>by
  have e:=h x (List.mem_cons_self ..);have d:=qg (l:=l) λy c=>h y (List.mem_cons_of_mem _ c)
  rw[List.flatMap_cons,List.length_append,List.length_cons,Nat.add_mul,Nat.one_mul];omega
theorem xV {n:Int}(a : -70000<=n)(b:n<=70000):inI n:=⟨o_,o_⟩
theorem NOK.inr {n:NV}(o:NOK n)(a:∀l∈n.L,l.V.length<=70000)(f:n.L.length<=10)(hk:n.K.length<=10):InR n where
 k:=xV (by have:=o.nd.k0;omega) (by have:=o.nd.k1;omega)
 i:=xV (by have:=o.nd.i0;omega) (by have:=o.nd.i1;omega)
 l x hx:=by
  have v:=o.nd.val x hx;refine⟨xV (by have:=v.c0;omega) (by have:=v.c1;omega),λy b=>?_⟩;obtain⟨i,hi⟩:=List.getElem?_of_mem b;obtain⟨g,e,c,h⟩:=v.rng i y hi;exact⟨xV o_ o_,xV o_ o_⟩
 d x hx:=by have:=o.kr x hx;exact xV o_ o_
 nl:=o_
 nv x hx:=by have:=a x hx;omega
 nk:=o_
theorem Tg {n:NV}(r:InR n)(d:∀l∈n.L,l.V.length<=70000)(i:n.L.length<=10)(hk:n.K.length<=10)(hs:n.N.size<=1000):(dN n).length<=1000000000:=by
 have h:=FB r.k;have e:=FB r.i;have m:n.N.data.toList.length<=1000:=by rw[Array.length_toList];exact hs
 have j:(n.L.flatMap uf).length<=n.L.length*4000000:=qg λx hx=>by
  obtain⟨a,b⟩:=r.l x hx;have:=FB a;have g:(x.V.flatMap λv=>Lib.itoa v.X++32::(Lib.itoa v.P++[32])).length<=x.V.length*44:=qg λy c=>by
   have:=FB (b y c).1;have:=FB (b y c).2;simp only[List.length_append,List.length_cons,List.length_nil];omega
  have:=d x hx;unfold uf;simp only[List.length_append,List.length_cons];omega
 have f:(n.K.flatMap λk=>Lib.itoa k++[32]).length<=n.K.length*22:=qg λx hx=>by
  have:=FB (r.d x hx);simp only[List.length_append,List.length_cons,List.length_nil];omega
 unfold dN;simp only[List.length_append,List.length_cons];omega
theorem TD {a b:NV}(h:bU a=bU b):a=b:=by
 obtain⟨k,i,nm,l,d⟩:=a;obtain⟨j,g,e,n,m⟩:=b;simp only[bU,AV.agg.injEq,List.cons.injEq,AV.int.injEq,AV.str.injEq,AV.ls.injEq,true_and,and_true]at h;obtain⟨rfl,rfl,rfl,f,c⟩:=h;rw[zy (λ_ _=>TF) f,zy (λ_ _=>TG) c]
open Classical in
def yk:aN:=λf a b h=>match f,a,b with
 |.fn 138 [] [],[v],.no=>if hx:∃n:NV,v=bU n/\NOK n then some (.ret (.str (bs (dN hx.choose))),.no,h) else none
 |_,_,_=>none
theorem Ty (args:Array Value)(w:World):(callFunc 138 args).run Tryz.prog w=.ok (.enter 138 args) w:=enters_of (f:=138) Tryz.func138 (by kernel_rfl) rfl args w
theorem Cv {n:NV}(a:NOK n)(h:AH):yk (.fn 138 [] []) [bU n] .no h=some (.ret (.str (bs (dN n))),.no,h):=by
 have hx:∃m:NV,bU n=bU m/\NOK m:=⟨n,rfl,a⟩
 have e:yk (.fn 138 [] []) [bU n] .no h=some (.ret (.str (bs (dN hx.choose))),.no,h):=dif_pos hx;rw[e,<-TD hx.choose_spec.1]
theorem NOK.few {n:NV}(o:NOK n):(∀l∈n.L,l.V.length<=70000)/\n.L.length<=10/\n.K.length<=10:=by
 refine⟨λl e=>by have:=(o.nd.val l e).len;omega,?_,?_⟩
 ·obtain⟨f,d,c⟩:=o.nd.lev;by_cases b:n.D=2
  ·have:=f b;omega
  by_cases a:n.D=3
  ·have:=d a;omega
  rw[c b a];simp
 have h:=o.nd.K;unfold cN at h;split at h
 ·omega
 split at h
 ·omega
 split at h<;>omega
theorem UM:dD CI yk:=by
 intro f args X h out D Z q g U w Y V K a s G J r T;unfold yk at q;split at q
 ·split at q
  ·rename_i hx;cases q;obtain⟨A,d⟩:=hx.choose_spec;generalize hx.choose=n at A d ⊢;subst A;obtain⟨x,y,k,j,rfl⟩:=G.fn_inv;cases k;cases j;cases J with
   |@cons _ u _ _ F L=>
    cases L;obtain⟨W,_,l,rfl⟩:=bR.agg_inv F;cases l with
    |cons Q S=>
    cases S with
    |cons R C=>
    cases C with
    |cons O N=>
    cases N with
    |@cons _ u4 _ _ M P=>
    cases P with
    |@cons _ b _ _ I H=>
    cases H;rw[Q.int_inv,R.int_inv,O.str_inv];have hk:=r;subst hk;obtain⟨B,t,p⟩:=d.few;have z:=d.inr B t p;have E:Calls Tryz.prog 138 #[.agg #[.int .i64 n.D,.int .i64 n.X,.string n.N,u4,b]] w λe i=>∃v,e=.returned v/\(v=.string ⟨(dN n).toArray⟩/\Below w.heap.size w i):=
     (Td n u4 b w (adn s M) (ado s I) z (Tg z B t p d.nd.short) (ac8 s)).mono λe i o=>⟨_,o.1,rfl,o.2⟩
    obtain⟨v,i,⟨rfl,c⟩,m⟩:=WJ (c0:=K.c0) (rest:=K.rest) E;refine⟨{target:=.fn (.func 138) ⟨[]⟩,args:=⟨[.agg ⟨[.int .i64 n.D,.int .i64 n.X,.string n.N,u4,b]⟩]⟩},Frame.enter CI.P 138 ⟨[.agg ⟨[.int .i64 n.D,.int .i64 n.X,.string n.N,u4,b]⟩]⟩ .normal,λw=>by simp[Deferred.ofValue],.inl ⟨138,⟨[.agg ⟨[.int .i64 n.D,.int .i64 n.X,.string n.N,u4,b]⟩]⟩,?_,rfl⟩,g,U,i,.refl g,.refl _ _,s.wider c.block c.size c.tape c.os c.output,.refl _,r,_,.str _,?_⟩
    ·exact Ty _ w
    show Steps CI.P (lone _ K.cs w) _;rw[T];exact m
  cases q
 cases q
open Classical in
def rf:aN:=λf a b h=>match f,a,b with
 |.fn 107 [] [],[.nl,.int .i64 n],.no=>if n=0 then some (.ret .nl,.no,h) else if 0<n/\n<=10000000000 then some (.ret (.row h.z 0 1 0 0),.no,h.new (.row 0 1 false [] 0)) else none
 |_,_,_=>none
theorem OZ (h:AH):rf (.fn 107 [] []) [.nl,.I 0] .no h=some (.ret .nl,.no,h):=rfl
theorem Tn (n:Nat)(h:AH)(a:0<n)(b:n<=10000000000):rf (.fn 107 [] []) [.nl,.I (n:Int)] .no h=some (.ret (.row h.z 0 1 0 0),.no,h.new (.row 0 1 false [] 0)):=by
 show(if (n:Int)=0 then _ else if 0<(n:Int)/\(n:Int)<=10000000000 then _ else _)=_;rw[N_ o_,P_ o_]
theorem ad8 (args:Array Value)(w:World):(callFunc (107) args).run Tryz.prog w=.ok (.enter (107) args) w:=enters_of (f:=107) Tryz.func107 (by kernel_rfl) rfl args w
theorem info3:(Tryz.prog.info? 3).map (λi=>(i.zero,i.size,i.bytes))=some (some (.int .i64 0),1,8):=r_
theorem MN:dD CI rf:=by
 intro f args rc h out j B q g U w fv k K p s S T M Z;unfold rf at q;split at q
 ·rename_i n;obtain⟨x,y,F,E,rfl⟩:=S.fn_inv;cases F;cases E;cases T with
  |cons W Y=>
  cases Y with
  |cons X P=>
  cases P;rw[W.nils_inv,X.int_inv];have hk:=M;subst hk;have fin:∀{v:Value} {b:World} {c:Gh} {o:AV},Steps Tryz.prog (lone (Frame.enter Tryz.prog (107) #[.slice none 0 0,.int .i64 n] .normal) (K.c0::K.rest) w) (lone (K.c0.finish v) K.rest b)->Ext g c->Sim CI c U B b->bR c o v->Low h B->j=.no->out=.ret o->
    ∃d r,(∀w,(Deferred.ofValue (.func (.func (107)) ⟨[]⟩ ⟨[]⟩) ⟨[.slice none 0 0,.int .i64 n]⟩).run CI.P w=.ok d w)/\Go.AG.KN CI.P d .normal w r/\∃c N A,Ext g c/\xZ h.z U N/\Sim CI c N B A/\Low h B/\ye c K .normal j/\
     JZ CI.P K .normal j (lone r (gR K .no) w) c A out:=by
   rintro v b c o i ex I R Q rfl rfl;refine⟨{target:=.fn (.func (107)) ⟨[]⟩,args:=⟨[.slice none 0 0,.int .i64 n]⟩},Frame.enter CI.P (107) ⟨[.slice none 0 0,.int .i64 n]⟩ .normal,λw=>by simp[Deferred.ofValue],.inl ⟨107,⟨[.slice none 0 0,.int .i64 n]⟩,?_,rfl⟩,c,U,b,ex,.refl _ _,I,Q,M,v,R,?_⟩
   ·exact ad8 _ w
   show Steps CI.P (lone _ K.cs w) _;rw[Z];exact i
  split at q
  ·rename_i O;subst O;cases q;have C:Calls Tryz.prog (107) #[.slice none 0 0,.int .i64 0] w λe b=>∃v,e=.returned v/\(v=.slice none 0 0/\b=w):=
    (Any8.slices_Grow_room Hp none 0 0 0 w (e_ _) o_ o_ o_).mono λe b l=>⟨_,l.1,rfl,l.2⟩
   obtain⟨v,b,⟨rfl,rfl⟩,i⟩:=WJ (c0:=K.c0) (rest:=K.rest) C;exact fin i (.refl g) s .nl (.refl _) rfl rfl
  split at q
  ·rename_i O h1;obtain⟨m,rfl⟩:∃m:Nat,n=m:=⟨n.toNat,o_⟩
   obtain⟨i0,hi,D,V,J⟩:=info_parts info3;have t:=Any8.slices_Grow_grow Hp i0 (.int .i64 0) hi D o_ none 0 0 m [] w (e_ _) o_ (by rw[J];omega) o_ (by simp) (λ_=>rfl) (λa h=>by cases h);have aa:=grownCap_ge w (0+m) 0 3;have H:((#[]:Array Value)++Builtin.zeroCells (Value.int .i64 0).cells (0+m-0)++Builtin.zeroCells (Value.int .i64 0).cells (grownCap w (0+m) 0 3-(0+m))).size=grownCap w (0+m) 0 3*1:=by
    simp only[Array.size_append,size_zeroCells];have:(Value.int .i64 0).cells.size=1:=rfl;rw[this];simp only[List.size_toArray,List.length_nil];omega
   have r25:uD.t 25=3:=rfl;rw[r25]at t;generalize grownCap w (0+m) 0 3=G at *;obtain⟨k,u⟩:∃k,k=((#[]:Array Value)++Builtin.zeroCells (Value.int .i64 0).cells (0+m-0)++Builtin.zeroCells (Value.int .i64 0).cells (G-(0+m))):=⟨_,rfl⟩
   rw[<-u]at H;have C:Calls Tryz.prog (107) #[.slice none 0 0,.int .i64 (m:Int)] w λe b=>∃v,e=.returned v/\(v=.slice (some ⟨w.heap.size,0,none⟩) 0 G/\b=w.drew.alloc (.cells k 3)):=
    t.mono λe b l=>⟨_,l.1,rfl,by rw[u];exact l.2⟩
   obtain⟨v,b,⟨rfl,rfl⟩,i⟩:=WJ (c0:=K.c0) (rest:=K.rest) C;cases q;obtain⟨c,A,z,ex,I,L⟩:=wD (agg:=false) s.drew 3 (sz:=1) (n:=0) (us:=k) (cs:=[]) o_ G (Nat.zero_le _) o_ (by simp) .nil rfl;have:A=w.drew.alloc (.cells k 3):=by simp[newRow]at z;exact z.symm
   subst this;exact fin i ex I L (.new _ _) rfl rfl
  cases q
 cases q
end Go.Proofs.YtocdlbblemjabaaGreatDoor
namespace Go.Proofs.YtocdlbblemjabaaGreatDoor
open Go.Shelf Go.Proofs
def qR:Go.Shelf.Ren:=⟨λ|6=>221|8=>232|9=>233|11=>240|13=>242|12=>241|23=>254|24=>236|14=>245|15=>246|16=>247|17=>248|18=>249|19=>250|20=>251|21=>252|22=>253|25=>255|26=>256|27=>257|28=>258|29=>259|30=>260|31=>261|n=>n,λ|26=>3|28=>264|24=>29|0=>0|3=>3|37=>279|48=>277|50=>270|4=>4|40=>286|39=>285|45=>90|5=>5|9=>9|51=>293|55=>297|57=>299|58=>75|33=>130|n=>n,λ|n=>n⟩
theorem IT:Go.Proofs.SlLaysZI.n6 Tryz.prog qR where
 mixed:=r_
 f6:=⟨ "slices.Sorted[int]",by decide,Tryz.func221.trans s_⟩
 f8:=⟨ "slices.Collect[int]",by decide,Tryz.func232.trans s_⟩
 f11:=⟨ "slices.AppendSeq[[]int,int]",by decide,Tryz.func240.trans s_⟩
 t0:=Tryz.underlying0
 a0:=Tryz.isAgg0
 z0:=Tryz.sizeOf0
 v0:=Tryz.zeroValue0
 t24:=Tryz.underlying29
 a24:=Tryz.isAgg29
 z24:=Tryz.sizeOf29
 v24:=Tryz.zeroValue29
 t26:=Tryz.underlying3
 a26:=Tryz.isAgg3
 z26:=Tryz.sizeOf3
 v26:=Tryz.zeroValue3
 t28:=Tryz.underlying264
 a28:=Tryz.isAgg264
 z28:=Tryz.sizeOf264
 v28:=Tryz.zeroValue264
 i26:=r_
def uC:Go.Shelf.Ren:=⟨λ|10=>234|n=>n,λ|33=>130|23=>249|0=>0|4=>4|26=>3|3=>3|n=>n,λ|n=>n⟩
theorem Tb:Go.Proofs.SlLaysZI.n10 Tryz.prog uC where
 mixed:=r_
 f10:=⟨ "maps.Keys[euclid/level.offsets,int,int]$1",by decide,Tryz.func234.trans s_⟩
 t0:=Tryz.underlying0
 a0:=Tryz.isAgg0
 z0:=Tryz.sizeOf0
 v0:=Tryz.zeroValue0
 t4:=Tryz.underlying4
 a4:=Tryz.isAgg4
 z4:=Tryz.sizeOf4
 v4:=Tryz.zeroValue4
 t23:=Tryz.underlying249
 a23:=Tryz.isAgg249
 z23:=Tryz.sizeOf249
 v23:=Tryz.zeroValue249
 t26:=Tryz.underlying3
 a26:=Tryz.isAgg3
 z26:=Tryz.sizeOf3
 v26:=Tryz.zeroValue3
 t33:=Tryz.underlying130
 a33:=Tryz.isAgg130
 z33:=Tryz.sizeOf130
 v33:=Tryz.zeroValue130
def Fz:Go.Shelf.Ren:=⟨λ|189=>233|125=>242|257=>241|128=>254|129=>236|294=>245|295=>246|296=>247|297=>248|298=>249|299=>250|216=>251|300=>252|301=>253|328=>255|329=>256|330=>257|331=>258|332=>259|215=>260|343=>261|n=>n,λ|28=>29|3=>3|46=>279|0=>0|51=>277|53=>270|4=>4|183=>286|182=>285|131=>90|5=>5|9=>9|218=>293|222=>297|228=>299|229=>75|n=>n,λ|n=>n⟩
theorem Ep:Go.Proofs.Lays.n189 Tryz.prog Fz where
 mixed:=r_
 f125:=Tryz.func242.trans s_
 f128:=Tryz.func254.trans s_
 f129:=Tryz.func236.trans s_
 f189:=Tryz.func233.trans s_
 f215:=Tryz.func260.trans s_
 f216:=Tryz.func251.trans s_
 f257:=Tryz.func241.trans s_
 f294:=Tryz.func245.trans s_
 f295:=Tryz.func246.trans s_
 f296:=Tryz.func247.trans s_
 f297:=Tryz.func248.trans s_
 f298:=Tryz.func249.trans s_
 f299:=Tryz.func250.trans s_
 f300:=Tryz.func252.trans s_
 f301:=Tryz.func253.trans s_
 f328:=Tryz.func255.trans s_
 f329:=Tryz.func256.trans s_
 f330:=Tryz.func257.trans s_
 f331:=Tryz.func258.trans s_
 f332:=Tryz.func259.trans s_
 f343:=Tryz.func261.trans s_
 t0:=Tryz.underlying0
 a0:=Tryz.isAgg0
 z0:=Tryz.sizeOf0
 v0:=Tryz.zeroValue0
 t3:=Tryz.underlying3
 a3:=Tryz.isAgg3
 z3:=Tryz.sizeOf3
 v3:=Tryz.zeroValue3
 t4:=Tryz.underlying4
 a4:=Tryz.isAgg4
 z4:=Tryz.sizeOf4
 v4:=Tryz.zeroValue4
 t5:=Tryz.underlying5
 a5:=Tryz.isAgg5
 z5:=Tryz.sizeOf5
 v5:=Tryz.zeroValue5
 t9:=Tryz.underlying9
 a9:=Tryz.isAgg9
 z9:=Tryz.sizeOf9
 v9:=Tryz.zeroValue9
 t28:=Tryz.underlying29
 a28:=Tryz.isAgg29
 z28:=Tryz.sizeOf29
 v28:=Tryz.zeroValue29
 t46:=Tryz.underlying279
 a46:=Tryz.isAgg279
 z46:=Tryz.sizeOf279
 v46:=Tryz.zeroValue279
 t51:=Tryz.underlying277
 a51:=Tryz.isAgg277
 z51:=Tryz.sizeOf277
 v51:=Tryz.zeroValue277
 t53:=Tryz.underlying270
 a53:=Tryz.isAgg270
 z53:=Tryz.sizeOf270
 v53:=Tryz.zeroValue270
 t131:=Tryz.underlying90
 a131:=Tryz.isAgg90
 z131:=Tryz.sizeOf90
 v131:=Tryz.zeroValue90
 t182:=Tryz.underlying285
 a182:=Tryz.isAgg285
 z182:=Tryz.sizeOf285
 v182:=Tryz.zeroValue285
 t183:=Tryz.underlying286
 a183:=Tryz.isAgg286
 z183:=Tryz.sizeOf286
 v183:=Tryz.zeroValue286
 t218:=Tryz.underlying293
 a218:=Tryz.isAgg293
 z218:=Tryz.sizeOf293
 v218:=Tryz.zeroValue293
 t222:=Tryz.underlying297
 a222:=Tryz.isAgg297
 z222:=Tryz.sizeOf297
 v222:=Tryz.zeroValue297
 t228:=Tryz.underlying299
 a228:=Tryz.isAgg299
 z228:=Tryz.sizeOf299
 v228:=Tryz.zeroValue299
 t229:=Tryz.underlying75
 a229:=Tryz.isAgg75
 z229:=Tryz.sizeOf75
 v229:=Tryz.zeroValue75
open Go.Sort Go.RowKit in
theorem adb (blk a d:Nat)(c:List Int)(w:World)(i:Holds (Value.int .i64) w blk a c.toArray)(b:blk<w.heap.size)(f:c.length<4611686018427387904):
  Calls Tryz.prog 233 #[.slice (some ⟨blk,a,none⟩) c.length d] w λe g=>
   e=.returned (.tuple #[])/\∃n h,g=grow (putRow (Value.int .i64) (Sort.ahead w n) blk a (c.mergeSort λx y=>decide (x<=y)).toArray) h:=Any.slices_Sort_int Ep blk a d c w i b f
end Go.Proofs.YtocdlbblemjabaaGreatDoor
namespace Go.Proofs.YtocdlbblemjabaaGreatDoor
open Go.AG Go.AG.MK Go.Proofs
def KR (L:Es):Prop:=∀k∈L.map (·.1),-65536<=k/\k<=7
theorem Zj (args:Array Value)(w:World):(callFunc 233 args).run Tryz.prog w=.ok (.enter 233 args) w:=enters_of (f:=233) Ep.f189 (by kernel_rfl) rfl args w
theorem Tx (args:Array Value)(w:World):(callFunc 221 args).run Tryz.prog w=.ok (.enter 221 args) w:=enters_of (f:=221) Tryz.func221 (by kernel_rfl) rfl args w
theorem Tw (args:Array Value)(w:World):(callFunc 234 args).run Tryz.prog w=.ok (.enter 234 args) w:=enters_of (f:=234) Tryz.func234 (by kernel_rfl) rfl args w
theorem ukey:Tryz.prog.underlying 3=some (.int .i64):=r_
theorem XE (m:Nat):AnyZI.SortsIn Tryz.prog qR Fence.wide m:=
 ⟨λblk c a e W f b d=>callsIn_wide.2 (adb blk c a e W f b d),λp a W=>callsIn_wide.2 (Any.slices_Sort_int_none Ep p a W)⟩
theorem CZ {g:Gh}: ∀{L:Es} {a:List MapEntry},oE g (mpE L) a->a.map (·.key)=L.map λe=>Value.int .i64 e.1
 |[],[],_=>rfl
 |[],_::_,h=>by cases h
 |_::_,[],h=>by cases h
 |e::L,x::a,h=>by
  cases h with
  |cons hk b t=>rw[List.map_cons,List.map_cons,CZ t,hk.int_inv]
def Rk (_:Value):Option (DataW Unit×List MemPlace):=some (.lit (.bool true),[])
theorem wf_kr {k:Int}(h : -65536<=k/\k<=7):(Lit.int .i64 k).wf=true:=by
 have a:IntKind.i64.min=-9223372036854775808:=by decide
 have b:IntKind.i64.max=9223372036854775807:=by decide
 show(decide (IntKind.i64.min<=k)&&decide (k<=IntKind.i64.max))=true;rw[a,b,t_,t_];rfl
def acO:Value->Int
 |.int _ k=>k
 |_=>0
theorem Yh {g:Gh}{w:World}{b d:Nat}{c:Array MapEntry}{L:Es}(C:w.heap[b]?=some (.map c d))(o:oE g (mpE L) c.toList)(s:Rp c d)(D:L.length<70000)(y:(L.map (·.1)).Nodup)(A:KR L):
  ∃q:DataW Unit,w.ownsMap Tryz.prog 3 Rk b L.length q/\(intKeys q).Perm (L.map (·.1))/\Maps.size q=L.length:=by
 have hk:=CZ o;have i:c.size=L.length:=by have:=congrArg List.length hk;simpa using this
 have f:∀x∈c.toList,∃k:Int,x.key=.int .i64 k/\(-65536<=k/\k<=7):=by
  intro x hx;have:x.key∈L.map λe=>Value.int .i64 e.1:=by rw[<-hk];exact List.mem_map_of_mem hx
  obtain⟨e,o,h⟩:=List.mem_map.1 this;exact⟨e.1,h.symm,A _ (List.mem_map_of_mem o)⟩
 have j:∀x∈c.toList,∀k,x.key=.int .i64 k->WideElems.rd Tryz.prog 3 Rk x=some (.int .i64 k,.lit (.bool true)):=by
  intro x hx k h;obtain⟨E,m,n⟩:=f x hx;rw[h]at m;cases m;unfold WideElems.rd;rw[h,Maps.keyOf_int_mk ukey (wf_kr n)];rfl
 refine⟨_,⟨c,d,C,⟨?_,⟨s.1,s.2,?_⟩,λx hx=>?_⟩,o_,rfl⟩,?_,?_⟩
 ·rw[i];have:(70000:Nat)<=maxLen:=by decide
  omega
 ·rw[hk];have:(L.map λe=>Value.int .i64 e.1)=(L.map (·.1)).map (Value.int .i64):=by rw[List.map_map];rfl
  rw[this];exact List.Pairwise.map _ (λa b r e=>r (by cases e;rfl)) y
 ·obtain⟨k,h,_⟩:=f x hx;exact⟨_,j x hx k h⟩
 ·have t:∀x∈c.toList,Go.intOf (WideElems.rg Tryz.prog 3 Rk x).1=acO x.key:=by
   intro x hx;obtain⟨k,h,_⟩:=f x hx;have v:=WideElems.rg_of (j x hx k h);have z:=congrArg Prod.fst v;exact(congrArg Go.intOf z).trans (congrArg acO h).symm
  have u:(c.toList.map (·.key)).map acO=L.map (·.1):=by rw[hk,List.map_map];rfl
  generalize WideElems.rg Tryz.prog 3 Rk=l at t ⊢;show(((c.toList.map l).foldr DataW.insert []).map λp=>Go.intOf p.1).Perm _;refine((WideShapes.sorted_perm _).map _).trans ?_;have B:(c.toList.map l).map (λp=>Go.intOf p.1)=(c.toList.map (·.key)).map acO:=by
   rw[List.map_map,List.map_map];exact List.map_congr_left λx hx=>t x hx
  rw[B,u]
 show((c.toList.map (WideElems.rg Tryz.prog 3 Rk)).foldr DataW.insert []).length=_;rw[(WideShapes.sorted_perm _).length_eq,L_];simpa using i
theorem NY {g:Gh}{w:World}{b h a:Nat}{f:Array MapEntry}{L:Es}(hm:w.cell? ⟨h,0,none⟩=some (.map (some b)))(D:w.heap[b]?=some (.map f a))(t:oE g (mpE L) f.toList)(A:Rp f a)(B:L.length<70000)(u:(L.map (·.1)).Nodup)(C:KR L):
  Calls Tryz.prog 221 #[.func (.func 234) #[] #[.pointer (some ⟨h,0,none⟩)]] w λe o=>∃v,e=.returned v/\o.ownsRow w.heap.size 3 1 v L.length ((fA L).map λz=>Value.int .i64 z)/\RowKit.Below w.heap.size w o:=by
 obtain⟨n,F,s,r⟩:=Yh D t A B u C;have p:=block_lt_of_cell hm;have j:SeqGives Fence.wide 2 Tryz.prog 234 #[.pointer (some ⟨h,0,none⟩)] Go.encZ (λl=>l.Perm (intKeys n)) (Maps.size n) w:=
  AnyZI.keys_gives (ρ:=uC) Tb Fence.wide 2 trivial rfl o_ h b L.length n w p hm F
 have i:Maps.size n<=maxLen:=by
  rw[r];have:(70000:Nat)<=maxLen:=by decide
  omega
 have cS:=AnyZI.sorted_in IT Fence.wide 5 trivial trivial trivial trivial rfl o_ (XE _) Zj 234 #[.pointer (some ⟨h,0,none⟩)] trivial Tw _ _ i (by rw[r];omega) w j;refine(callsIn_wide.1 cS).mono ?_;rintro e o ⟨v,l,rfl,E,c,_,k⟩;have q:=E.trans s;have m:l.length=L.length:=by rw[q.length_eq,L_]
 have d:=mergeSort_of_perm_i q;refine⟨v,rfl,?_,k⟩;rw[m,d]at c;exact c
open Classical in
def uh:aN:=λf a c h=>match f,a,c with
 |.fn 221 [] [],[.fn 234 [] [.ptr d 0 0]],.no=>
  if hx:∃L:Es,(∃b,h.get d=some (.box [.map b])/\h.get b=some (.map (mpE L)))/\L.length<70000/\(L.map (·.1)).Nodup/\KR L then some (.ret (.eI (fA hx.choose)),.no,h) else none
 |_,_,_=>none
theorem UK:∀{L M:Es},mpE L=mpE M->L=M
 |[],[],_=>rfl
 |[],_::_,h=>by cases h
 |_::_,[],h=>by cases h
 |(a,b)::L,(c,d)::M,h=>by
  simp only[mpE,mpg,AG.bh,List.map_cons,List.cons.injEq,Prod.mk.injEq,AV.int.injEq,true_and]at h;obtain⟨⟨rfl,rfl⟩,h⟩:=h;rw[UK h]
theorem Iv {d c:Nat}{L:Es}{h:AH}(g:h.get d=some (.box [.map c]))(f:h.get c=some (.map (mpE L)))(j:L.length<70000)(l:(L.map (·.1)).Nodup)(i:KR L):
  uh (.fn 221 [] []) [.fn 234 [] [.P d]] .no h=some (.ret (.eI (fA L)),.no,h):=by
 have hx:∃L:Es,(∃c,h.get d=some (.box [.map c])/\h.get c=some (.map (mpE L)))/\L.length<70000/\(L.map (·.1)).Nodup/\KR L:=⟨L,⟨c,g,f⟩,j,l,i⟩
 have e:uh (.fn 221 [] []) [.fn 234 [] [.P d]] .no h=some (.ret (.eI (fA hx.choose)),.no,h):=dif_pos hx;have:hx.choose=L:=by
  obtain⟨⟨k,a,b⟩,_⟩:=hx.choose_spec;rw[g]at a;injection a with a;injection a with a;injection a with a;injection a with a;subst a;rw[f]at b;injection b with b;injection b with b;exact(UK b).symm
 rw[e,this]
theorem YJ {d:Array Value}{w:World}{c0:Frame}{rest:List Frame}{Rr:Value->World->Prop}(h:Calls Tryz.prog 221 d w λe c=>∃v,e=.returned v/\Rr v c):
  ∃v c,Rr v c/\Steps Tryz.prog (lone (Frame.enter Tryz.prog 221 d .normal) (c0::rest) w) (lone (c0.finish v) rest c):=by
 obtain⟨e,f,j,⟨v,rfl,i⟩,a,g,b⟩:=h (c0::rest);exact⟨v,f,i,Steps.trans a (.one (step_leave_returned b))⟩
theorem za {g:Gh}: ∀(a:List Int),bD g (a.map AG.bh) (a.map (Value.int .i64))
 |[]=>.nil
 |_z::a=>.cons (.int _ _) (za a)
theorem CF (a:List Int):bJ (a.map AG.bh)=a.map AG.bh:=by
 induction a with
 |nil=>rfl
 |cons z a b=>rw[List.map_cons,cK,b];rfl
theorem XF:dD CI uh:=by
 intro f args rc h out ai h' q g U w fv us K D s hf ha hr hK;unfold uh at q;split at q
 ·rename_i kb;split at q
  ·rename_i hx;cases q;obtain⟨⟨S,q1,q2⟩,q3,q4,q5⟩:=hx.choose_spec;generalize hx.choose=L at q1 q2 q3 q4 q5 ⊢;obtain⟨x,y,t,r,rfl⟩:=hf.fn_inv;cases t;cases r;cases ha with
   |@cons _ u _ _ m ht=>
    cases ht;obtain⟨x,y,t,r,rfl⟩:=m.fn_inv;cases t;cases r with
    |@cons _ u2 _ _ Z ad=>
     cases ad;obtain⟨l,hl,rfl⟩:=Z.ptr_inv;have R:=s.live hl;obtain⟨l',Q,r2,r3⟩:=s.obj kb _ q1 R;have Q:g.ρ kb 0=some l':=Q;rw[hl]at Q;cases Q;obtain⟨T,j,bt,be,O,_,_⟩:=r3;obtain⟨u,d⟩:∃u,j.toList=[u]/\bR g (.map S) u:=by
      cases H:j.toList with
      |nil=>rw[H]at O;cases O
      |cons u rest=>
       rw[H]at O;cases O with
       |cons X ac=>cases ac;exact⟨u,rfl,X⟩
     obtain⟨d,af⟩:=d;obtain⟨lm,E,rfl⟩:=af.map_inv;have ab:=s.live E;obtain⟨ag,P,m2,m3⟩:=s.obj S _ q2 ab;have P:g.ρ S 0=some ag:=P;rw[E]at P;cases P;obtain⟨ak,V,m4,m5,m6⟩:=m3;have k:w.cell? ⟨l.block,0,none⟩=some (.map (some lm.block)):=by
      rw[cell_of_row _ _ _ j bt (0,0) be];have:j.toList[0]?=some (Value.map (some lm.block)):=by rw[d];rfl
      simpa using this
     have hk:=hr;subst hk;obtain⟨v,Y,⟨J,G⟩,aa⟩:=YJ (c0:=K.c0) (rest:=K.rest) (NY k m4 m5 m6 q3 q4 q5);obtain⟨b1,b2,b3,b4,b5⟩:=G;obtain⟨N,p⟩:=J;have n:(fA L).length=L.length:=by simpa using N
     have A:∃M,Ext g M/\Sim CI M U h Y/\bR M (.ls ((fA L).map AG.bh)) v:=by
      rcases p with⟨rfl,hz⟩|⟨C,aj,c,rfl,ah,e1,e2,e3,e4,e5⟩
      ·have:fA L=[]:=List.eq_nil_of_length_eq_zero o_;rw[this];exact⟨g,.refl g,s.wider b5 b4 b2 b1 b3,.lst0⟩
      have hF:∀o v,(if o<L.length then c[o]? else none)=some v->Y.cell? ⟨C,o,none⟩=some v:=by
       intro o v B;rw[cell_of_row _ _ _ c 3 (0,0) e1];by_cases ho:o<L.length
       ·rw[P_ ho]at B;exact B
       rw[N_ ho]at B;cases B
      obtain⟨ex,W⟩:=s.more ah (F:=λo=>if o<L.length then c[o]? else none) hF b5 b4 b2 b1 b3;refine⟨_,ex,W,?_⟩;have I:∀i u,((fA L).map λz=>Value.int .i64 z)[i]?=some u->c[i]?=some u/\i<L.length:=by
       intro i u m;have hi:i<L.length:=by
        have:=(E_.1 m).1;simpa [n] using this
       rw[<-e5,List.getElem?_take,P_ o_]at m;exact⟨by simpa using m,hi⟩
      have hC:fO {g with F:=λb o=>if b=C then (if o<L.length then c[o]? else none) else g.F b o} C 0 (bJ ((fA L).map AG.bh)):=by
       rw[CF];refine fO.mk (za _) λi u m=>?_
       obtain⟨c1,c2⟩:=I i u m;show(if C=C then (if 0+i<L.length then c[0+i]? else none) else g.F C (0+i))=some u;rw[P_ rfl,z_,P_ c2];exact c1
      refine .ls (sz:=1) (λe he=>by obtain⟨z,_,rfl⟩:=List.mem_map.1 he;rfl) ?_ (by simp[n]) (by simp[n];omega) hC;rw[CF,dU];intro a ha;obtain⟨z,_,rfl⟩:=List.mem_map.1 ha;rfl
     obtain⟨M,ex,W,B⟩:=A;refine⟨{target:=.fn (.func 221) ⟨[]⟩,args:=⟨[.func (.func 234) ⟨[]⟩ ⟨[.pointer (some ⟨l.block,l.base+0,none⟩)]⟩]⟩},Frame.enter CI.P 221 ⟨[.func (.func 234) ⟨[]⟩ ⟨[.pointer (some ⟨l.block,l.base+0,none⟩)]⟩]⟩ .normal,λw=>by simp[Deferred.ofValue],.inl ⟨221,⟨[.func (.func 234) ⟨[]⟩ ⟨[.pointer (some ⟨l.block,l.base+0,none⟩)]⟩]⟩,?_,rfl⟩,M,U,Y,ex,.refl _ _,W,.refl _,hr,v,B,?_⟩
     ·exact Tx _ w
     show Steps CI.P (lone _ K.cs w) _;rw[hK,T]at *;exact aa
  cases q
 cases q
