/- SolverFinishes: Max of the program (no condition). -/
import Derived.Test.YtnacljdablhbgaaGreatDe
namespace Go.Proofs.YtnacljdablhbgaaGreat
open Go.AG
attribute [local go_sem] dB bJ bk bS bR ca
structure VS (kV:Nat)(vals:List LL)(h:AH):Prop where
 ex:∃es:List AV,h.get kV=some (.row 0 2 true (flat es) 0)/\es.length=vals.length/\(∀x∈es,x.cells.length=2/\x.isAgg=true)/\∀(i:Nat) a x,es[i]?=some a->vals[i]?=some x->Lv a x
 lt:kV<h.z
theorem VS.mono {kV:Nat}{vals:List LL}{h h':AH}(s:VS kV vals h)(hn:h.z<=h'.z)(hg:h'.get kV=h.get kV):VS kV vals h':=by
 obtain⟨⟨es,e1,e2⟩,lt⟩:=s;exact⟨⟨es,hg.trans e1,e2⟩,by omega⟩
theorem xA {k g n i:Nat}(hi:i<n)(H:AH):cz (.row k g 2 0 n) H 2 (wt (i:Int))=.val (.ptr k g (i*2)) H:=by
 show okV (cond (Nat.beq 2 2) (aq (aq (some i) fun m=>cond (Nat.blt m n) (some m) none) fun n=>some (.ptr k g (Nat.mul (Nat.add 0 n) 2))) none) H=_;have hb:Nat.blt i n=true:=Nat.ble_eq_true_of_le hi;rw[aF,hb];show OpR.val (.ptr k g (Nat.mul (Nat.add 0 i) 2)) H=_;congr 2;show(0+i)*2=i*2;omega
theorem VS.rd {kV:Nat}{vals:List LL}{h:AH}(s:VS kV vals h):RdL h.z h (.row kV 0 2 0 vals.length) vals:=by
 obtain⟨⟨es,e1,e2,e3,e4⟩,lt⟩:=s;refine⟨fun h=>uU _ _ _ _ _,fun i x e=>?_,rfl,rfl⟩;have hi:i<vals.length:=(wah.1 e).1;have hei:es[i]?=some es[i]:=wO (by omega);refine⟨.ptr kV 0 (i*2),es[i],e4 i _ x hei e,fun H hH=>⟨xA hi H,?_⟩⟩;have hf:=qY (sz:=2) (fun y hy=>(e3 y hy).1) hei;have hl:=gY (fun y hy=>(e3 y hy).1);obtain⟨z1,z2⟩:=e3 _ (wS hei);rw[jz,hH kV lt,e1,aF,po,tN _ _ _ (by rw[hl];omega),hf];cases hz:es[i]<;>rw[hz]at z2<;>simp[AV.isAgg]at z2;rfl
theorem VS.store {kV:Nat}{vals:List LL}{h:AH}(s:VS kV vals h){i:Nat}(hi:i<vals.length){a:AV}{y:LL}(ha:Lv a y):
  ∃o,cR (.ptr kV 0 (i*2)) h 2 a=some (h.set kV o)/\VS kV (vals.set i y) (h.set kV o):=by
 obtain⟨⟨es,e1,e2,e3,e4⟩,lt⟩:=s;obtain⟨V,rfl,_⟩:=ha.ex;have hc:(AV.agg [wt y.c,V]).cells.length=2:=rfl;have hset:=nY hc (out:=es) (a:=i) (fun y hy=>(e3 y hy).1) (by omega);have hl:=gY (fun y hy=>(e3 y hy).1);refine⟨.row 0 2 true (flat (es.set i (.agg [wt y.c,V]))) 0,?_,⟨_,aC _ _ _,by simp[e2],fun x hx=>?_,fun j b x hb hx=>?_⟩,by rw[co];exact lt⟩
 ·rw[eF _ _ _ _ rfl hc,e1,aF];show aq (cond (and (Nat.beq 0 0) (and (Nat.ble 0 (i*2)) (Nat.ble (i*2+len (AV.agg [wt y.c,V]).cells) (len (flat es))))) (some (eI.row 0 2 true (setR (i*2) (AV.agg [wt y.c,V]).cells (flat es)) 0)) none) _=_;rw[fN,bH,bH,gj (show i*2+(AV.agg [wt y.c,V]).cells.length<=(flat es).length by rw[hl,hc];omega),hset];rfl
 ·rcases List.mem_or_eq_of_mem_set hx with h|h
  ·exact e3 x h
  ·rw[h];exact⟨rfl,rfl⟩
 ·rw[List.getElem?_set]at hb hx;by_cases hij:i=j
  ·subst hij;rw[wae rfl,wae (by omega)]at hb;rw[wae rfl,wae hi]at hx;cases hb;cases hx;exact ha
  ·rw[wad hij]at hb hx;exact e4 j b x hb hx
def Srt (vs:List LV):Prop:=vs.Pairwise fun x y=>x.i<y.i
def pOf:List LV->Int->Option Int
 |[],_=>none
 |x::vs,i=>if i=x.i then some x.p else pOf vs i
def mxo:Option Int->Option Int->Option Int
 |none,b=>b
 |some a,none=>some a
 |some a,some b=>some (max a b)
theorem VL.srt {l:LL}(h:VL l):Srt l.v:=by
 unfold Srt;rw[List.pairwise_iff_getElem];intro i j hi hj hij;exact h.asc (j-i-1) i _ _ (wO hi) (by rw[show i+(j-i-1)+1=j by omega];exact wO hj)
theorem Srt.tail {x:LV}{vs:List LV}(h:Srt (x::vs)):Srt vs:=(List.pairwise_cons.1 h).2
theorem Srt.head {x:LV}{vs:List LV}(h:Srt (x::vs)):∀y∈vs,x.i<y.i:=(List.pairwise_cons.1 h).1
theorem nV {vs:List LV}{i:Int}(h:∀y∈vs,i≠y.i):pOf vs i=none:=by
 induction vs with
 |nil=>rfl
 |cons x vs ih=>rw[pOf,wad (h x (by simp))];exact ih fun y hy=>h y (by simp[hy])
theorem zk {vs:List LV}{i p:Int}(h:pOf vs i=some p):∃y∈vs,y.i=i/\y.p=p:=by
 induction vs with
 |nil=>cases h
 |cons x vs ih=>
  rw[pOf]at h;by_cases hi:i=x.i
  ·rw[wae hi]at h;cases h;exact⟨x,by simp,hi.symm,rfl⟩
  ·rw[wad hi]at h;obtain⟨y,hy,r⟩:=ih h;exact⟨y,by simp[hy],r⟩
theorem adp {vs:List LV}(hs:Srt vs){y:LV}(hy:y∈vs):pOf vs y.i=some y.p:=by
 induction vs with
 |nil=>simp at hy
 |cons x vs ih=>
  rw[pOf];rcases List.mem_cons.1 hy with rfl|h
  ·rw[wae rfl]
  ·have:=hs.head y h;rw[wad (by omega)];exact ih hs.tail h
theorem Srt.ext:∀{xs ys:List LV},Srt xs->Srt ys->(∀i,pOf xs i=pOf ys i)->xs=ys
 |[],[],_,_,_=>rfl
 |[],y::ys,_,_,h=>by have:=h y.i;simp[pOf]at this
 |x::xs,[],_,_,h=>by have:=h x.i;simp[pOf]at this
 |x::xs,y::ys,hx,hy,h=>by
  have e1:x.i=y.i:=by
   have h1:=h x.i;have h2:=h y.i;rw[pOf,wae rfl]at h1;rw[pOf,pOf,wae rfl]at h2;obtain⟨z,hz,hz1,_⟩:=zk h1.symm;have hz':y.i<=x.i:=by
    rcases List.mem_cons.1 hz with rfl|hz
    ·omega
    ·have:=hy.head z hz;omega
   by_cases hq:y.i=x.i
   ·exact hq.symm
   ·rw[wad hq]at h2;obtain⟨w,hw,hw1,_⟩:=zk h2;have:=hx.head w hw;omega
  have e2:x.p=y.p:=by
   have h1:=h x.i;rw[pOf,wae rfl,pOf,wae e1]at h1;simpa using h1
  have e3:xs=ys:=by
   refine Srt.ext hx.tail hy.tail fun i=>?_
   have h1:=h i;rw[pOf,pOf]at h1;by_cases hi:i=x.i
   ·rw[nV fun z hz=>by have:=hx.head z hz;omega,nV fun z hz=>by have:=hy.head z hz;omega]
   ·rw[wad hi,wad (by omega)]at h1;exact h1
  obtain⟨xi,xp⟩:=x;obtain⟨yi,yp⟩:=y;simp only at e1 e2;rw[e1,e2,e3]
theorem mergeV_mem:∀{xs ys:List LV} {z:LV},z∈bK xs ys->(∃x∈xs,x.i=z.i)∨∃y∈ys,y.i=z.i
 |[],ys,z,h=>by rw[bK]at h;exact .inr ⟨z,h,rfl⟩
 |x::xs,[],z,h=>by rw[bK]at h;exact .inl ⟨z,h,rfl⟩
 |x::xs,y::ys,z,h=>by
  rw[bK]at h;split at h
  ·rcases List.mem_cons.1 h with rfl|h
   ·exact .inl ⟨z,by simp,rfl⟩
   ·rcases mergeV_mem h with⟨w,hw,e⟩|⟨w,hw,e⟩
    ·exact .inl ⟨w,by simp[hw],e⟩
    ·exact .inr ⟨w,hw,e⟩
  ·split at h
   ·rcases List.mem_cons.1 h with rfl|h
    ·exact .inr ⟨z,by simp,rfl⟩
    ·rcases mergeV_mem h with⟨w,hw,e⟩|⟨w,hw,e⟩
     ·exact .inl ⟨w,hw,e⟩
     ·exact .inr ⟨w,by simp[hw],e⟩
   ·rcases List.mem_cons.1 h with rfl|h
    ·exact .inl ⟨x,by simp,rfl⟩
    ·rcases mergeV_mem h with⟨w,hw,e⟩|⟨w,hw,e⟩
     ·exact .inl ⟨w,by simp[hw],e⟩
     ·exact .inr ⟨w,by simp[hw],e⟩
termination_by xs ys=>xs.length+ys.length
theorem kz:∀{xs ys:List LV},Srt xs->Srt ys->Srt (bK xs ys)
 |[],ys,_,hy=>by rw[bK];exact hy
 |x::xs,[],hx,_=>by rw[bK];exact hx
 |x::xs,y::ys,hx,hy=>by
  rw[bK];split
  ·refine List.pairwise_cons.2 ⟨fun z hz=>?_,kz hx.tail hy⟩;rcases mergeV_mem hz with⟨w,hw,e⟩|⟨w,hw,e⟩
   ·have:=hx.head w hw;omega
   ·rcases List.mem_cons.1 hw with rfl|hw
    ·omega
    ·have:=hy.head w hw;omega
  ·split
   ·refine List.pairwise_cons.2 ⟨fun z hz=>?_,kz hx hy.tail⟩;rcases mergeV_mem hz with⟨w,hw,e⟩|⟨w,hw,e⟩
    ·rcases List.mem_cons.1 hw with rfl|hw
     ·omega
     ·have:=hx.head w hw;omega
    ·have:=hy.head w hw;omega
   ·refine List.pairwise_cons.2 ⟨fun z hz=>?_,kz hx.tail hy.tail⟩;show x.i<z.i;rcases mergeV_mem hz with⟨w,hw,e⟩|⟨w,hw,e⟩
    ·have:=hx.head w hw;omega
    ·have:=hy.head w hw;omega
termination_by xs ys=>xs.length+ys.length
theorem qR (a:Option Int):mxo a none=a:=by cases a<;>rfl
theorem jb:∀{xs ys:List LV},Srt xs->Srt ys->∀i,pOf (bK xs ys) i=mxo (pOf xs i) (pOf ys i)
 |[],ys,_,_,i=>by rw[bK];rfl
 |x::xs,[],_,_,i=>by rw[bK,pOf.eq_1,qR]
 |x::xs,y::ys,hx,hy,i=>by
  rw[bK];split
  ·rename_i hlt;rw[pOf,jb hx.tail hy,pOf.eq_2 i x xs];by_cases hi:i=x.i
   ·rw[wae hi,wae hi,nV fun z hz=>(by
     rcases List.mem_cons.1 hz with rfl|hz
     ·omega
     ·have:=hy.head z hz;omega)]
    rfl
   ·rw[wad hi,wad hi]
  ·split
   ·rename_i hlt hgt;rw[pOf,jb hx hy.tail,pOf.eq_2 i y ys];by_cases hi:i=y.i
    ·rw[wae hi,wae hi,nV (vs:=x::xs) fun z hz=>(by
      rcases List.mem_cons.1 hz with rfl|hz
      ·omega
      ·have:=hx.head z hz;omega)]
     rfl
    ·rw[wad hi,wad hi]
   ·rename_i hlt hgt;rw[pOf,jb hx.tail hy.tail,pOf.eq_2 i x xs,pOf.eq_2 i y ys];by_cases hi:i=x.i
    ·rw[wae hi,wae hi,wae (by omega)];rfl
    ·rw[wad hi,wad hi,wad (by omega)]
termination_by xs ys=>xs.length+ys.length
theorem VI (vs:List LV):∀m:Int,vs.foldl (fun m x=>max m x.p) m=max m (vs.foldl (fun m x=>max m x.p) m)/\(∀x∈vs,x.p<=vs.foldl (fun m x=>max m x.p) m)/\m<=vs.foldl (fun m x=>max m x.p) m/\(vs.foldl (fun m x=>max m x.p) m=m∨∃x∈vs,x.p=vs.foldl (fun m x=>max m x.p) m):=by
 induction vs with
 |nil=>intro m;simp
 |cons x vs ih=>
  intro m;obtain⟨h1,h2,h3,h4⟩:=ih (max m x.p);simp only[List.foldl_cons];generalize vs.foldl (fun m x=>max m x.p) (max m x.p)=z at h1 h2 h3 h4;refine⟨by omega,fun y hy=>?_,by omega,?_⟩
  ·rcases List.mem_cons.1 hy with rfl|hy
   ·omega
   ·exact h2 y hy
  ·rcases h4 with h4|⟨y,hy,h4⟩
   ·by_cases hm:m<=x.p
    ·exact .inr ⟨x,by simp,by omega⟩
    ·exact .inl (by omega)
   ·exact .inr ⟨y,by simp[hy],h4⟩
theorem oP {vs:List LV}{x:LV}(h:x∈vs):x.p<=cU vs:=(VI vs 0).2.1 x h
theorem tK (vs:List LV):0<=cU vs:=(VI vs 0).2.2.1
theorem most_cases (vs:List LV):cU vs=0∨∃x∈vs,x.p=cU vs:=(VI vs 0).2.2.2
theorem zq {vs:List LV}{b:Int}(hb:0<=b)(h:∀x∈vs,x.p<=b):cU vs<=b:=by
 rcases most_cases vs with e|⟨x,hx,e⟩
 ·omega
 ·have:=h x hx;omega
theorem lQ {P:LV->Prop}(hP:∀x y,x.i=y.i->P x->P y->P ⟨x.i,max x.p y.p⟩):∀{xs ys:List LV},(∀x∈xs,P x)->(∀y∈ys,P y)->∀z∈bK xs ys,P z
 |[],ys,_,hy,z,h=>by rw[bK]at h;exact hy z h
 |x::xs,[],hx,_,z,h=>by rw[bK]at h;exact hx z h
 |x::xs,y::ys,hx,hy,z,h=>by
  have hx':∀w∈xs,P w:=fun w hw=>hx w (by simp[hw])
  have hy':∀w∈ys,P w:=fun w hw=>hy w (by simp[hw])
  rw[bK]at h;split at h
  ·rcases List.mem_cons.1 h with rfl|h
   ·exact hx z (by simp)
   ·exact lQ hP hx' hy z h
  ·split at h
   ·rcases List.mem_cons.1 h with rfl|h
    ·exact hy z (by simp)
    ·exact lQ hP hx hy' z h
   ·rcases List.mem_cons.1 h with rfl|h
    ·exact hP x y (by omega) (hx x (by simp)) (hy y (by simp))
    ·exact lQ hP hx' hy' z h
termination_by xs ys=>xs.length+ys.length
theorem ph:∀xs ys:List LV,cU (bK xs ys)=max (cU xs) (cU ys):=by
 have cons:∀(x:LV) (vs:List LV),cU (x::vs)=max x.p (cU vs):=by
  intro x vs;have h1:cU (x::vs)<=max x.p (cU vs):=zq (by have:=tK vs;omega) fun y hy=>by
   rcases List.mem_cons.1 hy with rfl|hy
   ·omega
   ·have:=oP hy;omega
  have h2:=oP (vs:=x::vs) (x:=x) (by simp);have h3:cU vs<=cU (x::vs):=zq (tK _) fun y hy=>oP (by simp[hy])
  omega
 have n0:cU []=0:=rfl;have key:∀(n:Nat) (xs ys:List LV),xs.length+ys.length<=n->cU (bK xs ys)=max (cU xs) (cU ys):=by
  intro n;induction n with
  |zero=>
   intro xs ys h;have hx:xs=[]:=List.length_eq_zero_iff.1 (by omega);have hy:ys=[]:=List.length_eq_zero_iff.1 (by omega);subst hx hy;rw[bK];simp[n0]
  |succ n ih=>
   intro xs ys h
   match xs,ys with
   |[],ys=>rw[bK,n0];have:=tK ys;omega
   |x::xs,[]=>rw[bK,n0];have:=tK (x::xs);omega
   |x::xs,y::ys=>
    simp only[List.length_cons]at h;rw[bK];split
    ·rw[cons,ih xs (y::ys) (by simp;omega),cons x xs,cons y ys];omega
    ·split
     ·rw[cons,ih (x::xs) ys (by simp;omega),cons x xs,cons y ys];omega
     ·rw[cons,ih xs ys (by omega),cons x xs,cons y ys];show max (max x.p y.p) _=_;omega
 exact fun xs ys=>key _ xs ys (Fv _)
def btV (l:LL):Int:=max l.c (cU l.v)
theorem VL.all {l:LL}(h:VL l):∀x∈l.v,Rng x:=fun x hx=>by
 obtain⟨i,hi⟩:=List.mem_iff_getElem?.1 hx;exact h.rng i x hi
theorem VL.covm {l:LL}(h:VL l)(hc:0<l.c):∀x∈l.v,x.p<l.c:=fun x hx=>by
 obtain⟨i,hi⟩:=List.mem_iff_getElem?.1 hx;exact h.cov hc i x hi
theorem VL.mk' {l:LL}(c0:0<=l.c)(c1:l.c<=100)(hr:∀x∈l.v,Rng x)(hs:Srt l.v)(hc:0<l.c->∀x∈l.v,x.p<l.c):VL l:=by
 refine⟨c0,c1,fun i x e=>hr x (wS e),fun i x y ex ey=>?_,fun h i x e=>hc h x (wS e)⟩;unfold Srt at hs;rw[List.pairwise_iff_getElem]at hs;obtain⟨hi,rfl⟩:=wah.1 ex;obtain⟨hj,rfl⟩:=wah.1 ey;exact hs i (i+1) hi hj (by omega)
theorem vu {a b:LL}(ha:VL a)(hb:VL b):VL (gq a b):=by
 have hr:=lQ (P:=Rng) (fun x y e hx hy=>by obtain⟨a1,a2,a3,a4⟩:=hx;obtain⟨b1,b2,b3,b4⟩:=hy;exact⟨a1,a2,by show 0<=max x.p y.p;omega,by show max x.p y.p<=100;omega⟩) ha.all hb.all;have a0:=ha.c0;have a1:=ha.c1;have b0:=hb.c0;have b1:=hb.c1;unfold gq;by_cases hc:0<(bK a.v b.v).length/\max a.c b.c<=cU (bK a.v b.v)
 ·rw[wae hc];exact VL.mk' (Int.le_refl 0) (by show(0:Int)<=100;omega) hr (kz ha.srt hb.srt) (fun h=>absurd h (by show ¬(0:Int)<0;omega))
 ·rw[wad hc];refine VL.mk' (by show 0<=max a.c b.c;omega) (by show max a.c b.c<=100;omega) hr (kz ha.srt hb.srt) (fun h x hx=>?_);show x.p<max a.c b.c;have:x.p<=cU (bK a.v b.v):=oP hx;have hl:0<(bK a.v b.v).length:=List.length_pos_of_mem hx;have:¬max a.c b.c<=cU (bK a.v b.v):=fun e=>hc ⟨hl,e⟩
  omega
theorem qW (a b:LL)(_a0:0<=a.c)(_b0:0<=b.c):btV (gq a b)=max (btV a) (btV b):=by
 have h:=ph a.v b.v;have h0:=tK (bK a.v b.v);unfold btV gq;by_cases hc:0<(bK a.v b.v).length/\max a.c b.c<=cU (bK a.v b.v)
 ·rw[wae hc];show max 0 (cU (bK a.v b.v))=_;omega
 ·rw[wad hc];show max (max a.c b.c) (cU (bK a.v b.v))=_;omega
theorem HA {vs:List LV}(n:Int)(h:Srt vs):Srt (upV vs n):=by
 unfold Srt upV;rw[List.pairwise_map];exact h
theorem Nx {l:LL}{n:Int}(h:VL l)(n0:0<=n)(he:(eu l n).2=0):VL (eu l n).1/\eu l n=(⟨pcR l n,upV l.v n⟩,0)/\pcR l n<=100/\∀x∈l.v,x.p+n<=100:=by
 unfold eu at he ⊢;cases hb:(decide (100<pcR l n)||l.v.any fun x=>decide (100<x.p+n)) with
 |true=>rw[hb]at he;simp at he
 |false=>
  rw[hb]at he;simp only[Bool.or_eq_false_iff,decide_eq_false_iff_not,List.any_eq_false,decide_eq_true_eq]at hb;obtain⟨h1,h2⟩:=hb;have c0:=h.c0;refine⟨VL.mk' ?_ ?_ ?_ (HA n h.srt) ?_,rfl,by omega,fun x hx=>by have:=h2 x hx;omega⟩
  ·show 0<=pcR l n;unfold pcR;split<;>omega
  ·show pcR l n<=100;omega
  ·intro x hx;obtain⟨y,hy,rfl⟩:=List.mem_map.1 hx;obtain⟨r1,r2,r3,r4⟩:=h.all y hy;have:=h2 y hy;exact⟨r1,r2,by show 0<=y.p+n;omega,by show y.p+n<=100;omega⟩
  ·intro hc x hx;obtain⟨y,hy,rfl⟩:=List.mem_map.1 hx;show y.p+n<pcR l n;have hc:0<pcR l n:=hc;unfold pcR at hc ⊢;split at hc
   ·rename_i hor;rw[wae hor];rcases hor with h0|h0
    ·have:=h.covm h0 y hy;omega
    ·rw[List.length_eq_zero_iff]at h0;rw[h0]at hy;simp at hy
   ·omega
theorem xP (L:Es)(k v i:Int):look (tt L k v) i=if i=k then some v else look L i:=by
 induction L with
 |nil=>rw[tt,look];rfl
 |cons e L ih=>
  rw[tt];by_cases hk:k=e.1
  ·rw[wae hk,look,look];by_cases hi:i=k
   ·rw[wae hi,wae hi]
   ·rw[wad hi,wad hi,wad (by intro e;exact hi (e.trans hk.symm))]
  ·rw[wad hk,look,ih,look];by_cases hi:i=e.1
   ·rw[wae hi,wae hi,wad (by intro e;exact hk (e▸hi))]
   ·rw[wad hi,wad hi]
theorem mB (L:Es)(k p i:Int):look (fV L k p) i=if i=k then mxo (look L k) (some p) else look L i:=by
 unfold fV;cases hk:look L k with
 |none=>simp only[xP];rfl
 |some o=>
  by_cases hlt:o<p
  ·simp only[wae hlt,xP];by_cases hi:i=k
   ·rw[wae hi,wae hi];simp only[mxo];congr 1;omega
   ·rw[wad hi,wad hi]
  ·simp only[wad hlt];by_cases hi:i=k
   ·rw[wae hi,hi,hk];simp only[mxo];congr 1;omega
   ·rw[wad hi]
theorem qU (n:Int):∀{vs:List LV} (L:Es) (i:Int),Srt vs->look (tu L vs n) i=mxo (look L i) (pOf (upV vs n) i)
 |[],L,i,_=>by show look L i=mxo (look L i) none;rw[qR]
 |x::vs,L,i,h=>by
  show look (tu (fV L x.i (x.p+n)) vs n) i=mxo (look L i) (pOf (⟨x.i,x.p+n⟩::upV vs n) i);rw[qU n _ i h.tail,mB,pOf];by_cases hi:i=x.i
  ·rw[wae hi,wae hi,nV fun y hy=>by
    obtain⟨z,hz,rfl⟩:=List.mem_map.1 hy;have:=h.head z hz;show i≠z.i;omega]
   rw[qR,hi]
  ·rw[wad hi,wad hi]
structure RS (c:Int)(L:Es)(out:LL):Prop where
 lk:∀i,look L i=pOf out.v i
 bt:max c (cU out.v)=btV out
 c0:0<=c
 vl:VL out
theorem Xi {l:LL}{n:Int}(n0:0<=n)(h:VL l):max (l.c+n) (cU (upV l.v n))=max (pcR l n) (cU (upV l.v n)):=by
 have c0:=h.c0;unfold pcR;by_cases hor:0<l.c∨l.v.length=0
 ·rw[wae hor]
 ·rw[wad hor];have hc:l.c=0:=by
   by_cases hz:0<l.c
   ·exact absurd (.inl hz) hor
   ·omega
  cases hv:l.v with
  |nil=>exact absurd (.inr (by rw[hv];rfl)) hor
  |cons x vs=>
   have hx:=h.all x (by rw[hv];simp);obtain⟨_,_,p0,_⟩:=hx;have:x.p+n<=cU (upV (x::vs) n):=oP (x:=⟨x.i,x.p+n⟩) (by simp[upV]);omega
theorem adC {x:LV}(h:Rng x):VL ⟨0,[x]⟩:=
 VL.mk' (Int.le_refl 0) (by show(0:Int)<=100;omega) (fun y hy=>by simp at hy;subst hy;exact h) (by unfold Srt;simp) (fun h=>absurd h (by show ¬(0:Int)<0;omega))
def MK (s:Int×Es):Prop:=100<s.1∨∃i o,look s.2 i=some o/\100<o
theorem Tx {a b:Option Int}{o:Int}(h:a=some o)(ho:100<o):∃o',mxo a b=some o'/\100<o':=by
 subst h;cases b with
 |none=>exact⟨o,rfl,ho⟩
 |some p=>exact⟨max o p,rfl,by omega⟩
theorem Xh {a b:Option Int}{o:Int}(h:b=some o)(ho:100<o):∃o',mxo a b=some o'/\100<o':=by
 subst h;cases a with
 |none=>exact⟨o,rfl,ho⟩
 |some p=>exact⟨max p o,rfl,by omega⟩
theorem LG {vals:List LL}(hv:∀y∈vals,VL y){s:Int×Es}(x:LV)(h:MK s):MK (cW vals s x):=by
 unfold cW;split
 ·split
  ·rename_i y hy;rcases h with h|⟨i,o,h1,h2⟩
   ·exact .inl (by show 100<max s.1 _;omega)
   ·obtain⟨o',e,ho⟩:=Tx (b:=pOf (upV y.v x.p) i) h1 h2;exact .inr ⟨i,o',by rw[qU _ _ _ (hv y (wS hy)).srt];exact e,ho⟩
  ·exact h
 ·rcases h with h|⟨i,o,h1,h2⟩
  ·exact .inl h
  ·right;by_cases hi:i=x.i
   ·subst hi;obtain⟨o',e,ho⟩:=Tx (b:=some x.p) h1 h2;exact⟨x.i,o',by rw[mB,wae rfl];exact e,ho⟩
   ·exact⟨i,o,by rw[mB,wad hi];exact h1,h2⟩
theorem CZ {vals:List LL}(hv:∀y∈vals,VL y):∀(vs:List LV) {s:Int×Es},MK s->MK (vs.foldl (cW vals) s)
 |[],_s,h=>h
 |x::vs,_s,h=>CZ hv vs (LG hv x h)
theorem RS_step {vals:List LL}(hv:∀y∈vals,VL y){c:Int}{L:Es}{out:LL}(x:LV)(hx:Rng x)(r:RS c L out):
  (∃out',fy vals (some out) x=some out'/\RS (cW vals (c,L) x).1 (cW vals (c,L) x).2 out')∨(fy vals (some out) x=none/\MK (cW vals (c,L) x)):=by
 obtain⟨lk,bt,c0,vo⟩:=r;obtain⟨x1,x2,x3,x4⟩:=hx;have o0:=vo.c0;by_cases hm:x.i<0/\-1-x.i<(vals.length:Int)
 ·have hm':0<=-1-x.i/\-1-x.i<(vals.length:Int):=⟨by omega,hm.2⟩;obtain⟨y,hy⟩:∃y,vals[(-1-x.i).toNat]?=some y:=⟨_,wO (by omega)⟩
  have vy:=hv y (wS hy);have ea:cW vals (c,L) x=(max c (y.c+x.p),tu L y.v x.p):=by unfold cW;rw[wae hm',hy]
  have er:fy vals (some out) x=if (eu y x.p).2=0 then some (gq out (eu y x.p).1) else none:=by
   unfold fy;show(if x.i<0/\-1-x.i<(vals.length:Int) then _ else _)=_;rw[wae hm,hy]
  rw[ea,er];by_cases he:(eu y x.p).2=0
  ·left;obtain⟨p1,p2,p3,p4⟩:=Nx vy x3 he;rw[wae he];refine⟨_,rfl,⟨fun i=>?_,?_,by show 0<=max c _;omega,vu vo p1⟩⟩
   ·rw[qU _ _ _ vy.srt,lk];show _=pOf (bK out.v (eu y x.p).1.v) i;rw[jb vo.srt p1.srt,p2]
   ·have h1:=qW out (eu y x.p).1 o0 p1.c0;have h2:=Xi x3 vy;have h3:cU (gq out (eu y x.p).1).v=max (cU out.v) (cU (upV y.v x.p)):=by
     show cU (bK out.v (eu y x.p).1.v)=_;rw[ph,p2]
    have h4:btV (eu y x.p).1=max (pcR y x.p) (cU (upV y.v x.p)):=by rw[p2];rfl
    rw[h1,h3,h4,<-bt];show max (max c (y.c+x.p)) _=_;omega
  ·right;rw[wad he];refine⟨rfl,?_⟩;unfold eu at he;cases hb:(decide (100<pcR y x.p)||y.v.any fun z=>decide (100<z.p+x.p)) with
   |false=>rw[hb]at he;exact absurd rfl he
   |true=>
    rw[Bool.or_eq_true]at hb;rcases hb with hb|hb
    ·have hb:=of_decide_eq_true hb;left;show 100<max c (y.c+x.p);unfold pcR at hb;split at hb<;>omega
    ·right;obtain⟨z,hz,hb⟩:=List.any_eq_true.1 hb;have hb:=of_decide_eq_true hb;have hp:pOf (upV y.v x.p) z.i=some (z.p+x.p):=adp (HA x.p vy.srt) (y:=⟨z.i,z.p+x.p⟩) (List.mem_map.2 ⟨z,hz,rfl⟩);obtain⟨o',e,ho⟩:=Xh (a:=look L z.i) hp hb;exact⟨z.i,o',by rw[qU _ _ _ vy.srt];exact e,ho⟩
 ·left;have hm':¬(0<=-1-x.i/\-1-x.i<(vals.length:Int)):=fun e=>hm ⟨by omega,e.2⟩
  have ea:cW vals (c,L) x=(c,fV L x.i x.p):=by unfold cW;rw[wad hm']
  have er:fy vals (some out) x=some (gq out ⟨0,[x]⟩):=by
   unfold fy;show(if x.i<0/\-1-x.i<(vals.length:Int) then _ else _)=_;rw[wad hm]
  rw[ea,er];have v1:=adC ⟨x1,x2,x3,x4⟩;refine⟨_,rfl,⟨fun i=>?_,?_,c0,vu vo v1⟩⟩
  ·show look (fV L x.i x.p) i=pOf (bK out.v [x]) i;rw[mB,jb vo.srt v1.srt,pOf,pOf,<-lk];by_cases hi:i=x.i
   ·rw[wae hi,wae hi,hi]
   ·rw[wad hi,wad hi,qR]
  ·have h1:=qW out ⟨0,[x]⟩ o0 (Int.le_refl 0);have h3:cU (gq out ⟨0,[x]⟩).v=max (cU out.v) (cU [x]):=ph _ _;have h4:btV ⟨0,[x]⟩=max 0 (cU [x]):=rfl;have h5:cU [x]=max 0 x.p:=rfl;rw[h1,h3,h4,<-bt];omega
theorem fold_RS {vals:List LL}(hv:∀y∈vals,VL y):∀(vs:List LV) {c:Int} {L:Es} {out:LL},(∀x∈vs,Rng x)->RS c L out->
  (∃out',vs.foldl (fy vals) (some out)=some out'/\RS (vs.foldl (cW vals) (c,L)).1 (vs.foldl (cW vals) (c,L)).2 out')∨(vs.foldl (fy vals) (some out)=none/\MK (vs.foldl (cW vals) (c,L)))
 |[],c,L,out,_,r=>.inl ⟨out,rfl,r⟩
 |x::vs,c,L,out,hx,r=>by
  rw[List.foldl_cons,List.foldl_cons];rcases RS_step hv x (hx x (by simp)) r with⟨out',e,r'⟩|⟨e,b⟩
  ·rw[e];exact fold_RS hv vs (fun y hy=>hx y (by simp[hy])) r'
  ·rw[e,vk];exact .inr ⟨rfl,CZ hv vs b⟩
theorem KH {L:Es}{i:Int}(h:i ∉ L.map (·.1)):look L i=none:=by
 induction L with
 |nil=>rfl
 |cons e L ih=>
  rw[List.map_cons,List.mem_cons,not_or]at h;rw[look,wad h.1];exact ih h.2
theorem Oq {L:Es}(hn:(L.map (·.1)).Nodup):(dg L).Pairwise (· < ·):=by
 have p:=List.mergeSort_perm (L.map (·.1)) fun x y=>decide (x<=y)
 have h1:(dg L).Pairwise (fun a b=>decide (a<=b)=true):=List.pairwise_mergeSort (fun a b c h1 h2=>by simp at *;omega) (fun a b=>by simp;omega) _;have h2:(dg L).Pairwise (·≠·):=p.nodup_iff.2 hn;exact(h1.and h2).imp fun h=>by
  have:=of_decide_eq_true h.1;have:=h.2;omega
theorem Xl {L:Es}(hn:(L.map (·.1)).Nodup):Srt (lvs L (dg L)):=by
 unfold Srt lvs;rw[List.pairwise_map];exact Oq hn
theorem ID (L:Es)(i:Int):∀l:List Int,(∀z∈l,∃o,look L z=some o)->pOf (lvs L l) i=if i∈l then look L i else none
 |[],_=>by simp[lvs,pOf]
 |z::l,h=>by
  have ih:=ID L i l fun w hw=>h w (by simp[hw])
  show pOf (⟨z,(look L z).getD 0⟩::lvs L l) i=_;rw[pOf,ih];by_cases hi:i=z
  ·subst hi;obtain⟨o,ho⟩:=h i (by simp);simp[ho]
  ·have:(i∈z::l)↔i∈l:=by simp[hi]
   simp only[wad hi,this]
theorem IE {L:Es}(i:Int):pOf (lvs L (dg L)) i=look L i:=by
 rw[ID L i _ fun z hz=>xQ hz];split
 ·rfl
 ·rename_i h;rw[KH fun hh=>h ((List.mergeSort_perm _ _).mem_iff.2 hh)]
theorem Xn {c:Int}{L:Es}{out:LL}(hn:(L.map (·.1)).Nodup)(r:RS c L out):tW c L=(out,0):=by
 obtain⟨lk,bt,c0,vo⟩:=r;have e:lvs L (dg L)=out.v:=Srt.ext (Xl hn) vo.srt fun i=>by rw[IE,lk]
 unfold tW Uy;rw[e];have o0:=vo.c0;have o1:=vo.c1;have m1:cU out.v<=100:=zq (by omega) fun x hx=>(vo.all x hx).2.2.2
 have m0:=tK out.v;unfold btV at bt;have hb:big ⟨c,out.v⟩=false:=by
  unfold big;rw[Bool.or_eq_false_iff];refine⟨?_,HD (by show ¬ 100<c;omega)⟩;rw[List.any_eq_false];intro x hx;have:=(vo.all x hx).2.2.2;simp;omega
 rw[hb,cond_false];obtain⟨oc,ov⟩:=out;simp only at *;congr 2;cases hv:Fz ⟨c,ov⟩ with
 |true=>
  rw[cond_true];obtain⟨x,hx,hxc⟩:=List.any_eq_true.1 hv;have hxc:c<=x.p:=of_decide_eq_true hxc;have:x.p<=cU ov:=oP hx;by_cases hc:0<oc
  ·have h1:cU ov<oc:=by
    rcases most_cases ov with h|⟨y,hy,h⟩
    ·omega
    ·have:=vo.covm hc y hy;have:y.p<oc:=this;omega
   omega
  ·omega
 |false=>
  rw[cond_false];have hlt:∀x∈ov,x.p<c:=by
   intro x hx;have:=List.any_eq_false.1 hv x hx;simp at this;exact this
  rcases most_cases ov with h|⟨y,hy,h⟩
  ·rw[h]at bt;omega
  ·have:=hlt y hy;by_cases hc:0<oc
   ·have:y.p<oc:=vo.covm hc y hy;omega
   ·omega
theorem Oi {s:Int×Es}(h:MK s):tW s.1 s.2=(⟨0,[]⟩,15):=by
 have hb:big ⟨s.1,lvs s.2 (dg s.2)⟩=true:=by
  unfold big;rw[Bool.or_eq_true];rcases h with h|⟨i,o,h1,h2⟩
  ·exact .inr (HE h)
  ·left;rw[<-IE]at h1;obtain⟨y,hy,_,e⟩:=zk h1;exact List.any_eq_true.2 ⟨y,hy,HE (by omega)⟩
 unfold tW Uy;rw[hb];rfl
theorem YC {l:LL}{vals:List LL}(hl:VL l)(hv:∀y∈vals,VL y):acE l vals=dX l vals/\(∀r,repS l vals=some r->VL r):=by
 have r0:RS l.c [] ⟨l.c,[]⟩:=⟨fun i=>rfl,rfl,hl.c0,VL.mk' hl.c0 hl.c1 (by simp) (by unfold Srt;simp) (by simp)⟩;have hn:=pE (vals:=vals) l.v (l.c,[]) List.nodup_nil;unfold acE dX FB repS;rcases fold_RS hv l.v hl.all r0 with⟨out,e,r⟩|⟨e,b⟩
 ·rw[e];exact⟨Xn hn r,fun r' e'=>by cases e';exact r.vl⟩
 ·rw[e];exact⟨Oi b,fun r' e'=>by cases e'⟩
structure Pm (l:LL):Prop where
 vl:VL l
 par:∀x∈l.v,0<=x.i
theorem HC:∀{vs:List LV} {a b:Int},Srt vs->a<=b+1->(∀x∈vs,a<=x.i/\x.i<=b)->(vs.length:Int)<=b-a+1
 |[],a,b,_,h,_=>by simp;omega
 |x::vs,a,b,hs,h,hx=>by
  obtain⟨h1,h2⟩:=hx x (by simp);have:=HC (vs:=vs) (a:=x.i+1) (b:=b) hs.tail (by omega) fun y hy=>by
   have:=hs.head y hy;have:=(hx y (by simp[hy])).2;omega
  simp only[List.length_cons];omega
theorem Pm.len {l:LL}(h:Pm l):l.v.length<=8:=by
 have:=HC (a:=0) (b:=7) h.vl.srt (by omega) fun x hx=>⟨h.par x hx,(h.vl.all x hx).2.1⟩
 omega
theorem Pm.join {a b:LL}(ha:Pm a)(hb:Pm b):Pm (gq a b):=
 ⟨vu ha.vl hb.vl,lQ (P:=fun x=>0<=x.i) (fun _x _y _ hx _=>hx) ha.par hb.par⟩
theorem Pm.zero:Pm ⟨0,[]⟩:=⟨VL.mk' (Int.le_refl 0) (by show(0:Int)<=100;omega) (by simp) (by unfold Srt;simp) (by simp),by simp⟩
def Sc (n:Nat)(l:LL):Prop:=∀x∈l.v,x.i<0->-1-x.i<(n:Int)
theorem repR_err (l:LL)(vals:List LL):(dX l vals).2=0∨(dX l vals).2=15:=by
 unfold dX;cases repS l vals<;>simp
