/- SolverFinishes: Leq of the program (no condition). -/
import Derived.Test.YtnacljdablhbgaaGreatDd
namespace Go.Proofs.YtnacljdablhbgaaGreat
open Go.AG
attribute [local go_sem] dB bJ bk bS bR
attribute [local go_sem] dB bJ bk bS bR
attribute [local go_sem] dB bJ bk bS bR ca
theorem VL.asc {l:LL}(h:VL l):∀(d i:Nat) x y,l.v[i]?=some x->l.v[i+d+1]?=some y->x.i<y.i
 |0,i,x,y,hx,hy=>h.ord i x y hx hy
 |d+1,i,x,y,hx,hy=>by
  obtain⟨z,hz⟩:∃z,l.v[i+d+1]?=some z:=by
   have:=(wah.1 hy).1;exact⟨_,wO (by omega)⟩
  have:=VL.asc h d i x z hx hz;have:=h.ord (i+d+1) z y hz hy;omega
attribute [local go_sem] dB bJ bk bS bR ca
attribute [local go_sem] dB bJ bk bS bR ca
def I135 (c:Int)(vs:List LV)(j:Nat)(fr:AF)(h:AH):Prop:=∃tm m nx lo ob,m+j=vs.length/\fr=⟨tm,⟨[],.no,none,135⟩⟩/\h=⟨nx,lo,ob⟩/\0<nx/\ob.get 0=some (.box [wt c,.ls (vs.map encV)])/\
  nth tm 1=.ptr 0 0 0/\nth tm 23=.ls (vs.map encV)/\nth tm 24=wt (vs.length:Int)/\nth tm 25=wt (m:Int)/\Pre Rng vs m
theorem adh (call:aG)(n:Nat)(c:Int)(vs:List LV)(hn:vs.length<n)(hl:vs.length<9000)
  (h192:∀h:AH,∃nx,h.z<=nx/\call (.fn 192 [] []) [.agg [wt c,.ls (vs.map encV)]] .no h=some (.ret (.bool (Fz ⟨c,vs⟩)),.no,⟨nx,h.low,h.objs⟩)) :
  R call n [.code ae1] (FX r135 (vB ⟨c,vs⟩)) .normal ⟨bn [aK ⟨c,vs⟩],⟨[],.no,none,135⟩⟩ bg:=by
 unfold ae1 r135 bg aK;have hlen:∀H,lenOf (.ls (vs.map encV)) H 1=some vs.length:=fun H=>by rw[dL,waa]
 have main:(0<=c/\c<=100/\(0<c->∀(i:Nat) x,vs[i]?=some x->x.p<c))->∀tm nx lo ob,0<nx->ob.get 0=some (.box [wt c,.ls (vs.map encV)])->nth tm 1=.ptr 0 0 0->
   R call n [.code Gt] (FX [.tmp 2] (vB ⟨c,vs⟩)) .normal ⟨tm,⟨[],.no,none,135⟩⟩ ⟨nx,lo,ob⟩:=by
  rintro⟨c0,c1,hcov⟩ tm nx lo ob hnx g t1;unfold Gt;simp only[go_sem,t1,g,hlen];refine bD (I135 c vs) vs.length hn ⟨_,0,_,_,_,wac _,rfl,rfl,hnx,g,by simp only[go_sem,Nat.reduceEqDiff,t1],by simp only[go_sem,Nat.reduceEqDiff],by simp only[go_sem,Nat.reduceEqDiff],by simp only[go_sem];rfl,.zero⟩ ?_;clear t1 g hnx;rintro j fr h ⟨tm,m,nx,lo,ob,hm,rfl,rfl,hnx,hg,h1,h23,h24,h25,hp⟩;unfold Ue;simp only[go_sem,RV,h24,h25];refine bj (fun hlt=>?_) (fun hge=>?_)
  ·have hlt:m<vs.length:=by omega
   have hget:vs[m]?=some vs[m]:=wO hlt;have ha:=fun h=>aN ct hget .i64 h
   have hw2:=aM m (by omega);have hne:¬(0=nx):=by omega
   have hv:encV vs[m]=.agg [wt vs[m].i,wt vs[m].p]:=rfl;have nxt:Pre Rng vs (m+1)->∀tm' nx' lo' ob',0<nx'->ob'.get 0=some (.box [wt c,.ls (vs.map encV)])->nth tm' 1=.ptr 0 0 0->nth tm' 23=.ls (vs.map encV)->nth tm' 24=wt (vs.length:Int)->nth tm' 25=wt ((m+1:Nat):Int)->
     ∃j',j'<j/\I135 c vs j' ⟨tm',⟨[],.no,none,135⟩⟩ ⟨nx',lo',ob'⟩:=fun hp' tm' nx' lo' ob' q1 q2 u1 u23 u24 u25=>⟨j-1,by omega,tm',m+1,nx',lo',ob',by omega,rfl,rfl,q1,q2,u1,u23,u24,u25,hp'⟩
   cases m with
   |zero=>
    have hd:decide ((0:Int)<((0:Nat):Int))=false:=by simp
    repeat' (first|simp only[go_sem,Nat.reduceEqDiff,Nat.reduceAdd,Int.reduceNeg, *,Gu,Gv,bA,Dl]|refine bV (fun _=>?_) fun _=>?_|refine cO (fun _=>?_) fun _=>?_|refine bP (fun _=>?_) fun _=>?_|refine bX (fun _=>?_) fun _=>?_|refine bZ (fun _=>?_) fun _=>?_)
    all_goals simp only[decide_eq_true_eq,decide_eq_false_iff_not,Int.not_lt]at *
    all_goals first
     |(refine(LS fun v=>?_).symm;obtain⟨_,_,_,_⟩:=v.rng 0 _ hget;omega)
     |(refine nxt (.succ0 hget ⟨by omega,by omega,by omega,by omega⟩) _ _ _ _ (by omega) (by simp only[go_sem, *]) (by simp only[go_sem,Nat.reduceEqDiff, *]) (by simp only[go_sem,Nat.reduceEqDiff, *]) (by simp only[go_sem,Nat.reduceEqDiff, *]) (by simp only[go_sem, *]))
   |succ p=>
    have hgp:vs[p]?=some vs[p]:=wO (by omega);have ha3:=fun h=>aN ct hgp .i64 h
    have hv3:encV vs[p]=.agg [wt vs[p].i,wt vs[p].p]:=rfl;have hw3:IntKind.wrap .i64 (((p+1:Nat):Int)-1)=(p:Int):=by rw[br _ (by omega) (by omega)];omega
    have hd:decide ((0:Int)<((p+1:Nat):Int))=true:=by simp
    repeat' (first|simp only[go_sem,Nat.reduceEqDiff,Nat.reduceAdd,Int.reduceNeg, *,Gu,Gv,bA,Dl]|refine bV (fun _=>?_) fun _=>?_|refine cO (fun _=>?_) fun _=>?_|refine bP (fun _=>?_) fun _=>?_|refine bX (fun _=>?_) fun _=>?_|refine bZ (fun _=>?_) fun _=>?_)
    all_goals simp only[decide_eq_true_eq,decide_eq_false_iff_not,Int.not_lt,Int.not_le]at *
    all_goals first
     |(refine Ix hgp hget ?_;omega)
     |(refine(LS fun v=>?_).symm;obtain⟨_,_,_,_⟩:=v.rng (p+1) _ hget;omega)
     |(refine nxt (.succ hp hgp hget ⟨by omega,by omega,by omega,by omega⟩ (by omega)) _ _ _ _ (by omega) (by simp only[go_sem, *]) (by simp only[go_sem,Nat.reduceEqDiff, *]) (by simp only[go_sem,Nat.reduceEqDiff, *]) (by simp only[go_sem,Nat.reduceEqDiff, *]) (by simp only[go_sem, *]))
  ·have:m=vs.length:=by omega
   subst this
   repeat' (first|simp only[go_sem, *,RU,bA,Dl]|refine bV (fun _=>?_) fun _=>?_|refine cO (fun _=>?_) fun _=>?_|refine bP (fun _=>?_) fun _=>?_|refine bX (fun _=>?_) fun _=>?_|refine bZ (fun _=>?_) fun _=>?_)
   have lt:∀{i:Nat} {x},vs[i]?=some x->i<vs.length:=fun e=>(wah.1 e).1
   exact(yZ ⟨c0,c1,fun i x e=>hp.rng i x (lt e) e,fun i x y e e'=>hp.ord i x y (lt e') e e',hcov⟩).symm
 by_cases hc0:c<0
 ·have d1:decide (c<0)=true:=HE hc0;simp only[go_sem,Nat.reduceEqDiff,Nat.reduceAdd,tE,d1,bA,Dl];exact uR (by omega)
 ·have d1:decide (c<0)=false:=HD hc0;by_cases hc1:100<c
  ·have d2:decide (100<c)=true:=HE hc1;simp only[go_sem,Nat.reduceEqDiff,Nat.reduceAdd,tE,d1,d2,bA,Dl];exact uR (by omega)
  ·have d2:decide (100<c)=false:=HD hc1;by_cases hp:0<c
   ·have d3:decide (0<c)=true:=HE hp;obtain⟨nx,h1,e1⟩:=h192 ⟨1,0,Tr.lf.put 0 (.box [wt c,.ls (vs.map encV)])⟩;cases hcv:Fz ⟨c,vs⟩ with
    |true=>
     rw[hcv]at e1;simp only[go_sem,Nat.reduceEqDiff,Nat.reduceAdd,tE,d1,d2,d3,e1,bA,Dl];refine(LS fun v=>?_).symm;obtain⟨x,hx,hxc⟩:=List.any_eq_true.1 hcv;obtain⟨i,hi⟩:=List.mem_iff_getElem?.1 hx;have:=v.cov hp i x hi;have:=of_decide_eq_true hxc;have h':(LL.mk c vs).c<=x.p:=this;have h'':x.p<c:=by assumption
     have h3:(LL.mk c vs).c=c:=rfl;omega
    |false=>
     rw[hcv]at e1;simp only[go_sem,Nat.reduceEqDiff,Nat.reduceAdd,tE,d1,d2,d3,e1];refine main ⟨by omega,by omega,fun _ i x hx=>?_⟩ _ _ _ _ (by have h1:1<=nx:=h1;omega) (by simp only[go_sem]) (by simp only[go_sem,Nat.reduceEqDiff]);have:=List.any_eq_false.1 hcv x (wS hx);simp at this;exact this
   ·have d3:decide (0<c)=false:=HD hp;simp only[go_sem,Nat.reduceEqDiff,Nat.reduceAdd,tE,d1,d2,d3];exact main ⟨by omega,by omega,fun h=>absurd h hp⟩ _ _ _ _ (by omega) (by simp only[go_sem]) (by simp only[go_sem,Nat.reduceEqDiff])
theorem jG {f:FuncId}{az:List AV}{P:bI->Prop}{call:aG}{n nt:Nat}{rs:List bF}{body:aw}(hc:bM CI call)(hcf:EF.cf f=some ⟨nt,rs,body⟩)(hp:EF.pure f=true)(hfr:AV.jp az=true)(hfo:∀o,P o->o.free=true)
  (hR:R call n [.code body] (FX rs P) .normal ⟨bn az,⟨[],.no,none,f⟩⟩ bg):∃o,P o/\Ans CI (.fn f [] []) az o:=by
 obtain⟨e,fr,h,q,o,hP,hQ⟩:=hR;obtain⟨h',o',q1,q2⟩:=TH (o:=o) hcf hp ⟨e,fr,h,q,hQ⟩;refine⟨o,hP,by simp[AV.free,AV.jp],hfr,hfo o hP,_,h',o',rF hEF hc n,?_,q2⟩;show dZ EF call n f (app [] (app az [])) .no bg=_;rw[fk,fk];simpa using q1
def KN:aG:=fun _ _ _ _=>none
theorem acd:bM CI KN:=by intro f a rc h out rc' h' q;cases q
theorem Zg:jR KN:=⟨fun _ _ _ _ _ _=>rfl,fun _ _ _ _=>rfl⟩
theorem A135 (x:LL)(hl:x.v.length<9000):∃o,vB x o/\Ans CI (.fn 135 [] []) (aL x) o:=
 jG (n:=30000) (BE acd 4) cf135 (fg 135) (by simp[aL,AV.jp,de]) (by rintro o rfl;simp[bI.free,AV.free]) (adh (cK KN 4) 30000 x.c x.v (by omega) hl (fun h=>c192 Zg 0 _ x.c x.v h (Rd.ls ct (fun _=>rfl) x.v) (by omega)))
theorem afc (x:LL)(hl:x.v.length<9000):∃o,vB x o/\Ans CI (.fn 21 [] []) (aL x) o:=
 jG (n:=30000) acd ((cfE 21).trans cf21) (fg 21) (by simp[aL,AV.jp,de]) (by rintro o rfl;simp[bI.free,AV.free]) (adf KN 30000 x.c x.v (by omega) (by omega))
attribute [local go_sem] dB bJ bk bS bR ca
attribute [local go_sem] dB bJ bk bS bR ca
