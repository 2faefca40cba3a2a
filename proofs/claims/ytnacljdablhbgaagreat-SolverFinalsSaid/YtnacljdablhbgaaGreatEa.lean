/- SolverFinishes: one visit of a bound by the program (no condition). -/
import Derived.Test.YtnacljdablhbgaaGreatDi
namespace Go.Proofs.YtnacljdablhbgaaGreat
open Go.AG
structure C99 (kV n:Nat)(B:List AV)(pk:Nat)(h0 h:AH):Prop where
 b2:h.get h0.z=some (.box [.row kV 0 2 0 n])
 b3:h.get (h0.z+1)=some (.box B)
 mrk:h.get pk=some (.dfd false)
 kw:∀k,k<h0.z->k≠kV->h.get k=h0.get k
 kpv:h.get kV=h0.get kV∨h.low<=kV
 low:kV<=h.low
structure S99 (kV n:Nat)(B:List AV)(tm0:Tm)(p8 pk pl:Nat)(h0:AH)(vs:List LL)(ch:Bool)(h:AH):Prop where
 c:C99 kV n B pk h0 h
 b4:h.get (h0.z+2)=some (.box [.bool false])
 b5:h.get (h0.z+3)=some (.box [wt 0])
 b8:h.get p8=some (.box [.bool ch])
 lp:h.get pl=some (.loop .ready none tm0 [26] b99_0 b99_7 99)
 vv:VS kV vs h
 len:vs.length=n
 pm:∀y∈vs,Pm y
theorem C99.mono {kV n:Nat}{B:List AV}{pk:Nat}{h0 h h':AH}(c:C99 kV n B pk h0 h)(hk:kV<h0.z)(h3:h0.z+4<=pk)(hp:pk<h.z)(hg:∀k,k<h.z->h'.get k=h.get k)(hl:kV<=h'.low)(hl':h'.low<=h.low):C99 kV n B pk h0 h':=by
 obtain⟨b2,b3,mrk,keep,kpv,low⟩:=c;refine⟨(hg _ (by omega)).trans b2,(hg _ (by omega)).trans b3,(hg _ hp).trans mrk,fun k h1 h2=>(hg k (by omega)).trans (keep k h1 h2),?_,hl⟩;rcases kpv with h|h
 ·exact .inl ((hg _ (by omega)).trans h)
 ·exact .inr (by omega)
theorem S99.mono {kV n:Nat}{B:List AV}{tm0:Tm}{p8 pk pl:Nat}{h0 h h':AH}{vs:List LL}{ch:Bool}(s:S99 kV n B tm0 p8 pk pl h0 vs ch h)(hk:kV<h0.z)(h3:h0.z+4<=pk)(h8:p8<pk)(hkl:pk<pl)(hp:pl<h.z)(hg:∀k,k<h.z->h'.get k=h.get k)(hn:h.z<=h'.z)(hl:kV<=h'.low)(hl':h'.low<=h.low):S99 kV n B tm0 p8 pk pl h0 vs ch h':=by
 obtain⟨c,b4,b5,b8,lp,vv,len,pm⟩:=s;exact⟨c.mono hk h3 (by omega) hg hl hl',(hg _ (by omega)).trans b4,(hg _ (by omega)).trans b5,(hg _ (by omega)).trans b8,(hg _ hp).trans lp,vv.mono hn (hg _ vv.lt),len,pm⟩
attribute [local go_sem] dB bJ bk bS bR ca
