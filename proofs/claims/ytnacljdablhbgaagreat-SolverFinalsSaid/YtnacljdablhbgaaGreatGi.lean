/- SolverFinals: the check of a term says more: its levels, its metavariables, its forms (no condition). -/
import Derived.Test.YtnacljdablhbgaaGreatGh
import Derived.Test.YtnacljdablhbgaaGreatEe
noncomputable section
namespace Go.Proofs.YtnacljdablhbgaaGreat
open Go.AG
attribute [local go_sem] dB bJ bk bS bR ca cM
theorem Uq {P:LL->Prop}{n k:Int}: ∀(ks:List T) (j:Nat) (d:Int),(∀(a:Nat) t,ks[a]?=some t->Ok P n t (d+aV k ((j+a:Nat):Int)))->Oks P n k j ks d
 |[],_,_,_=>by unfold Oks;trivial
 |t::l,j,d,h=>by
  unfold Oks;exact⟨h 0 t rfl,Uq l (j+1) d fun a x e=>by have:=h (a+1) x e;rw[show j+1+a=j+(a+1) by omega];exact this⟩
def isK (P:LL->Prop)(v q:Int)(t:T)(d:Int)(o:bI):Prop:=∃e,o=.ret (wt e)/\(e=0->Ok P q t (d+v))
theorem Mu (P:LL->Prop)(v q:Int)(t:T)(d e:Int):isK P v q t d (.ret (wt e))=(e=0->Ok P q t (d+v)):=by
 apply propext;constructor
 ·rintro⟨e',h,hw⟩;cases h;exact hw
 ·intro h;exact⟨e,rfl,h⟩
theorem kM (P:LL->Prop)(v q:Int)(t:T)(d e:Int)(he:¬e=0):isK P v q t d (.ret (wt e))=True:=by
 rw[Mu];exact eq_true fun h=>absurd h he
theorem ac7 (call:aG)(n:Nat)(x:LL)(p q:Int)(hc:∀h,call (.fn 21 [] []) [aK x] .no h=some (.ret (.bool false),.no,h)):
  R call n [.code b71] (FX r71 (fun o=>o=.ret (wt 3))) .normal ⟨bn [aK x,wt p,wt q],⟨[],.no,none,71⟩⟩ bg:=by
 unfold b71 r71 bg;unfold aK at hc ⊢;simp only[go_sem,simprocAttr,UM,hc,bA]
section
variable (call:aG)(n:Nat)(P:LL->Prop)(k i:Int)(nm:ByteArray)(ls:List LL)(ks:List T)(d v p q r:Int)
def I27bv (j:Nat)(fr:AF)(h:AH):Prop:=∃tm m,m+j=ks.length/\fr=⟨tm,⟨[],.no,none,27⟩⟩/\h.get 0=some (.box [wt k,wt i,.str nm,.ls (ls.map aK),.ls (ks.map enc)])/\
 L27 d v p q r tm/\nth tm 15=wt (m:Int)/\∀(a:Nat) t,a<m->ks[a]?=some t->Ok P q t (d+aV k a+v)
theorem Nr (hn:ks.length<n)(hl:ks.length<9223372036854775807)(hd0:0<=d)(hd1:d<4611686018427387904)
  (h72:∀(j:Int) h,call (.fn 72 [] []) [wt k,wt j] .no h=some (.ret (wt (aV k j)),.no,h))
  (h27:∀t∈ks,∀d',0<=d'->d'<=d+1->∃e,(∀h,call (.fn 27 [] []) [enc t,wt d',wt v,wt p,wt q,wt r] .no h=some (.ret (wt e),.no,h))/\(e=0->Ok P q t (d'+v)))
  (hv:(∀(a:Nat) t,ks[a]?=some t->Ok P q t (d+aV k a+v))->Ok P q (.mk k i nm ls ks) (d+v)) (tm:Tm) (h:AH) (hg:h.get 0=some (.box [wt k,wt i,.str nm,.ls (ls.map aK),.ls (ks.map enc)])) (hL:L27 d v p q r tm) :
  R call n [.code Vn] (FX r27 (isK P v q (.mk k i nm ls ks) d)) .normal ⟨tm,⟨[],.no,none,27⟩⟩ h:=by
 obtain⟨g1,g2,g3,g4,g5,g6⟩:=hL;unfold Vn r27;simp only[go_sem,simprocAttr];refine bD (I27bv P k i nm ls ks d v p q r) ks.length hn ⟨_,0,wac _,rfl,hg,⟨by simp only[go_sem,simprocAttr, *],by and_intros<;>simp only[go_sem,simprocAttr, *]⟩,by simp only[go_sem,simprocAttr],fun a t ha=>absurd ha (Nat.not_lt_zero _)⟩ ?_;clear g1 g2 g3 g4 g5 g6 hg;rintro j fr h ⟨tm,m,hm,rfl,hg,⟨g1,g2,g3,g4,g5,g6⟩,h15,hw⟩;unfold ab0;simp only[go_sem,simprocAttr,hg,g6,h15];refine bj (fun hlt=>?_) (fun hge=>?_)
 ·have hlt:m<ks.length:=by omega
  have hget:ks[m]?=some ks[m]:=wO hlt;have ha:=fun h=>aN aZ hget .i64 h
  have hb:=mG k m;obtain⟨e,hcall,he⟩:=h27 ks[m] (List.getElem_mem hlt) (d+aV k m) (by omega) (by omega);have hw1:IntKind.wrap .i64 (d+aV k m)=d+aV k m:=br _ (by omega) (by omega);have hw2:=aM m (by omega);have h72':=h72 (m:Int);simp only[go_sem,simprocAttr,aaT,hg,g1,g2,g3,g4,g5,g6,h15,ha,h72',hcall,hw1,aaU];refine bP (fun e0=>?_) (fun e0=>?_)
  ·simp only[go_sem,simprocAttr,bA];rw[kM _ _ _ _ _ _ (by simpa using e0)];trivial
  ·have e0:e=0:=by simpa using e0
   simp only[go_sem,simprocAttr,h15,hw2];refine⟨j-1,by omega,_,m+1,by omega,rfl,hg,⟨by simp only[go_sem,simprocAttr, *],by and_intros<;>simp only[go_sem,simprocAttr, *]⟩,by simp only[go_sem,simprocAttr],fun a t hlt' hat=>?_⟩;rcases Nat.lt_or_ge a m with h|h
   ·exact hw a t h hat
   ·have:a=m:=by omega
    subst this;rw[hget]at hat;cases hat;exact he e0
 ·have:m=ks.length:=by omega
  subst this;simp only[go_sem,simprocAttr,aaS,bA,Mu];intro _;exact hv fun a t hat=>hw a t (wah.1 hat).1 hat
theorem Nq (hi0 : -9223372036854775808<=i)(hi1:i<9223372036854775808)(hn:ks.length<n)(hl:ks.length<9223372036854775807)(hd0:0<=d)(hd1:d<4611686018427387904)
  (h72:∀(j:Int) h,call (.fn 72 [] []) [wt k,wt j] .no h=some (.ret (wt (aV k j)),.no,h))
  (h27:∀t∈ks,∀d',0<=d'->d'<=d+1->∃e,(∀h,call (.fn 27 [] []) [enc t,wt d',wt v,wt p,wt q,wt r] .no h=some (.ret (wt e),.no,h))/\(e=0->Ok P q t (d'+v)))
  (hv:k=0->ks=[]) (h5:k=5->ks.length=2) (hls:ls.length<=20/\∀l∈ls,P l) (tm:Tm) (h:AH) (hg:h.get 0=some (.box [wt k,wt i,.str nm,.ls (ls.map aK),.ls (ks.map enc)])) (hL:L27 d v p q r tm) :
  R call n [.code Vl] (FX r27 (isK P v q (.mk k i nm ls ks) d)) .normal ⟨tm,⟨[],.no,none,27⟩⟩ h:=by
 have hrun:=Nr call n P k i nm ls ks d v p q r hn hl hd0 hd1 h72 h27;clear h72 h27;have hrun:=fun(h0:k=0->ks=[]/\0<=i/\i<d+v) (h12:k=12->0<=i/\i<q)=>hrun (fun hk=>by
  unfold Ok;exact⟨h0,h12,h5,hls,Uq ks 0 (d+v) fun a t e=>by have:=hk a t e;rw[show d+v+aV k ((0+a:Nat):Int)=d+aV k a+v by rw[wac];omega];exact this⟩)
 obtain⟨g1,g2,g3,g4,g5,g6⟩:=hL;have L:∀tm,nth tm 1=wt d->nth tm 2=wt v->nth tm 3=wt p->nth tm 4=wt q->nth tm 5=wt r->nth tm 6=.ptr 0 0 0->L27 d v p q r tm:=fun tm a b c d e f=>⟨a,b,c,d,e,f⟩
 have n24:=kM P v q (.mk k i nm ls ks) d 24 (by decide);have n23:=kM P v q (.mk k i nm ls ks) d 23 (by decide);unfold Vl;simp only[go_sem,simprocAttr,g6,hg];by_cases hk:k=0
 ·have hk12:decide (k=12)=false:=by simp[hk]
  have hk0:decide (k=0)=true:=by simp[hk]
  by_cases hi:i<0
  ·simp only[go_sem,simprocAttr,hk0,hi,g6,hg,bA,r27,n24]
  ·have hw1:IntKind.wrap .i64 (i-d)=i-d:=br _ (by omega) (by omega);have hi':decide (i<0)=false:=by simp[hi]
   simp only[go_sem,simprocAttr,hk0,hi',g1,g2,g6,hg,hw1];refine bX (fun hb=>?_) (fun hb=>?_)
   ·simp only[go_sem,simprocAttr,bA,r27,n24]
   ·simp only[go_sem,simprocAttr,Vm,hk12,g6,hg];refine hrun (fun _=>⟨hv hk,by omega,by
                          have:¬(v<=i-d):=by simpa using hb
                          omega⟩) (fun q=>by omega) _ _ hg (L _ (by simp only[go_sem,simprocAttr,g1]) (by simp only[go_sem,simprocAttr,g2]) (by simp only[go_sem,simprocAttr,g3]) (by simp only[go_sem,simprocAttr,g4]) (by simp only[go_sem,simprocAttr,g5]) (by simp only[go_sem,simprocAttr,g6]))
 ·have hk0:decide (k=0)=false:=by simp[hk]
  have hrun:=hrun (fun h=>absurd h hk);simp only[go_sem,simprocAttr,hk0,g6,hg,Vm];cases hk12:decide (k=12) with
  |false=>
   have hne:=of_decide_eq_false hk12;simp only[go_sem,simprocAttr];exact hrun (fun h=>absurd h hne) _ _ hg (L _ (by simp only[go_sem,simprocAttr,g1]) (by simp only[go_sem,simprocAttr,g2]) (by simp only[go_sem,simprocAttr,g3]) (by simp only[go_sem,simprocAttr,g4]) (by simp only[go_sem,simprocAttr,g5]) (by simp only[go_sem,simprocAttr,g6]))
  |true=>
   simp only[go_sem,simprocAttr,g6,hg];cases hi:decide (i<0) with
   |true=>simp only[go_sem,simprocAttr,bA,r27,n23]
   |false=>
    have hi0:=of_decide_eq_false hi;simp only[go_sem,simprocAttr,g4,g6,hg];refine bX (fun hb=>?_) (fun hb=>?_)
    ·simp only[go_sem,simprocAttr,bA,r27,n23]
    ·simp only[go_sem,simprocAttr];exact hrun (fun _=>⟨by omega,by
                       have:¬(q<=i):=by simpa using hb
                       omega⟩) _ _ hg (L _ (by simp only[go_sem,simprocAttr,g1]) (by simp only[go_sem,simprocAttr,g2]) (by simp only[go_sem,simprocAttr,g3]) (by simp only[go_sem,simprocAttr,g4]) (by simp only[go_sem,simprocAttr,g5]) (by simp only[go_sem,simprocAttr,g6]))
def I27av (j:Nat)(fr:AF)(h:AH):Prop:=∃tm m,m+j=ls.length/\fr=⟨tm,⟨[],.no,none,27⟩⟩/\h.get 0=some (.box [wt k,wt i,.str nm,.ls (ls.map aK),.ls (ks.map enc)])/\
 L27 d v p q r tm/\nth tm 13=wt (m:Int)/\∀(a:Nat) l,a<m->ls[a]?=some l->P l
theorem XH (hf:rX k i nm ls ks=true):k=5->ks.length=2:=by
 intro hk;subst hk;simp only[rX,Bool.and_eq_true,Bool.not_eq_true',Bool.or_eq_false_iff,Bool.not_eq_false',decide_eq_true_eq]at hf;have h:=hf.1.2;have:nr 5=2:=by decide
 rw[this]at h;omega
theorem adb (hi0 : -9223372036854775808<=i)(hi1:i<9223372036854775808)(hn:ks.length<n)(hl:ks.length<9223372036854775807)(hn2:ls.length<n)(hl2:ls.length<9223372036854775807)(hd0:0<=d)(hd1:d<4611686018427387904)
  (h69:∀h,call (.fn 69 [] []) [.agg [wt k,wt i,.str nm,.ls (ls.map aK),.ls (ks.map enc)]] .no h=some (.ret (.bool (rX k i nm ls ks)),.no,h))
  (h70:∃b,∀h,call (.fn 70 [] []) [.str nm] .no h=some (.ret (.bool b),.no,h))
  (h71:∀l∈ls,∃e,(∀h,call (.fn 71 [] []) [aK l,wt p,wt r] .no h=some (.ret (wt e),.no,h))/\(e=0->P l))
  (h72:∀(j:Int) h,call (.fn 72 [] []) [wt k,wt j] .no h=some (.ret (wt (aV k j)),.no,h))
  (h27:∀t∈ks,∀d',0<=d'->d'<=d+1->∃e,(∀h,call (.fn 27 [] []) [enc t,wt d',wt v,wt p,wt q,wt r] .no h=some (.ret (wt e),.no,h))/\(e=0->Ok P q t (d'+v))) :
  R call n [.code b27] (FX r27 (isK P v q (.mk k i nm ls ks) d)) .normal ⟨bn [enc (.mk k i nm ls ks),wt d,wt v,wt p,wt q,wt r],⟨[],.no,none,27⟩⟩ bg:=by
 have hrun:=Nq call n P k i nm ls ks d v p q r hi0 hi1 hn hl hd0 hd1 h72 h27;clear h72 h27;have n3:=kM P v q (.mk k i nm ls ks) d 3 (by decide);have n29:=kM P v q (.mk k i nm ls ks) d 29 (by decide);have n6:=kM P v q (.mk k i nm ls ks) d 6 (by decide);have ll:∀H,lenOf (.ls (ls.map aK)) H 1=some ls.length:=fun H=>by rw[dL,waa]
 rw[ei];unfold b27 bg;cases hf:rX k i nm ls ks with
 |false=>simp only[go_sem,simprocAttr,FH,h69,hf,bA,r27,n3]
 |true=>
  have hrun:=hrun (Lc k i nm ls ks hf) (XH k i nm ls ks hf);have loop:∀(tm:Tm) (h:AH),h.get 0=some (.box [wt k,wt i,.str nm,.ls (ls.map aK),.ls (ks.map enc)])->L27 d v p q r tm->R call n [.code FI] (FX r27 (isK P v q (.mk k i nm ls ks) d)) .normal ⟨tm,⟨[],.no,none,27⟩⟩ h:=by
   rintro tm h hg ⟨g1,g2,g3,g4,g5,g6⟩;unfold FI;simp only[go_sem,simprocAttr,g6,hg,ll];by_cases hb:(8:Int)<(ls.length:Int)
   ·have hb':=HE hb;simp only[go_sem,simprocAttr,hb',bA,r27,n6]
   ·have hb':=HD hb;simp only[go_sem,simprocAttr,hb',PG];refine bD (I27av P k i nm ls ks d v p q r) ls.length hn2 ⟨_,0,wac _,rfl,hg,⟨by simp only[go_sem,simprocAttr, *],by and_intros<;>simp only[go_sem,simprocAttr, *]⟩,by simp only[go_sem,simprocAttr],fun a t ha=>absurd ha (Nat.not_lt_zero _)⟩ ?_;clear g1 g2 g3 g4 g5 g6 hg;rintro j fr h ⟨tm,m,hm,rfl,hg,⟨g1,g2,g3,g4,g5,g6⟩,h13,hw⟩;unfold ab1;simp only[go_sem,simprocAttr,hg,g6,h13,ll];refine bj (fun hlt=>?_) (fun hge=>?_)
    ·have hlt:m<ls.length:=by omega
     have hget:ls[m]?=some ls[m]:=wO hlt;have ha:=fun h=>aN dj hget .i64 h
     obtain⟨e,hcall,he⟩:=h71 ls[m] (List.getElem_mem hlt);have hw2:=aM m (by omega);simp only[go_sem,simprocAttr,aaV,hg,g3,g5,g6,h13,ha,hcall,aaW];refine bP (fun e0=>?_) (fun e0=>?_)
     ·simp only[go_sem,simprocAttr,bA,r27];rw[kM _ _ _ _ _ _ (by simpa using e0)];trivial
     ·have e0:e=0:=by simpa using e0
      simp only[go_sem,simprocAttr,h13,hw2];refine⟨j-1,by omega,_,m+1,by omega,rfl,hg,⟨by simp only[go_sem,simprocAttr, *],by and_intros<;>simp only[go_sem,simprocAttr, *]⟩,by simp only[go_sem,simprocAttr],fun a l hlt' hat=>?_⟩;rcases Nat.lt_or_ge a m with h|h
      ·exact hw a l h hat
      ·have:a=m:=by omega
       subst this;rw[hget]at hat;cases hat;exact he e0
    ·have hme:m=ls.length:=by omega
     have hrun:=hrun ⟨by omega,fun l hl=>by
      obtain⟨a,ha,rfl⟩:=wag.1 hl;exact hw a _ (by omega) (wO ha)⟩
     simp only[go_sem,simprocAttr];exact hrun _ _ hg ⟨by simp only[go_sem,simprocAttr, *],by and_intros<;>simp only[go_sem,simprocAttr, *]⟩
  obtain⟨b,h70⟩:=h70;clear hrun;simp only[go_sem,simprocAttr,FH,h69,hf,PF];cases hk3:decide (k=3) with
  |false=>
   simp only[go_sem,simprocAttr];exact loop _ _ (by simp only[go_sem,simprocAttr]) ⟨by simp only[go_sem,simprocAttr],by and_intros<;>simp only[go_sem,simprocAttr]⟩
  |true=>
   simp only[go_sem,simprocAttr,h70];cases b with
   |false=>simp only[go_sem,simprocAttr,bA,r27,n29]
   |true=>
    simp only[go_sem,simprocAttr];exact loop _ _ (by simp only[go_sem,simprocAttr]) ⟨by simp only[go_sem,simprocAttr],by and_intros<;>simp only[go_sem,simprocAttr]⟩
variable {k i nm ls ks v p q r} in
theorem run7v (e s dp:Int)
  (h27:∀h,call (.fn 27 [] []) [.agg [wt k,wt i,.str nm,.ls (ls.map aK),.ls (ks.map enc)],wt 0,wt (max v 0),wt p,wt q,wt r] .no h=some (.ret (wt e),.no,h)) (he:e=0->Ok P q (.mk k i nm ls ks) (0+max v 0))
  (h28:∀h,call (.fn 28 [] []) [.agg [wt k,wt i,.str nm,.ls (ls.map aK),.ls (ks.map enc)]] .no h=some (.ret (wt s),.no,h))
  (h29:∀h,call (.fn 29 [] []) [.agg [wt k,wt i,.str nm,.ls (ls.map aK),.ls (ks.map enc)]] .no h=some (.ret (wt dp),.no,h)) :
  R call n [.code b7] (FX r7 (isK P (max v 0) q (.mk k i nm ls ks) 0)) .normal ⟨bn [enc (.mk k i nm ls ks),wt v,wt p,wt q,wt r],⟨[],.no,none,7⟩⟩ bg:=by
 have n5:=kM P (max v 0) q (.mk k i nm ls ks) 0 5 (by decide);have n7:=kM P (max v 0) q (.mk k i nm ls ks) 0 7 (by decide);rw[ei];unfold b7 r7 bg;simp only[go_sem,simprocAttr,s7_3,h27];refine bP (fun e0=>?_) (fun e0=>?_)
 ·simp only[go_sem,simprocAttr,bA,Mu];exact he
 ·have e0:e=0:=by simpa using e0
  simp only[go_sem,simprocAttr,s7_2,h28];refine bX (fun _=>?_) (fun _=>?_)
  ·simp only[go_sem,simprocAttr,bA,n5]
  ·simp only[go_sem,simprocAttr,s7_1,h29];refine bX (fun _=>?_) (fun _=>?_)
   ·simp only[go_sem,simprocAttr,bA,n7]
   ·simp only[go_sem,simprocAttr,s7_0,bA,Mu];exact fun _=>he e0
end
def orC (A B:aG):aG:=fun f a rc h=>match A f a rc h with
 |some r=>some r
 |none=>B f a rc h
theorem GP {A B:aG}(ha:bM CI A)(hb:bM CI B):bM CI (orC A B):=by
 intro f args rc h out rc' h' q;unfold orC at q;cases hk:A f args rc h with
 |some r=>rw[hk]at q;exact ha f args rc h out rc' h' (by rw[hk];exact q)
 |none=>rw[hk]at q;exact hb f args rc h out rc' h' q
theorem VF {A B:aG}{f:AV}{a:List AV}{rc:RC}{h:AH}{r:bI×RC×AH}(e:A f a rc h=some r):orC A B f a rc h=some r:=by simp only[orC,e]
theorem Fc {A B:aG}{f:AV}{a:List AV}{rc:RC}{h:AH}{r:Option (bI×RC×AH)}(e0:A f a rc h=none)(e:B f a rc h=r):orC A B f a rc h=r:=by simp only[orC,e0,e]
theorem il {l:List AG.cF}{f:FuncId}{c a:List AV}{rc:RC}{h:AH}(hf:f ∉ l.map AG.cF.fid):dI (fx l) (.fn f [] c) a rc h=none:=by
 have hn:∀s∈l,f≠s.fid:=fun s hs e=>hf (e▸List.mem_map_of_mem hs)
 unfold dI;cases rc<;>try rfl
 simp only[AV.norm,AV.ip,sU hn]
theorem pX {l:List AG.cF}{k:Nat}{a:List AV}{rc:RC}{h:AH}: dI (fx l) (.yld k) a rc h=none:=by
 unfold dI;cases rc<;>try rfl
 simp only[AV.norm,uc]
def aeL (x:LL)(o:bI):Prop:=∃e,o=.ret (wt e)/\(e=0->PL x)
theorem TF {x:LL}{o:bI}(h:aeL x o):o.free=true:=by obtain⟨e,rfl,_⟩:=h;simp[bI.free,AV.free]
theorem abv {P:LL->Prop}{v q:Int}{t:T}{d:Int}{o:bI}(h:isK P v q t d o):o.free=true:=by obtain⟨e,rfl,_⟩:=h;simp[bI.free,AV.free]
def W71:AG.cF:=mkS 71 FD De fun x o=>aeL x.1 o
def W27:AG.cF:=mkS 27 FE Df fun x o=>isK PL x.2.2.1 x.2.2.2.2.1 x.1 x.2.1 o
def W7:AG.cF:=mkS 7 oI yn fun x o=>isK PL (max x.2.1 0) x.2.2.2.1 x.1 0 o
def W59:AG.cF:=mkS 59 a59 Js fun _ o=>isI o
def Uz (ms:List MV)(ctx ts:List T)(o:bI):Prop:=∃b:Bool,o=.ret (.bool b)/\(b=true->ctx.length<=6/\∀t∈ts,size t<=60/\Ok PL ms.length t ctx.length)
def W18:AG.cF:=mkS 18 a18 Jt fun x o=>Uz x.1 x.2.1 x.2.2 o
structure G48 (ms:List MV):Prop where
 good:wb ms
 sz:∀m∈ms,size m.val<=60
def W48:AG.cF:=mkS 48 aMs Jm fun x o=>∃b:Bool,o=.ret (.bool b)/\(b=true->G48 x)
def oe:List AG.cF:=[W71,W27,W7,W59,W18,W48]
theorem dW:oe.map AG.cF.fid=[71,27,7,59,18,48]:=rfl
theorem EB:∀s∈oe,s.Meets CI:=by
 intro s hs;simp only[oe,List.mem_cons,List.mem_nil_iff,or_false]at hs;rcases hs with h|h|h|h|h|h<;>(subst h;exact lN)
theorem ny:bM CI (dI (fx oe))/\∀s∈oe,s.Used (dI (fx oe)):=ky oe EB (by rw[dW];decide)
def GW:aG:=orC (dI (fx oe)) (orC GZ G)
theorem yF:bM CI GW:=GP ny.1 (GP fL.1 dD.1)
theorem Zy {f:AV}{a:List AV}{rc:RC}{h:AH}{r:bI×RC×AH}(e:dI (fx oe) f a rc h=some r):GW f a rc h=some r:=VF e
theorem acI {f:FuncId}{c a:List AV}{rc:RC}{h:AH}{r:bI×RC×AH}(hf:f ∉ oe.map AG.cF.fid)(e:GZ (.fn f [] c) a rc h=some r):GW (.fn f [] c) a rc h=some r:=Fc (il hf) (VF e)
theorem Zw {f:FuncId}{c a:List AV}{rc:RC}{h:AH}{r:bI×RC×AH}(hf:f ∉ oe.map AG.cF.fid)(hz:f ∉ oT.map AG.cF.fid)(e:G (.fn f [] c) a rc h=some r):GW (.fn f [] c) a rc h=some r:=Fc (il hf) (Fc (Ab hz) e)
theorem w21 (x:LL)(hl:x.v.length<9000)(h:AH):GW (.fn 21 [] []) [aK x] .no h=some (.ret (.bool (vl x)),.no,h):=by
 obtain⟨o,rfl,hu⟩:=bB (fL.2 Z21 (by simp[oT])) x (afc x hl);exact acI (by rw[dW];decide) (hu _ h (by simp[aL,AV.ip,fY]))
theorem YK (x:LL)(p q:Int)(hl:x.v.length<=20):∃o,aeL x o/\Ans CI (.fn 71 [] []) (FD (x,p,q)) o:=by
 have hv:∀h,GW (.fn 21 [] []) [aK x] .no h=some (.ret (.bool (vl x)),.no,h):=w21 x (by omega)
 cases hb:vl x with
 |true=>
  have vx:PL x:=⟨by simpa [vl] using hb,hl⟩;refine eO (n:=x.v.length+1) yF cf71 (gI 71) (by simp[FD,AV.jp,AV.free,de]) (fun _=>TF) (Hu (fun e fr h q=>?_) (run71 GW _ x p q (vl x) (by omega) (by omega) hv));obtain⟨o,⟨e,rfl⟩,r⟩:=q;exact⟨_,⟨e,rfl,fun _=>vx⟩,r⟩
 |false=>
  rw[hb]at hv;refine eO (n:=0) yF cf71 (gI 71) (by simp[FD,AV.jp,AV.free,de]) (fun _=>TF) (Hu (fun e fr h q=>?_) (ac7 GW _ x p q hv));obtain⟨o,rfl,r⟩:=q;exact⟨_,⟨3,rfl,fun h=>by cases h⟩,r⟩
theorem YN:∀(n:Nat) (t:T) (d v p q r:Int),size t<=n->n<=10000->Fit t->lE t->0<=d->d+(n:Int)<=20000->∃o,isK PL v q t d o/\Ans CI (.fn 27 [] []) (FE (t,d,v,p,q,r)) o:=by
 intro n;induction n with
 |zero=>intro t d v p q r h;have:=cG t;omega
 |succ n ih=>
  rintro⟨k,i,nm,ls,ks⟩ d v p q r h hn hf hsh hd0 hd1;obtain⟨f1,f2,f3,f4,f5,f6,f7⟩:=hf;obtain⟨s1,s2,s3⟩:=hsh;simp only[size]at h;have hl:=bE ks;refine eO (n:=20000+ls.length) yF cf27 (gI 27) (by simp[FE,AV.jp,AV.free,cH]) (fun _=>abv) (adb GW _ PL k i nm ls ks d v p q r f1 f2 (by omega) (by omega) (by omega) (by omega) hd0 (by omega) (fun h=>Zw (by rw[dW];decide) (by rw[gf];decide) (g69 k i nm ls ks h)) ?_ (fun l hlm=>?_) (fun j h=>Zw (by rw[dW];decide) (by rw[gf];decide) (g72 k j h)) (fun t ht d' e1 e2=>?_))
  ·obtain⟨o,⟨b,rfl⟩,hu⟩:=bB (dD.2 S70 (by simp[oh])) nm (A70 nm f3);exact⟨b,fun h'=>Zw (by rw[dW];decide) (by rw[gf];decide) (hu _ h' (by simp[aS,AV.ip,AV.norm]))⟩
  ·obtain⟨o,⟨e,rfl,he⟩,hu⟩:=bB (ny.2 W71 (by simp[oe])) (l,p,r) (YK l p r (s2 l hlm));exact⟨e,fun h'=>Zy (hu _ h' (by simp[FD,AV.ip,AV.norm,fY])),he⟩
  ·obtain⟨a,ha,rfl⟩:=wag.1 ht;have hs:=ck (wO ha);obtain⟨o,⟨e,rfl,he⟩,hu⟩:=bB (ny.2 W27 (by simp[oe])) (ks[a],d',v,p,q,r) (ih ks[a] d' v p q r (by omega) (by omega) (f7 _ ht) (s3 _ ht) e1 (by omega));exact⟨e,fun h'=>Zy (hu _ h' (by simp[FE,AV.ip,AV.norm,bL])),he⟩
theorem aeb (t:T)(v p q r:Int)(hs:size t<=10000)(hf:Fit t)(hsh:lE t):∃o,isK PL (max v 0) q t 0 o/\Ans CI (.fn 7 [] []) (oI (t,v,p,q,r)) o:=by
 obtain⟨o1,⟨e,rfl,he⟩,u1⟩:=bB (ny.2 W27 (by simp[oe])) (t,0,max v 0,p,q,r) (YN 10000 t 0 (max v 0) p q r hs (Fv _) hf hsh (by omega) (by omega));obtain⟨o2,rfl,u2⟩:=bB (dD.2 S28 (by simp[oh])) t (A28 10000 t hs (Fv _));obtain⟨o3,⟨dp,rfl⟩,u3⟩:=bB (dD.2 S29 (by simp[oh])) t (A29 10000 t hs (Fv _));obtain⟨k,i,nm,ls,ks⟩:=t;exact eO (n:=0) yF cf7 (gI 7) (by simp[oI,AV.jp,AV.free,cH]) (fun _=>abv) (run7v GW 0 PL e _ dp (fun h=>Zy (u1 _ h (by rw[<-ei];simp[FE,AV.ip,AV.norm,bL]))) he (fun h=>Zw (by rw[dW];decide) (by rw[gf];decide) (u2 _ h (by rw[<-ei];simp[aT,AV.ip,bL]))) (fun h=>Zw (by rw[dW];decide) (by rw[gf];decide) (u3 _ h (by rw[<-ei];simp[aT,AV.ip,bL]))))
theorem w7 (t:T)(v p q r:Int)(hs:size t<=10000)(hf:Fit t)(hsh:lE t):∃e:Int,(∀a h,AV.ip a=oI (t,v,p,q,r)->GW (.fn 7 [] []) a .no h=some (.ret (wt e),.no,h))/\(e=0->Ok PL q t (max v 0)):=by
 obtain⟨o,⟨e,rfl,he⟩,hu⟩:=bB (ny.2 W7 (by simp[oe])) (t,v,p,q,r) (aeb t v p q r hs hf hsh);exact⟨e,fun a h ha=>Zy (hu a h ha),fun h=>by have:=he h;rw[show(0:Int)+max v 0=max v 0 by omega]at this;exact this⟩
theorem w24 (l:List T)(m:Int)(hm:m<9223372036854775808)(hl:l.length<1125899906842624)(hf:∀t∈l,Fit t):∃e:Int,(∀a h,AV.ip a=aIT (m,l)->GW (.fn 24 [] []) a .no h=some (.ret (wt e),.no,h))/\(aW l<2305843009213693952->0<=e/\e<=aW l/\(e<=m->e=aW l)):=by
 obtain⟨e,h1,h2⟩:=us24 l m hm hl hf;exact⟨e,fun a h ha=>acI (by rw[dW];decide) (h1 a h ha),h2⟩
theorem w6 (l:List T)(hl:l.length<1125899906842624)(hf:∀t∈l,Fit t):∃b:Bool,(∀a h,AV.ip a=aTs l->GW (.fn 6 [] []) a .no h=some (.ret (.bool b),.no,h))/\(b=true->aW l<=200/\∀t∈l,lE t):=by
 obtain⟨b,h1,h2⟩:=us6 l hl hf;exact⟨b,fun a h ha=>acI (by rw[dW];decide) (h1 a h ha),h2⟩
theorem w11z (t:T):∃b:Bool,∀a h,AV.ip a=aT0 t->GW (.fn 11 [] []) a .no h=some (.ret (.bool b),.no,h):=by
 obtain⟨o,⟨b,rfl⟩,hu⟩:=bB (fL.2 Z11 (by simp[oT])) t (A11z t);exact⟨b,fun a h ha=>acI (by rw[dW];decide) (hu a h ha)⟩
attribute [local go_sem] dB bJ bk bS bR ca cM
attribute [local go_sem] ux iW
theorem TD (ms:List MV)(ctx ts:List T)(b:Bool):Uz ms ctx ts (.ret (.bool b))=(b=true->ctx.length<=6/\∀t∈ts,size t<=60/\Ok PL ms.length t ctx.length):=by
 apply propext;constructor
 ·rintro⟨e',h,hw⟩;cases h;exact hw
 ·intro h;exact⟨b,rfl,h⟩
theorem tM (ms:List MV)(ctx ts:List T):Uz ms ctx ts (.ret (.bool false))=True:=by rw[TD];simp
def I18v (ms:List MV)(ctx ts:List T)(j:Nat)(fr:AF)(_h:AH):Prop:=∃tm m,m+j=ts.length/\fr=⟨tm,⟨[],.no,none,18⟩⟩/\nth tm 0=.ls (ms.map cD)/\nth tm 1=.ls (ctx.map enc)/\nth tm 32=.ls (ts.map enc)/\nth tm 33=wt (ts.length:Int)/\nth tm 34=wt (m:Int)/\
 ∀(a:Nat) t,a<m->ts[a]?=some t->Ok PL ms.length t ctx.length
theorem adg (call:aG)(N:Nat)(ms:List MV)(ctx ts:List T)(e1 e2:Int)(b1 b2:Bool)(hl:ts.length<N)(hN:N<9223372036854775807)
  (h1:∀h,call (.fn 24 [] []) [wt 60,.ls (ctx.map enc)] .no h=some (.ret (wt e1),.no,h))
  (h2:∀h,call (.fn 24 [] []) [wt 60,.ls (ts.map enc)] .no h=some (.ret (wt e2),.no,h))
  (h3:∀h,call (.fn 6 [] []) [.ls (ctx.map enc)] .no h=some (.ret (.bool b1),.no,h))
  (h4:∀h,call (.fn 6 [] []) [.ls (ts.map enc)] .no h=some (.ret (.bool b2),.no,h))
  (h5:b2=true->∀t∈ts,∃e:Int,(∀h,call (.fn 7 [] []) [enc t,wt (ctx.length:Int),wt 8,wt (ms.length:Int),wt 65536] .no h=some (.ret (wt e),.no,h))/\(e=0->Ok PL ms.length t ctx.length))
  (h6:b1=true->∃e:Int,∀h,call (.fn 59 [] []) [.ls (ctx.map enc),wt 0,wt 8,wt (ms.length:Int),wt 65536] .no h=some (.ret (wt e),.no,h))
  (h7:b2=true->e2<=60->∀t∈ts,size t<=60) :
  R call N [.code b18] (FX r18 (Uz ms ctx ts)) .normal ⟨bn [.ls (ms.map cD),.ls (ctx.map enc),.ls (ts.map enc)],⟨[],.no,none,18⟩⟩ bg:=by
 unfold b18 bg;have l0:∀H,lenOf (.ls (ms.map cD)) H 1=some ms.length:=fun H=>by rw[dL,waa]
 have l1:∀H,lenOf (.ls (ctx.map enc)) H 1=some ctx.length:=fun H=>by rw[dL,waa]
 have l2:∀H,lenOf (.ls (ts.map enc)) H 1=some ts.length:=fun H=>by rw[dL,waa]
 simp only[go_sem,simprocAttr];by_cases c1:(6:Int)<(ctx.length:Int)
 ·have d1:=HE c1;simp only[go_sem,simprocAttr,yv,l1,d1,bA,r18,tM]
 have d1:=HD c1;by_cases c2:60<e1
 ·have d2:=HE c2;simp only[go_sem,simprocAttr,yv,l1,d1,h1,d2,bA,r18,tM]
 have d2:=HD c2;by_cases c3:60<e2
 ·have d3:=HE c3;simp only[go_sem,simprocAttr,yv,l1,d1,h1,d2,h2,d3,bA,r18,tM]
 have d3:=HD c3;cases b1 with
 |false=>simp only[go_sem,simprocAttr,yv,l1,d1,h1,d2,h2,d3,h3,bA,r18,tM]
 |true=>
  cases b2 with
  |false=>simp only[go_sem,simprocAttr,yv,l1,d1,h1,d2,h2,d3,h3,h4,bA,r18,tM]
  |true=>
   simp only[go_sem,simprocAttr,yv,l1,d1,h1,d2,h2,d3,h3,h4,abd,l2];refine bD (I18v ms ctx ts) ts.length hl ⟨_,0,wac _,rfl,by simp only[go_sem,simprocAttr],by simp only[go_sem,simprocAttr],by simp only[go_sem,simprocAttr],by simp only[go_sem,simprocAttr],by simp only[go_sem,simprocAttr],fun a t ha=>absurd ha (Nat.not_lt_zero _)⟩ ?_;rintro j fr h ⟨tm,m,hm,rfl,t0,t1,t32,t33,t34,hw⟩;unfold ab6;simp only[go_sem,simprocAttr,abf,t33,t34];refine bj (fun hlt=>?_) (fun hge=>?_)
   ·have hlt:m<ts.length:=by omega
    obtain⟨t,ht⟩:∃t,ts[m]?=some t:=⟨_,wO hlt⟩
    have ia:=fun h=>aN aZ ht .i64 h
    rw[aA t]at ia;obtain⟨e,he,ho⟩:=h5 rfl t (wS ht);rw[aA t]at he;have hw2:=aM m (by omega);by_cases hz:e=0
    ·have d:decide (e=0)=true:=HE hz;simp only[go_sem,simprocAttr,Vw,Vx,t0,t1,t32,t34,ia,l0,l1,he,d,hw2];refine⟨j-1,by omega,_,m+1,by omega,rfl,by simp only[go_sem,simprocAttr,t0],by simp only[go_sem,simprocAttr,t1],by simp only[go_sem,simprocAttr,t32],by simp only[go_sem,simprocAttr,t33],by simp only[go_sem,simprocAttr],fun a x hlt' hat=>?_⟩;rcases Nat.lt_or_ge a m with h|h
     ·exact hw a x h hat
     ·have:a=m:=by omega
      subst this;rw[ht]at hat;cases hat;exact ho hz
    ·have d:decide (e=0)=false:=HD hz;simp only[go_sem,simprocAttr,Vw,Vx,t0,t1,t32,t34,ia,l0,l1,he,d,bA,r18,tM]
   ·obtain⟨e,he⟩:=h6 rfl;have hme:m=ts.length:=by omega
    simp only[go_sem,simprocAttr,abe,t0,t1,l0,he,bA,r18,TD];refine fun _=>⟨by omega,fun t ht=>⟨h7 rfl (by omega) t ht,?_⟩⟩
    obtain⟨a,ha,rfl⟩:=wag.1 ht;exact hw a _ (by omega) (wO ha)
theorem YL (l:List T)(a p q r:Int)(hl:l.length<1125899906842624)(hs:aW l<=10000)(hf:∀t∈l,Fit t)(hsh:∀t∈l,lE t):∃o,isI o/\Ans CI (.fn 59 [] []) (a59 (l,a,p,q,r)) o:=
 jG (n:=1125899906842625) yF cf59 (fg 59) (by simp[a59,AV.jp,AV.free,eE]) (fun _=>abw) (run59 GW _ l a p q r (by omega) (by omega) (fun t ht v=>by
  obtain⟨i,hi,rfl⟩:=wag.1 ht;have hsz:=ck (wO hi);obtain⟨e,he,_⟩:=w7 l[i] v p q r (by omega) (hf _ ht) (hsh _ ht);exact⟨e,fun h=>he _ h (by simp[oI,AV.ip,AV.norm,bL])⟩))
theorem adP {ms:List MV}{ctx ts:List T}{o:bI}(h:Uz ms ctx ts o):o.free=true:=by obtain⟨b,rfl,_⟩:=h;simp[bI.free,AV.free]
theorem Ju (ms:List MV)(ctx ts:List T)(hl:ctx.length<1125899906842624)(hc:∀t∈ctx,Fit t)(hl2:ts.length<1125899906842624)(ht:∀t∈ts,Fit t):∃o,Uz ms ctx ts o/\Ans CI (.fn 18 [] []) (a18 (ms,ctx,ts)) o:=by
 obtain⟨e1,v1,p1⟩:=w24 ctx 60 (by omega) hl hc;obtain⟨e2,v2,p2⟩:=w24 ts 60 (by omega) hl2 ht;obtain⟨b1,v3,w3⟩:=w6 ctx hl hc;obtain⟨b2,v4,w4⟩:=w6 ts hl2 ht;have msf:AV.jp (ms.map cD)=true:=cL sL ms;refine jG (n:=1125899906842625) yF cf18 (fg 18) (by simp[a18,AV.jp,AV.free,eE,msf]) (fun _=>adP) (adg GW _ ms ctx ts e1 e2 b1 b2 (by omega) (by omega) (fun h=>v1 _ h (by simp[aIT,AV.ip,AV.norm,cu])) (fun h=>v2 _ h (by simp[aIT,AV.ip,AV.norm,cu])) (fun h=>v3 _ h (by simp[aTs,AV.ip,AV.norm,cu])) (fun h=>v4 _ h (by simp[aTs,AV.ip,AV.norm,cu])) (fun hb t htm=>?_) (fun hb=>?_) (fun hb he t htm=>?_))
 ·obtain⟨i,hi,rfl⟩:=wag.1 htm;have hsz:=ck (wO hi);have:=(w4 hb).1;obtain⟨e,he,hk⟩:=w7 ts[i] (ctx.length:Int) 8 (ms.length:Int) 65536 (by omega) (ht _ htm) ((w4 hb).2 _ htm);exact⟨e,fun h=>he _ h (by simp[oI,AV.ip,AV.norm,bL]),fun hz=>by have:=hk hz;rw[show max (ctx.length:Int) 0=ctx.length by omega]at this;exact this⟩
 ·have:=(w3 hb).1;obtain⟨o,⟨e,rfl⟩,hu⟩:=bB (ny.2 W59 (by simp[oe])) (ctx,0,8,(ms.length:Int),65536) (YL ctx 0 8 (ms.length:Int) 65536 hl (by omega) hc (w3 hb).2);exact⟨e,fun h=>Zy (hu _ h (by simp[a59,AV.ip,AV.norm,cu]))⟩
 ·have h2:=(w4 hb).1;have h3:=p2 (by omega);have h4:=h3.2.2 he;obtain⟨i,hi,rfl⟩:=wag.1 htm;have hsz:=ck (wO hi);omega
def I48v (ms:List MV)(j:Nat)(fr:AF)(_h:AH):Prop:=∃tm m,m+j=ms.length/\fr=⟨tm,⟨[],.no,none,48⟩⟩/\nth tm 0=.ls (ms.map cD)/\nth tm 8=.ls (ms.map cD)/\nth tm 9=wt (ms.length:Int)/\nth tm 10=wt (m:Int)/\
 ∀(a:Nat) x,a<m->ms[a]?=some x->size x.val<=60/\(x.known=true->Ok PL ms.length x.val 0)
def MJ (ms:List MV)(o:bI):Prop:=∃b:Bool,o=.ret (.bool b)/\(b=true->G48 ms)
theorem TC (ms:List MV)(b:Bool):MJ ms (.ret (.bool b))=(b=true->G48 ms):=by
 apply propext;constructor
 ·rintro⟨e',h,hw⟩;cases h;exact hw
 ·intro h;exact⟨b,rfl,h⟩
theorem tL (ms:List MV):MJ ms (.ret (.bool false))=True:=by rw[TC];simp
theorem ac8 (call:aG)(N:Nat)(ms:List MV)(hN:100<N)(hN2:N<9223372036854775807)
  (h24:∀m∈ms,∃e:Int,(∀h,call (.fn 24 [] []) [wt 40,.clip [(.agg [wt m.ty.kind,wt m.ty.i,.str m.ty.name,.ls (m.ty.L.map aK),.ls (m.ty.K.map enc)]),(.agg [wt m.val.kind,wt m.val.i,.str m.val.name,.ls (m.val.L.map aK),.ls (m.val.K.map enc)])]] .no h=some (.ret (wt e),.no,h))/\(aW [m.ty,m.val]<=200->e<=40->size m.val<=60))
  (h6:∀m∈ms,∃b:Bool,(∀h,call (.fn 6 [] []) [.clip [(.agg [wt m.ty.kind,wt m.ty.i,.str m.ty.name,.ls (m.ty.L.map aK),.ls (m.ty.K.map enc)]),(.agg [wt m.val.kind,wt m.val.i,.str m.val.name,.ls (m.val.L.map aK),.ls (m.val.K.map enc)])]] .no h=some (.ret (.bool b),.no,h))/\
   (b=true->aW [m.ty,m.val]<=200/\∃e1 e2:Int,(∀h,call (.fn 7 [] []) [(.agg [wt m.ty.kind,wt m.ty.i,.str m.ty.name,.ls (m.ty.L.map aK),.ls (m.ty.K.map enc)]),wt 0,wt 8,wt (ms.length:Int),wt 65536] .no h=some (.ret (wt e1),.no,h))/\(∀h,call (.fn 7 [] []) [(.agg [wt m.val.kind,wt m.val.i,.str m.val.name,.ls (m.val.L.map aK),.ls (m.val.K.map enc)]),wt 0,wt 8,wt (ms.length:Int),wt 65536] .no h=some (.ret (wt e2),.no,h))/\(e2=0->Ok PL ms.length m.val 0)))
  (h11:∀m∈ms,∃b:Bool,∀h,call (.fn 11 [] []) [(.agg [wt m.val.kind,wt m.val.i,.str m.val.name,.ls (m.val.L.map aK),.ls (m.val.K.map enc)]),.agg [wt 0,wt 0,.str (bs []),.nl,.nl]] .no h=some (.ret (.bool b),.no,h)) :
  R call N [.code b48] (FX r48 (MJ ms)) .normal ⟨bn [.ls (ms.map cD)],⟨[],.no,none,48⟩⟩ bg:=by
 unfold b48 bg;have l0:∀H,lenOf (.ls (ms.map cD)) H 1=some ms.length:=fun H=>by rw[dL,waa]
 simp only[go_sem,simprocAttr,aaJ,l0];refine bj (fun hgt=>?_) (fun hle=>?_)
 ·simp only[go_sem,simprocAttr,bA,r48,tL]
 have h8:ms.length<=8:=by omega
 simp only[go_sem,simprocAttr,aaK,l0];refine bD (I48v ms) ms.length (by omega) ⟨_,0,wac _,rfl,by simp only[go_sem,simprocAttr],by simp only[go_sem,simprocAttr],by simp only[go_sem,simprocAttr],by simp only[go_sem,simprocAttr],fun a t ha=>absurd ha (Nat.not_lt_zero _)⟩ ?_;rintro j fr h ⟨tm,q,hq,rfl,t0,t8,t9,t10,hw⟩;obtain⟨nx,lo,ob⟩:=h;unfold abY;simp only[go_sem,simprocAttr,aaM,t9,t10];refine bj (fun hlt=>?_) (fun hge=>?_)
 ·have hlt:q<ms.length:=by omega
  obtain⟨m,hm⟩:∃m,ms[q]?=some m:=⟨_,wO hlt⟩
  have ia:=fun h=>aN ie hm .i64 h
  have em:cD m=.agg [wt m.ty.kind,wt m.ty.i,.str m.ty.name,.ls (m.ty.L.map aK),.ls (m.ty.K.map enc),.bool m.known,wt m.val.kind,wt m.val.i,.str m.val.name,.ls (m.val.L.map aK),.ls (m.val.K.map enc),.bool m.cls]:=rfl;rw[em]at ia;have hmm:=wS hm;obtain⟨e,u1,us⟩:=h24 m hmm;obtain⟨b6,u6,u2⟩:=h6 m hmm;obtain⟨b11,u11⟩:=h11 m hmm;have hw2:=aM q (by omega);by_cases c1:40<e
  ·have d1:=HE c1;simp only[go_sem,simprocAttr,vR,t8,t10,ia,vS,u1,d1,bA,r48,tL]
  have d1:=HD c1;have next:(size m.val<=60/\(m.known=true->Ok PL ms.length m.val 0))->∀(tm:Tm) (h:AH),nth tm 0=.ls (ms.map cD)->nth tm 8=.ls (ms.map cD)->nth tm 9=wt (ms.length:Int)->nth tm 10=wt ((q+1:Nat):Int)->∃j',j'<j/\I48v ms j' ⟨tm,⟨[],.no,none,48⟩⟩ h:=
   fun ho tm h q0 q1 q2 q3=>⟨j-1,by omega,tm,q+1,by omega,rfl,q0,q1,q2,q3,fun a x hlt' hat=>by
    rcases Nat.lt_or_ge a q with h|h
    ·exact hw a x h hat
    ·have:a=q:=by omega
     subst this;rw[hm]at hat;cases hat;exact ho⟩
  cases b6 with
  |false=>simp only[go_sem,simprocAttr,vR,t8,t10,ia,vS,u1,d1,u6,bA,r48,tL]
  |true=>
   obtain⟨ub,e1,e2,u3,u4,u5⟩:=u2 rfl;have us:=us ub (by omega);by_cases c2:e1=0
   ·have d2:decide (e1=0)=true:=HE c2;cases hk:m.known with
    |true=>
     by_cases c3:e2=0
     ·have d3:decide (e2=0)=true:=HE c3;simp only[go_sem,simprocAttr,vR,t0,t8,t10,ia,vS,u1,d1,u6,l0,u3,d2,ES,hk,u4,d3,hw2];exact next ⟨us,fun _=>u5 c3⟩ _ _ (by simp only[go_sem,simprocAttr,t0]) (by simp only[go_sem,simprocAttr,t8]) (by simp only[go_sem,simprocAttr,t9]) (by simp only[go_sem,simprocAttr])
     ·have d3:decide (e2=0)=false:=HD c3;simp only[go_sem,simprocAttr,vR,t0,t8,t10,ia,vS,u1,d1,u6,l0,u3,d2,ES,hk,u4,d3,bA,r48,tL]
    |false=>
     cases b11 with
     |true=>
      simp only[go_sem,simprocAttr,vR,t0,t8,t10,ia,vS,u1,d1,u6,l0,u3,d2,ES,hk,u11,hw2];exact next ⟨us,fun h=>by rw[hk]at h;cases h⟩ _ _ (by simp only[go_sem,simprocAttr,t0]) (by simp only[go_sem,simprocAttr,t8]) (by simp only[go_sem,simprocAttr,t9]) (by simp only[go_sem,simprocAttr])
     |false=>simp only[go_sem,simprocAttr,vR,t0,t8,t10,ia,vS,u1,d1,u6,l0,u3,d2,ES,hk,u11,bA,r48,tL]
   ·have d2:decide (e1=0)=false:=HD c2;simp only[go_sem,simprocAttr,vR,t0,t8,t10,ia,vS,u1,d1,u6,l0,u3,d2,bA,r48,tL]
 ·have hme:q=ms.length:=by omega
  simp only[go_sem,simprocAttr,aaL,bA,r48,TC];refine fun _=>⟨⟨h8,fun x hx hk=>?_⟩,fun x hx=>?_⟩
  all_goals obtain⟨a,ha,rfl⟩:=wag.1 hx
  ·have:=hw a _ (by omega) (wO ha);exact⟨this.1,this.2 hk⟩
  ·exact(hw a _ (by omega) (wO ha)).1
theorem adO {ms:List MV}{o:bI}(h:MJ ms o):o.free=true:=by obtain⟨b,rfl,_⟩:=h;simp[bI.free,AV.free]
theorem YM (ms:List MV)(hf:∀m∈ms,UD m):∃o,MJ ms o/\Ans CI (.fn 48 [] []) (aMs ms) o:=by
 have msf:AV.jp (ms.map cD)=true:=cL sL ms;have fit:∀m∈ms,∀t∈[m.ty,m.val],Fit t:=fun m hm t ht=>by
  simp at ht;rcases ht with rfl|rfl
  ·exact(hf m hm).ty
  ·exact(hf m hm).val
 refine jG (n:=101) yF cf48 (fg 48) (by simp[aMs,AV.jp,AV.free,msf]) (fun _=>adO) (ac8 GW 101 ms (by omega) (by omega) (fun m hm=>?_) (fun m hm=>?_) (fun m hm=>?_))
 ·obtain⟨e,v,p⟩:=w24 [m.ty,m.val] 40 (by omega) (by simp) (fit m hm);refine⟨e,fun h=>v _ h (by rw[<-aA,<-aA];simp[aIT,AV.ip,AV.norm,bL]),fun h1 h2=>?_⟩;have:=(p (by omega)).2.2 h2;simp only[aW]at this;omega
 ·obtain⟨b,v,w⟩:=w6 [m.ty,m.val] (by simp) (fit m hm);refine⟨b,fun h=>v _ h (by rw[<-aA,<-aA];simp[aTs,AV.ip,AV.norm,bL]),fun hb=>⟨(w hb).1,?_⟩⟩;have:=(w hb).1;simp only[aW]at this;obtain⟨e1,h1,_⟩:=w7 m.ty 0 8 (ms.length:Int) 65536 (by omega) (hf m hm).ty ((w hb).2 _ (by simp));obtain⟨e2,h2,k2⟩:=w7 m.val 0 8 (ms.length:Int) 65536 (by omega) (hf m hm).val ((w hb).2 _ (by simp));exact⟨e1,e2,fun h=>h1 _ h (by rw[<-aA];simp[oI,AV.ip,AV.norm,bL]),fun h=>h2 _ h (by rw[<-aA];simp[oI,AV.ip,AV.norm,bL]),fun h=>k2 h⟩
 ·obtain⟨b,v⟩:=w11z m.val;exact⟨b,fun h=>v _ h (by rw[<-aA];simp[aT0,enc,qB,AV.ip,AV.norm,bL])⟩
