/- UnifyInverts: the table of functions; the small functions of the reference (no condition). -/
import Derived.Test.YtnacljdablhbgaaGreatBa
import Derived.Test.YtnacljdablhbgaaGreatAm
namespace Go.Proofs.YtnacljdablhbgaaGreat
open Go.AG
abbrev wt (x:Int):AV:=.int .i64 x
theorem acz:Tryz.prog.follows .mixedOrders=true:=by kernel_rfl
theorem GU:Iz Tryz.prog=true:=by kernel_rfl
noncomputable def CI:Cx:=cxOf Tryz.prog tx acz
theorem hEI:oK CI EI:=Ay Tryz.prog tx _ acz GU
def aV (kind kid:Int):Int:=if (kid=1/\(kind=5∨kind=6∨kind=7))∨(kid=2/\kind=11) then 1 else 0
theorem run72 (call:aG)(n:Nat)(kind kid:Int):R call n [.code b72] (FQ r72 (.ret (wt (aV kind kid)))) .normal ⟨bn [wt kind,wt kid],⟨[],.no,none,72⟩⟩ bg:=by
 unfold b72 r72 bg
 repeat' (first|simp only[go_sem,simprocAttr, *,ZR,ZQ]|refine bV (fun _=>?_) fun _=>?_|refine cO (fun _=>?_) fun _=>?_|refine bP (fun _=>?_) fun _=>?_|refine bX (fun _=>?_) fun _=>?_|refine bZ (fun _=>?_) fun _=>?_)
 all_goals (simp_all [aV])
def qJ (c:Int):Bool:=decide (97<=c)&&decide (c<=122)||decide (65<=c)&&decide (c<=90)||decide (c=95)
theorem adj (call:aG)(n:Nat)(c:Int):R call n [.code ae4] (FQ aeF (.ret (.bool (qJ c)))) .normal ⟨bn [.int .u8 c],⟨[],.no,none,117⟩⟩ bg:=by
 unfold ae4 aeF bg
 repeat' (first|simp only[go_sem,simprocAttr, *,Sw]|refine bV (fun _=>?_) fun _=>?_|refine cO (fun _=>?_) fun _=>?_|refine bP (fun _=>?_) fun _=>?_|refine bX (fun _=>?_) fun _=>?_|refine bZ (fun _=>?_) fun _=>?_)
 all_goals (first|(simp_all [qJ];done)|(simp_all [qJ];omega))
def nr (kind:Int):Int:=if kind=4∨kind=5∨kind=6∨kind=7 then 2 else if kind=8∨kind=11 then 3 else if kind=9∨kind=10 then 1 else 0
theorem adk (call:aG)(n:Nat)(c:Int):R call n [.code ae5] (FQ aeG (.ret (wt (nr c)))) .normal ⟨bn [wt c],⟨[],.no,none,116⟩⟩ bg:=by
 unfold ae5 aeG bg
 repeat' (first|simp only[go_sem,simprocAttr, *,Sy,Sx]|refine bV (fun _=>?_) fun _=>?_|refine cO (fun _=>?_) fun _=>?_|refine bP (fun _=>?_) fun _=>?_|refine bX (fun _=>?_) fun _=>?_|refine bZ (fun _=>?_) fun _=>?_)
 all_goals (simp_all [nr])
mutual
def size:T->Nat
 |.mk _ _ _ _ ks=>1+aW ks
def aW:List T->Nat
 |[]=>0
 |t::l=>size t+aW l
end
theorem kq (ks:List T)(i:Nat)(t:T)(h:ks[i]?=some t):aW (ks.take (i+1))=aW (ks.take i)+size t:=by
 induction ks generalizing i with
 |nil=>simp at h
 |cons a l ih=>
  cases i with
  |zero=>simp at h;subst h;simp[aW]
  |succ i=>simp at h;simp only[List.take_succ_cons,aW,ih i h];omega
theorem fQ (ks:List T)(m:Nat):aW (ks.take m)<=aW ks:=by
 induction ks generalizing m with
 |nil=>simp
 |cons a l ih=>cases m with
  |zero=>simp[aW]
  |succ m=>simp only[List.take_succ_cons,aW];have:=ih m;omega
def aeV (t:T):eI:=.box (enc t).cells
theorem zQ (k i:Int)(nm:ByteArray)(ls:List LL)(ks:List T):aeV (.mk k i nm ls ks)=.box [wt k,wt i,.str nm,.ls (ls.map aK),.ls (ks.map enc)]:=by
 rw[aeV,ei];rfl
def I28 (t:T)(j:Nat)(fr:AF)(h:AH):Prop:=∃tm m,m+j=t.K.length/\fr=⟨tm,⟨[],.no,none,28⟩⟩/\h=⟨1,0,Tr.lf.put 0 (aeV t)⟩/\
  nth tm 1=.ptr 0 0 0/\nth tm 3=wt ((1+aW (t.K.take m):Nat):Int)/\nth tm 4=wt (m:Int)
theorem abk (call:aG)(n:Nat)(k i:Int)(nm:ByteArray)(ls:List LL)(ks:List T)(hn:ks.length<n)(hs:1+aW ks<9223372036854775807)(hl:ks.length<9223372036854775807)
  (hc:∀t∈ks,∀h,call (.fn 28 [] []) [enc t] .no h=some (.ret (wt (size t)),.no,h)) :
  R call n [.code b28] (FQ r28 (.ret (wt (size (.mk k i nm ls ks))))) .normal ⟨bn [enc (.mk k i nm ls ks)],⟨[],.no,none,28⟩⟩ bg:=by
 rw[ei];unfold b28 r28 bg;simp only[go_sem,simprocAttr,aaO,aaP];refine bD (I28 (.mk k i nm ls ks)) ks.length hn ?_ ?_
 ·exact⟨_,0,wac _,rfl,by rw[zQ],by simp only[go_sem,simprocAttr],by simp only[go_sem,simprocAttr];simp[aW],by simp only[go_sem,simprocAttr]⟩
 ·rintro j fr h ⟨tm,m,hm,rfl,rfl,h1,h3,h4⟩;simp only[T.K]at hm h3;rw[zQ];unfold abZ;simp only[go_sem,simprocAttr,aaR,h1,h4];refine bj (fun hlt=>?_) (fun hge=>?_)
  ·have hlt:m<ks.length:=by omega
   have hget:ks[m]?=some ks[m]:=wO hlt;have hcall:=hc ks[m] (List.getElem_mem hlt);have ha:=fun h=>aN aZ hget .i64 h
   have hst:=kq ks m _ hget;have hsz:=fQ ks (m+1);have hw1:IntKind.wrap .i64 (((1+aW (ks.take m):Nat):Int)+(size ks[m]:Int))=((1+aW (ks.take (m+1)):Nat):Int):=by rw[br _ (by omega) (by omega)];omega
   have hw2:=aM m (by omega);simp only[go_sem,simprocAttr,h1,h3,h4,ha,hcall,hw1,hw2];exact⟨j-1,by omega,_,m+1,by simp only[T.K];omega,rfl,by rw[zQ],by and_intros<;>simp only[go_sem,simprocAttr,h1,T.K]⟩
  ·have:m=ks.length:=by omega
   subst this;simp only[go_sem,simprocAttr,aaQ,h3];simp[size]
section
variable (call:aG)(n:Nat)(k i:Int)(nm:ByteArray)(ls:List LL)(ks:List T)(tm:Tm)(h:AH)(v:Bool)
def VO (k:Int)(ls:List LL):Bool:=decide ((ls.length:Int)=0)||decide (k=3)
def VN (k:Int)(ls:List LL):Bool:=cond (decide (k=2)) (decide ((ls.length:Int)=1)) (VO k ls)
def VM (k:Int)(nm:ByteArray)(ls:List LL):Bool:=!(!(nm==bs []) && !decide (k=3))&&VN k ls
def VK (k i:Int)(nm:ByteArray)(ls:List LL):Bool:=!(!decide (i=0) && !decide (k=0) && !decide (k=12))&&VM k nm ls
def rX (k i:Int)(nm:ByteArray)(ls:List LL)(ks:List T):Bool:=!(decide (k<0)||decide (13<=k) || !decide ((ks.length:Int)=nr k))&&VK k i nm ls
theorem WA (h1:nth tm 1=.ptr 0 0 0)(hh:h.get 0=some (.box [wt k,wt i,.str nm,.ls (ls.map aK),.ls (ks.map enc)])):
  R call n [.code UQ] (FQ [.tmp 2] (.ret (.bool (VO k ls)))) .normal ⟨tm,⟨[],.no,none,69⟩⟩ h:=by
 unfold UQ VO
 repeat' (first|simp only[go_sem,simprocAttr, *]|refine bV (fun _=>?_) fun _=>?_|refine cO (fun _=>?_) fun _=>?_|refine bP (fun _=>?_) fun _=>?_|refine bX (fun _=>?_) fun _=>?_|refine bZ (fun _=>?_) fun _=>?_)
theorem Wz (h1:nth tm 1=.ptr 0 0 0)(hh:h.get 0=some (.box [wt k,wt i,.str nm,.ls (ls.map aK),.ls (ks.map enc)])):
  R call n [.code UP] (FQ [.tmp 2] (.ret (.bool (VN k ls)))) .normal ⟨tm,⟨[],.no,none,69⟩⟩ h:=by
 unfold UP VN
 repeat' (first|simp only[go_sem,simprocAttr, *]|refine bV (fun _=>?_) fun _=>?_|refine cO (fun _=>?_) fun _=>?_|refine bP (fun _=>?_) fun _=>?_|refine bX (fun _=>?_) fun _=>?_|refine bZ (fun _=>?_) fun _=>?_)
 exact WA _ _ _ _ _ _ _ _ _ (by simp only[go_sem,simprocAttr,h1]) hh
theorem Wy (h1:nth tm 1=.ptr 0 0 0)(hh:h.get 0=some (.box [wt k,wt i,.str nm,.ls (ls.map aK),.ls (ks.map enc)])):
  R call n [.code UO] (FQ [.tmp 2] (.ret (.bool (VM k nm ls)))) .normal ⟨tm,⟨[],.no,none,69⟩⟩ h:=by
 unfold UO VM
 repeat' (first|simp only[go_sem,simprocAttr, *]|refine bV (fun _=>?_) fun _=>?_|refine cO (fun _=>?_) fun _=>?_|refine bP (fun _=>?_) fun _=>?_|refine bX (fun _=>?_) fun _=>?_|refine bZ (fun _=>?_) fun _=>?_)
 all_goals exact Wz _ _ _ _ _ _ _ _ _ (by simp only[go_sem,simprocAttr,h1]) hh
theorem Wx (h1:nth tm 1=.ptr 0 0 0)(hh:h.get 0=some (.box [wt k,wt i,.str nm,.ls (ls.map aK),.ls (ks.map enc)])):
  R call n [.code UN] (FQ [.tmp 2] (.ret (.bool (VK k i nm ls)))) .normal ⟨tm,⟨[],.no,none,69⟩⟩ h:=by
 unfold UN VK
 repeat' (first|simp only[go_sem,simprocAttr, *]|refine bV (fun _=>?_) fun _=>?_|refine cO (fun _=>?_) fun _=>?_|refine bP (fun _=>?_) fun _=>?_|refine bX (fun _=>?_) fun _=>?_|refine bZ (fun _=>?_) fun _=>?_)
 all_goals exact Wy _ _ _ _ _ _ _ _ _ (by simp only[go_sem,simprocAttr,h1]) hh
theorem run69 (hc:∀h,call (.fn 116 [] []) [wt k] .no h=some (.ret (wt (nr k)),.no,h)):
  R call n [.code b69] (FQ r69 (.ret (.bool (rX k i nm ls ks)))) .normal ⟨bn [enc (.mk k i nm ls ks)],⟨[],.no,none,69⟩⟩ bg:=by
 rw[ei];unfold b69 r69 bg rX
 repeat' (first|simp only[go_sem,simprocAttr, *,aaf]|refine bV (fun _=>?_) fun _=>?_|refine cO (fun _=>?_) fun _=>?_|refine bP (fun _=>?_) fun _=>?_|refine bX (fun _=>?_) fun _=>?_|refine bZ (fun _=>?_) fun _=>?_)
 all_goals exact Wx _ _ k i nm ls ks _ _ (by simp only[go_sem,simprocAttr]) (by simp only[go_sem,simprocAttr])
end
def isB (o:bI):Prop:=∃b,o=.ret (.bool b)
def isI (o:bI):Prop:=∃e,o=.ret (wt e)
def FX (rs:List bF)(P:bI->Prop)(e:AEx)(fr:AF)(h:AH):Prop:=∃o,P o/\FQ rs o e fr h
theorem bA {rs:List bF}{P:bI->Prop}{tm:Tm}{rnd:Option Nat}{f:FuncId}{h:AH}: FX rs P .ret ⟨tm,⟨[],.no,rnd,f⟩⟩ h=∃vs,fF rs tm h=some vs/\P (bI.ret (frz 4 h 0 (one vs)).norm):=by
 apply propext;constructor
 ·rintro⟨o,hp,hq⟩;rw[Hw]at hq;obtain⟨vs,h1,rfl⟩:=hq;exact⟨vs,h1,hp⟩
 ·rintro⟨vs,h1,hp⟩;exact⟨_,hp,by rw[Hw];exact⟨vs,h1,rfl⟩⟩
theorem jv (b:Bool):isB (.ret (.bool b))=True:=eq_true ⟨b,rfl⟩
theorem vV (b:Int):isI (.ret (wt b))=True:=eq_true ⟨b,rfl⟩
def I21 (c:Int)(vs:List LV)(j:Nat)(fr:AF)(h:AH):Prop:=∃tm m nx lo ob,m+j=vs.length/\fr=⟨tm,⟨[],.no,none,21⟩⟩/\h=⟨nx,lo,ob⟩/\0<nx/\ob.get 0=some (.box [wt c,.ls (vs.map encV)])/\
  nth tm 1=.ptr 0 0 0/\nth tm 3=wt (m:Int)
theorem Dj {c:Int}{vs:List LV}{j m:Nat}{tm:Tm}{nx lo:Nat}{ob:Tr eI}(hm:m+j=vs.length)(hlt:m<vs.length)(q1:0<nx)(q2:ob.get 0=some (.box [wt c,.ls (vs.map encV)]))(q3:nth tm 1=.ptr 0 0 0)(q4:nth tm 3=wt ((m+1:Nat):Int)):
  ∃j',j'<j/\I21 c vs j' ⟨tm,⟨[],.no,none,21⟩⟩ ⟨nx,lo,ob⟩:=⟨j-1,by omega,tm,m+1,nx,lo,ob,by omega,rfl,rfl,q1,q2,q3,q4⟩
theorem run21 (call:aG)(n:Nat)(c:Int)(vs:List LV)(hn:vs.length<n)(hl:vs.length<9223372036854775807):
  R call n [.code b21] (FX r21 isB) .normal ⟨bn [aK ⟨c,vs⟩],⟨[],.no,none,21⟩⟩ bg:=by
 unfold b21 r21 bg aK
 repeat' (first|simp only[go_sem,Nat.reduceEqDiff,Nat.reduceAdd, *,Vs,Vt,bA,jv]|refine bV (fun _=>?_) fun _=>?_|refine cO (fun _=>?_) fun _=>?_|refine bP (fun _=>?_) fun _=>?_|refine bX (fun _=>?_) fun _=>?_|refine bZ (fun _=>?_) fun _=>?_)
 refine bD (I21 c vs) vs.length hn ⟨_,0,_,_,_,wac _,rfl,rfl,Nat.zero_lt_one,by simp only[go_sem],by simp only[go_sem,Nat.reduceEqDiff],by simp only[go_sem];rfl⟩ ?_;rintro j fr h ⟨tm,m,nx,lo,ob,hm,rfl,rfl,hnx,hg,h1,h3⟩;unfold VW;simp only[go_sem,Nat.reduceEqDiff,h1,h3,hg];refine bj (fun hlt=>?_) (fun hge=>?_)
 ·have hlt:m<vs.length:=by omega
  have hget:vs[m]?=some vs[m]:=wO hlt;have ha:=fun h=>aN ct hget .i64 h
  have hw2:=aM m (by omega);have hne:¬(0=nx):=by omega
  have hv:encV vs[m]=.agg [wt vs[m].i,wt vs[m].p]:=rfl;cases m with
  |zero=>
   have hd:decide ((0:Int)<((0:Nat):Int))=false:=by simp
   repeat' (first|simp only[go_sem,Nat.reduceEqDiff,Nat.reduceAdd,Int.reduceNeg, *,EV,EW,EX,EY,bA,jv]|refine bV (fun _=>?_) fun _=>?_|refine cO (fun _=>?_) fun _=>?_|refine bP (fun _=>?_) fun _=>?_|refine bX (fun _=>?_) fun _=>?_|refine bZ (fun _=>?_) fun _=>?_)
   all_goals exact Dj hm hlt (by omega) (by simp only[go_sem, *]) (by simp only[go_sem,Nat.reduceEqDiff, *]) (by simp only[go_sem, *])
  |succ p=>
   have hgp:vs[p]?=some vs[p]:=wO (by omega);have ha3:=fun h=>aN ct hgp .i64 h
   have hv3:encV vs[p]=.agg [wt vs[p].i,wt vs[p].p]:=rfl;have hw3:IntKind.wrap .i64 (((p+1:Nat):Int)-1)=(p:Int):=by rw[br _ (by omega) (by omega)];omega
   have hd:decide ((0:Int)<((p+1:Nat):Int))=true:=by simp
   repeat' (first|simp only[go_sem,Nat.reduceEqDiff,Nat.reduceAdd,Int.reduceNeg, *,EV,EW,EX,EY,bA,jv]|refine bV (fun _=>?_) fun _=>?_|refine cO (fun _=>?_) fun _=>?_|refine bP (fun _=>?_) fun _=>?_|refine bX (fun _=>?_) fun _=>?_|refine bZ (fun _=>?_) fun _=>?_)
   all_goals exact Dj hm hlt (by omega) (by simp only[go_sem, *]) (by simp only[go_sem,Nat.reduceEqDiff, *]) (by simp only[go_sem, *])
 ·repeat' (first|simp only[go_sem, *,Vu,bA,jv]|refine bV (fun _=>?_) fun _=>?_|refine cO (fun _=>?_) fun _=>?_|refine bP (fun _=>?_) fun _=>?_|refine bX (fun _=>?_) fun _=>?_|refine bZ (fun _=>?_) fun _=>?_)
theorem JA (s:ByteArray)(m:Nat)(hm:m<s.size):∃b:Int,mg (.str s) (wt (m:Int))=some (.int .u8 b):=by
 have hl:m<s.data.toList.length:=by simpa using hm
 refine⟨((s.data.toList[m]'hl).toNat:Int),?_⟩;show aq (pK m s.data.toList) _=_;rw[iQ,wO hl];rfl
def I70 (s:ByteArray)(j:Nat)(fr:AF)(_h:AH):Prop:=∃tm m b,m+j=s.size/\fr=⟨tm,⟨[],.no,none,70⟩⟩/\nth tm 0=.str s/\nth tm 3=.bool b/\nth tm 4=wt (m:Int)
theorem Pu {s:ByteArray}{j m:Nat}{tm:Tm}{h:AH}(hm:m+j=s.size)(hlt:m<s.size)(q1:nth tm 0=.str s)(q2:∃b,nth tm 3=.bool b)(q3:nth tm 4=wt ((m+1:Nat):Int)):
  ∃j',j'<j/\I70 s j' ⟨tm,⟨[],.no,none,70⟩⟩ h:=by
 obtain⟨b,q2⟩:=q2;exact⟨j-1,by omega,tm,m+1,b,by omega,rfl,q1,q2,q3⟩
theorem run70 (call:aG)(n:Nat)(s:ByteArray)(hn:s.size<n)(hl:s.size<9223372036854775807)(hc:∀c h,call (.fn 117 [] []) [.int .u8 c] .no h=some (.ret (.bool (qJ c)),.no,h)):
  R call n [.code b70] (FX r70 isB) .normal ⟨bn [.str s],⟨[],.no,none,70⟩⟩ bg:=by
 unfold b70 r70 bg
 repeat' (first|simp only[go_sem,simprocAttr, *,bA,jv,ZZ,ZY,ZX]|refine bV (fun _=>?_) fun _=>?_|refine cO (fun _=>?_) fun _=>?_|refine bP (fun _=>?_) fun _=>?_|refine bX (fun _=>?_) fun _=>?_|refine bZ (fun _=>?_) fun _=>?_)
 refine bD (I70 s) s.size hn ⟨_,0,true,wac _,rfl,by and_intros<;>simp only[go_sem,simprocAttr]⟩ ?_;rintro j fr h ⟨tm,m,b,hm,rfl,h0,h3,h4⟩;unfold abP;simp only[go_sem,simprocAttr,h0,h4];refine bj (fun hlt=>?_) (fun hge=>?_)
 ·have hlt:m<s.size:=by omega
  obtain⟨c,hb⟩:=JA s m hlt;have hw2:=aM m (by omega)
  repeat' (first|simp only[go_sem,simprocAttr, *,bA,jv,aae,aad,aac,aab]|refine bV (fun _=>?_) fun _=>?_|refine cO (fun _=>?_) fun _=>?_|refine bP (fun _=>?_) fun _=>?_|refine bX (fun _=>?_) fun _=>?_|refine bZ (fun _=>?_) fun _=>?_)
  all_goals exact Pu hm hlt (by simp only[go_sem,simprocAttr, *]) ⟨_,by simp only[go_sem,simprocAttr, *];rfl⟩ (by simp only[go_sem,simprocAttr, *])
 ·repeat' (first|simp only[go_sem,simprocAttr, *,bA,jv,aaa]|refine bV (fun _=>?_) fun _=>?_|refine cO (fun _=>?_) fun _=>?_|refine bP (fun _=>?_) fun _=>?_|refine bX (fun _=>?_) fun _=>?_|refine bZ (fun _=>?_) fun _=>?_)
def I71 (_f _m0:Nat)(x:LL)(p q:Int)(sl:Nat)(j:Nat)(fr:AF)(h:AH):Prop:=∃tm m,m+j=x.v.length/\fr=⟨tm,⟨[],.no,none,71⟩⟩/\h.get 0=some (.box [wt x.c,.ls (x.v.map encV)])/\
 nth tm 3=.ptr 0 0 0/\nth tm 1=wt p/\nth tm 2=wt q/\nth tm sl=wt (m:Int)
theorem Di {f m0:Nat}{x:LL}{p q:Int}{sl j m:Nat}{tm:Tm}{h:AH}(hm:m+j=x.v.length)(hlt:m<x.v.length)(q1:h.get 0=some (.box [wt x.c,.ls (x.v.map encV)]))(q2:nth tm 3=.ptr 0 0 0)(q3:nth tm 1=wt p)(q4:nth tm 2=wt q)(q5:nth tm sl=wt ((m+1:Nat):Int)):
  ∃j',j'<j/\I71 f m0 x p q sl j' ⟨tm,⟨[],.no,none,71⟩⟩ h:=⟨j-1,by omega,tm,m+1,by omega,rfl,q1,q2,q3,q4,q5⟩
theorem run71 (call:aG)(n:Nat)(x:LL)(p q:Int)(b:Bool)(hn:x.v.length<n)(hl:x.v.length<9223372036854775807)(hc:∀h,call (.fn 21 [] []) [aK x] .no h=some (.ret (.bool b),.no,h)):
  R call n [.code b71] (FX r71 isI) .normal ⟨bn [aK x,wt p,wt q],⟨[],.no,none,71⟩⟩ bg:=by
 unfold b71 r71 bg;unfold aK at hc ⊢
 repeat' (first|simp only[go_sem,simprocAttr, *,bA,vV,ZS,UM]|refine bV (fun _=>?_) fun _=>?_|refine cO (fun _=>?_) fun _=>?_|refine bP (fun _=>?_) fun _=>?_|refine bX (fun _=>?_) fun _=>?_|refine bZ (fun _=>?_) fun _=>?_)
 refine bD (I71 0 0 x p q 7) x.v.length hn ⟨_,0,wac _,rfl,by and_intros<;>simp only[go_sem,simprocAttr]⟩ ?_;rintro j fr h ⟨tm,m,hm,rfl,hg,h3,h1,h2,h7⟩;unfold abO;simp only[go_sem,simprocAttr,hg,h3,h7];refine bj (fun hlt=>?_) (fun hge=>?_)
 ·have hlt:m<x.v.length:=by omega
  have hget:x.v[m]?=some x.v[m]:=wO hlt;have ha:=fun h=>aN ct hget .i64 h
  have hv:encV x.v[m]=.agg [wt x.v[m].i,wt x.v[m].p]:=rfl;have hw2:=aM m (by omega)
  repeat' (first|simp only[go_sem,simprocAttr, *,bA,vV,ZW]|refine bV (fun _=>?_) fun _=>?_|refine cO (fun _=>?_) fun _=>?_|refine bP (fun _=>?_) fun _=>?_|refine bX (fun _=>?_) fun _=>?_|refine bZ (fun _=>?_) fun _=>?_)
  all_goals exact Di hm hlt (by simp only[go_sem,simprocAttr, *]) (by simp only[go_sem,simprocAttr, *]) (by simp only[go_sem,simprocAttr, *]) (by simp only[go_sem,simprocAttr, *]) (by simp only[go_sem,simprocAttr, *])
 ·repeat' (first|simp only[go_sem,simprocAttr, *,ZT]|refine bV (fun _=>?_) fun _=>?_|refine cO (fun _=>?_) fun _=>?_|refine bP (fun _=>?_) fun _=>?_|refine bX (fun _=>?_) fun _=>?_|refine bZ (fun _=>?_) fun _=>?_)
  refine bD (I71 0 0 x p q 8) x.v.length hn ⟨_,0,wac _,rfl,by and_intros<;>simp only[go_sem,simprocAttr, *]⟩ ?_;rintro j fr h ⟨tm,m,hm,rfl,hg,h3,h1,h2,h7⟩;unfold abN;simp only[go_sem,simprocAttr,hg,h3,h7];refine bj (fun hlt=>?_) (fun hge=>?_)
  ·have hlt:m<x.v.length:=by omega
   have hget:x.v[m]?=some x.v[m]:=wO hlt;have ha:=fun h=>aN ct hget .i64 h
   have hv:encV x.v[m]=.agg [wt x.v[m].i,wt x.v[m].p]:=rfl;have hw2:=aM m (by omega)
   repeat' (first|simp only[go_sem,simprocAttr, *,bA,vV,ZV]|refine bV (fun _=>?_) fun _=>?_|refine cO (fun _=>?_) fun _=>?_|refine bP (fun _=>?_) fun _=>?_|refine bX (fun _=>?_) fun _=>?_|refine bZ (fun _=>?_) fun _=>?_)
   all_goals exact Di hm hlt (by simp only[go_sem,simprocAttr, *]) (by simp only[go_sem,simprocAttr, *]) (by simp only[go_sem,simprocAttr, *]) (by simp only[go_sem,simprocAttr, *]) (by simp only[go_sem,simprocAttr, *])
  ·repeat' (first|simp only[go_sem,simprocAttr, *,bA,vV,ZU]|refine bV (fun _=>?_) fun _=>?_|refine cO (fun _=>?_) fun _=>?_|refine bP (fun _=>?_) fun _=>?_|refine bX (fun _=>?_) fun _=>?_|refine bZ (fun _=>?_) fun _=>?_)
def I29 (t:List AV)(ks:List T)(j:Nat)(fr:AF)(h:AH):Prop:=∃tm m e,m+j=ks.length/\fr=⟨tm,⟨[],.no,none,29⟩⟩/\h.get 0=some (.box t)/\nth tm 1=.ptr 0 0 0/\nth tm 3=wt e/\nth tm 4=wt (m:Int)
theorem run29 (call:aG)(n:Nat)(k i:Int)(nm:ByteArray)(ls:List LL)(ks:List T)(hn:ks.length<n)(hl:ks.length<9223372036854775807)
  (hc:∀t∈ks,∃e,∀h,call (.fn 29 [] []) [enc t] .no h=some (.ret (wt e),.no,h)) :
  R call n [.code b29] (FX r29 isI) .normal ⟨bn [enc (.mk k i nm ls ks)],⟨[],.no,none,29⟩⟩ bg:=by
 rw[ei];unfold b29 r29 bg;simp only[go_sem,simprocAttr,Vh,Vi];refine bD (I29 [wt k,wt i,.str nm,.ls (ls.map aK),.ls (ks.map enc)] ks) ks.length hn ⟨_,0,0,wac _,rfl,by and_intros<;>simp only[go_sem,simprocAttr]⟩ ?_;rintro j fr h ⟨tm,m,e,hm,rfl,hg,h1,h3,h4⟩;unfold VV;simp only[go_sem,simprocAttr,hg,h1,h4];refine bj (fun hlt=>?_) (fun hge=>?_)
 ·have hlt:m<ks.length:=by omega
  have hget:ks[m]?=some ks[m]:=wO hlt;have ha:=fun h=>aN aZ hget .i64 h
  obtain⟨e2,hcall⟩:=hc ks[m] (List.getElem_mem hlt);have hw2:=aM m (by omega);simp only[go_sem,simprocAttr,Vk,hg,h1,h3,h4,ha,hcall,hw2];exact⟨j-1,by omega,_,m+1,_,by omega,rfl,hg,by and_intros<;>simp only[go_sem,simprocAttr, *]<;>rfl⟩
 ·simp only[go_sem,simprocAttr,Vj,h3,bA,vV]
inductive WF (vars:Int):T->Int->Prop
 |mk {k i:Int} {nm:ByteArray} {ls:List LL} {ks:List T} {d:Int} (hv:k=0->ks=[]/\0<=i/\i-d<vars) (hk:∀(j:Nat) t,ks[j]?=some t->WF vars t (d+aV k j)):WF vars (.mk k i nm ls ks) d
theorem mG (k j:Int):0<=aV k j/\aV k j<=1:=by
 unfold aV;split<;>omega
def isW (vars:Int)(t:T)(d:Int)(o:bI):Prop:=∃e,o=.ret (wt e)/\(e=0->WF vars t d)
def L27 (d v p q r:Int)(tm:Tm):Prop:=nth tm 1=wt d/\nth tm 2=wt v/\nth tm 3=wt p/\nth tm 4=wt q/\nth tm 5=wt r/\nth tm 6=.ptr 0 0 0
section
variable (call:aG)(n:Nat)(k i:Int)(nm:ByteArray)(ls:List LL)(ks:List T)(d v p q r:Int)
theorem Lc (hf:rX k i nm ls ks=true):k=0->ks=[]:=by
 intro hk;subst hk;simp only[rX,Bool.and_eq_true,Bool.not_eq_true',Bool.or_eq_false_iff,Bool.not_eq_false',decide_eq_true_eq]at hf;have h:=hf.1.2;have:nr 0=0:=by decide
 rw[this]at h;exact List.length_eq_zero_iff.1 (by omega)
end
theorem aA (t:T):enc t=.agg [wt t.kind,wt t.i,.str t.name,.ls (t.L.map aK),.ls (t.K.map enc)]:=by
 cases t;rw[ei];rfl
theorem ot (t:T):size t=1+aW t.K:=by cases t;simp[size,T.K]
def isN (most:Int)(l:List T)(o:bI):Prop:=∃r:Int,o=.ret (wt r)/\(aW l<2305843009213693952->0<=r/\r<=aW l/\(r<=most->r=aW l))
theorem abr (most:Int)(l:List T)(r:Int):isN most l (.ret (wt r))=(aW l<2305843009213693952->0<=r/\r<=aW l/\(r<=most->r=aW l)):=by
 apply propext;constructor
 ·rintro⟨e',h,hw⟩;cases h;exact hw
 ·intro h;exact⟨r,rfl,h⟩
theorem Dt (x:Int):IntKind.wrap .i64 x<9223372036854775808:=by
 have e1:(2 ^ IntKind.i64.bits:Int)=18446744073709551616:=rfl;have e2:(2 ^ (IntKind.i64.bits-1):Int)=9223372036854775808:=rfl;have e3:IntKind.i64.signed=true:=rfl;unfold IntKind.wrap;simp only[e1,e2,e3,Bool.true_and,decide_eq_true_eq,ge_iff_le];split<;>omega
def I24 (most:Int)(l:List T)(j:Nat)(fr:AF)(h:AH):Prop:=∃tm m a nx lo ob,m+j=l.length/\fr=⟨tm,⟨[],.no,none,24⟩⟩/\h=⟨nx,lo,ob⟩/\
 nth tm 0=wt most/\nth tm 5=wt a/\nth tm 8=.ls (l.map enc)/\nth tm 9=wt (l.length:Int)/\nth tm 10=wt (m:Int)/\
 (aW l<2305843009213693952->0<=a/\a<=aW (l.take m)/\(a<=most->a=aW (l.take m)))
theorem abl (call:aG)(n:Nat)(most:Int)(l:List T)(hmo:most<9223372036854775808)(hn:l.length<n)(hl:l.length<9223372036854775807)
  (hc:∀t∈l,∀m',m'<9223372036854775808->∃r:Int,(∀h,call (.fn 24 [] []) [wt m',.ls (t.K.map enc)] .no h=some (.ret (wt r),.no,h))/\(aW t.K<2305843009213693952->0<=r/\r<=aW t.K/\(r<=m'->r=aW t.K))) :
  R call n [.code b24] (FX r24 (isN most l)) .normal ⟨bn [wt most,.ls (l.map enc)],⟨[],.no,none,24⟩⟩ bg:=by
 unfold b24 bg;simp only[go_sem,simprocAttr,aaY,aaZ];refine bD (I24 most l) l.length hn ⟨_,0,0,_,_,_,wac _,rfl,rfl,by simp only[go_sem,simprocAttr],by simp only[go_sem,simprocAttr],by simp only[go_sem,simprocAttr],by simp only[go_sem,simprocAttr],by simp only[go_sem,simprocAttr],by simp[aW]⟩ ?_;rintro j fr h ⟨tm,m,a,nx,lo,ob,hm,rfl,rfl,g0,g5,g8,g9,g10,hA⟩;unfold ab2;simp only[go_sem,simprocAttr,aa1,g10,g9];refine bj (fun hlt=>?_) (fun hge=>?_)
 ·have hlt:m<l.length:=by omega
  have hget:l[m]?=some l[m]:=wO hlt;have ha:=fun h=>aN aZ hget .i64 h
  have hep:=aA l[m];have hst:=kq l m _ hget;have hsl:=fQ l (m+1);have hsk:=ot l[m];have hw2:=aM m (by omega);simp only[go_sem,simprocAttr,aa2,g8,g10,ha,aa3,g0,g5,hep];refine bj (fun hgt=>?_) (fun hle=>?_)
  ·simp only[go_sem,simprocAttr,bA,r24,abr,g5];intro hs;have:=hA hs;have:=fQ l m;omega
  ·obtain⟨r,hcall,hr⟩:=hc l[m] (List.getElem_mem hlt) (IntKind.wrap .i64 (most-a)) (Dt _);simp only[go_sem,simprocAttr,g0,g5,g10,hcall,hw2];refine⟨j-1,by omega,_,m+1,IntKind.wrap .i64 (a+IntKind.wrap .i64 (1+r)),_,_,_,by omega,rfl,rfl,by simp only[go_sem,simprocAttr, *],by simp only[go_sem,simprocAttr, *],by simp only[go_sem,simprocAttr, *],by simp only[go_sem,simprocAttr, *],by simp only[go_sem,simprocAttr, *],fun hs=>?_⟩;obtain⟨b1,b2,b3⟩:=hA hs;have b4:=b3 (by omega);have w1:IntKind.wrap .i64 (most-a)=most-a:=br _ (by omega) (by omega);rw[w1]at hr;obtain⟨c1,c2,c3⟩:=hr (by omega);have w2:IntKind.wrap .i64 (1+r)=1+r:=br _ (by omega) (by omega);have w3:IntKind.wrap .i64 (a+(1+r))=a+(1+r):=br _ (by omega) (by omega);rw[w2,w3];refine⟨by omega,by omega,fun hq=>?_⟩;have:=c3 (by omega);omega
 ·have:m=l.length:=by omega
  subst this;rw[List.take_length]at hA;simp only[go_sem,simprocAttr,aa0,g5,bA,r24,abr];exact hA
theorem run26 (call:aG)(n:Nat)(x:LL):R call n [.code b26] (FQ r26 (.ret (.bool (decide ((20:Int)<(x.v.length:Int)))))) .normal ⟨bn [aK x],⟨[],.no,none,26⟩⟩ bg:=by
 unfold b26 bg aK;simp only[go_sem,simprocAttr,aaX,r26]
def I68 (l:List LL)(j:Nat)(fr:AF)(_h:AH):Prop:=∃tm m,m+j=l.length/\fr=⟨tm,⟨[],.no,none,68⟩⟩/\nth tm 0=.ls (l.map aK)/\nth tm 1=.fn 26 [] []/\nth tm 7=wt (l.length:Int)/\nth tm 8=wt (m:Int)/\∀x∈l.take m,x.v.length<=20
def isX (l:List LL)(o:bI):Prop:=∃e:Int,o=.ret (wt e)/\(e<0->∀x∈l,x.v.length<=20)
theorem abp (l:List LL)(e:Int):isX l (.ret (wt e))=(e<0->∀x∈l,x.v.length<=20):=by
 apply propext;constructor
 ·rintro⟨e',h,hw⟩;cases h;exact hw
 ·intro h;exact⟨e,rfl,h⟩
theorem run68 (call:aG)(n:Nat)(l:List LL)(hn:l.length<n)(hl:l.length<9223372036854775807)(hc:∀x∈l,∀h,call (.fn 26 [] []) [aK x] .no h=some (.ret (.bool (decide ((20:Int)<(x.v.length:Int)))),.no,h)):
  R call n [.code b68] (FX r68 (isX l)) .normal ⟨bn [.ls (l.map aK),.fn 26 [] []],⟨[],.no,none,68⟩⟩ bg:=by
 unfold b68 bg;simp only[go_sem,simprocAttr,Mg];refine bD (I68 l) l.length hn ⟨_,0,wac _,rfl,by simp only[go_sem,simprocAttr],by simp only[go_sem,simprocAttr],by simp only[go_sem,simprocAttr],by simp only[go_sem,simprocAttr],by simp⟩ ?_;rintro j fr h ⟨tm,m,hm,rfl,g0,g1,g7,g8,hA⟩;unfold Mz;simp only[go_sem,simprocAttr,Mi,g7,g8];refine bj (fun hlt=>?_) (fun hge=>?_)
 ·have hlt:m<l.length:=by omega
  have hget:l[m]?=some l[m]:=wO hlt;have ha:=fun h=>aN dj hget .i64 h
  have hcall:=hc l[m] (List.getElem_mem hlt);have hw2:=aM m (by omega);simp only[go_sem,simprocAttr,EP,ER,g0,g1,g8,ha,hcall];refine bX (fun hb=>?_) (fun hb=>?_)
  ·simp only[go_sem,simprocAttr,bA,r68,abp];intro h;omega
  ·have hb':¬((20:Int)<(l[m].v.length:Int)):=by simpa using hb
   simp only[go_sem,simprocAttr,g8,hw2];refine⟨j-1,by omega,_,m+1,by omega,rfl,by simp only[go_sem,simprocAttr, *],by simp only[go_sem,simprocAttr, *],by simp only[go_sem,simprocAttr, *],by simp only[go_sem,simprocAttr, *],fun x hx=>?_⟩;rw[List.take_succ_eq_append_getElem hlt]at hx;simp only[List.mem_append,List.mem_singleton]at hx;rcases hx with hx|rfl
   ·exact hA x hx
   ·omega
 ·have:m=l.length:=by omega
  subst this;rw[List.take_length]at hA;simp only[go_sem,simprocAttr,Mh,bA,r68,abp];exact fun _=>hA
def isY (l:List LL)(o:bI):Prop:=∃b:Bool,o=.ret (.bool b)/\(b=false->∀x∈l,x.v.length<=20)
theorem run25 (call:aG)(n:Nat)(l:List LL)(e:Int)(he:e<0->∀x∈l,x.v.length<=20)(hc:∀h,call (.fn 68 [] []) [.ls (l.map aK),.fn 26 [] []] .no h=some (.ret (wt e),.no,h)):
  R call n [.code b25] (FX r25 (isY l)) .normal ⟨bn [.ls (l.map aK),.fn 26 [] []],⟨[],.no,none,25⟩⟩ bg:=by
 unfold b25 bg;simp only[go_sem,simprocAttr,Mm,hc,bA,r25];exact⟨_,rfl,fun h=>he (by simpa using h)⟩
inductive lE:T->Prop
 |mk {k i:Int} {nm:ByteArray} {ls:List LL} {ks:List T} (h1:ls.length<=20) (h2:∀x∈ls,x.v.length<=20) (h3:∀t∈ks,lE t):lE (.mk k i nm ls ks)
theorem lE.of {t:T}(h1:t.L.length<=20)(h2:∀x∈t.L,x.v.length<=20)(h3:∀s∈t.K,lE s):lE t:=by cases t;exact .mk h1 h2 h3
def isF (l:List T)(o:bI):Prop:=∃b,o=.ret (.bool b)/\(b=true->aW l<=200/\∀t∈l,lE t)
theorem abt (l:List T)(b:Bool):isF l (.ret (.bool b))=(b=true->aW l<=200/\∀t∈l,lE t):=by
 apply propext;constructor
 ·rintro⟨e',h,hw⟩;cases h;exact hw
 ·intro h;exact⟨b,rfl,h⟩
theorem Fi (l:List T):isF l (.ret (.bool false))=True:=by rw[abt];exact eq_true (by simp)
theorem AT (l:List T)(h:∀(a:Nat) t,l[a]?=some t->aW t.K<=200):aW l<=201*l.length:=by
 induction l with
 |nil=>simp[aW]
 |cons t l ih=>
  have h0:=h 0 t rfl;have:=ih fun a t ha=>h (a+1) t (by simpa using ha)
  simp only[aW,ot,List.length_cons];omega
def I6 (l:List T)(j:Nat)(fr:AF)(h:AH):Prop:=∃tm m nx lo ob,m+j=l.length/\fr=⟨tm,⟨[],.no,none,6⟩⟩/\h=⟨nx,lo,ob⟩/\
 nth tm 8=.ls (l.map enc)/\nth tm 9=wt (l.length:Int)/\nth tm 10=wt (m:Int)/\∀(a:Nat) t,a<m->l[a]?=some t->aW t.K<=200/\lE t
theorem run6 (call:aG)(n:Nat)(l:List T)(hn:l.length<n)(hl:l.length<1125899906842624)
  (h24:∃r:Int,(∀h,call (.fn 24 [] []) [wt 200,.ls (l.map enc)] .no h=some (.ret (wt r),.no,h))/\(aW l<2305843009213693952->0<=r/\r<=aW l/\(r<=200->r=aW l)))
  (h25:∀t∈l,∃b,(∀h,call (.fn 25 [] []) [.ls (t.L.map aK),.fn 26 [] []] .no h=some (.ret (.bool b),.no,h))/\(b=false->∀x∈t.L,x.v.length<=20))
  (h6:∀t∈l,∃b,(∀h,call (.fn 6 [] []) [.ls (t.K.map enc)] .no h=some (.ret (.bool b),.no,h))/\(b=true->aW t.K<=200/\∀s∈t.K,lE s)) :
  R call n [.code b6] (FX r6 (isF l)) .normal ⟨bn [.ls (l.map enc)],⟨[],.no,none,6⟩⟩ bg:=by
 obtain⟨r,h24,hr⟩:=h24;unfold b6 bg;simp only[go_sem,simprocAttr,s6_6,h24];refine bj (fun hgt=>?_) (fun hle=>?_)
 ·simp only[go_sem,simprocAttr,bA,r6,Fi]
 simp only[go_sem,simprocAttr,s6_5];refine bD (I6 l) l.length hn ⟨_,0,_,_,_,wac _,rfl,rfl,by simp only[go_sem,simprocAttr],by simp only[go_sem,simprocAttr],by simp only[go_sem,simprocAttr],fun a t ha=>absurd ha (Nat.not_lt_zero _)⟩ ?_;rintro j fr h ⟨tm,m,nx,lo,ob,hm,rfl,rfl,g8,g9,g10,hA⟩;unfold b6_3;simp only[go_sem,simprocAttr,s6_2,g10,g9];refine bj (fun hlt=>?_) (fun hge=>?_)
 ·have hlt:m<l.length:=by omega
  have hget:l[m]?=some l[m]:=wO hlt;have ha:=fun h=>aN aZ hget .i64 h
  have hep:=aA l[m];have hw2:=aM m (by omega);obtain⟨b25,h25,hb25⟩:=h25 l[m] (List.getElem_mem hlt);obtain⟨b6,h6,hb6⟩:=h6 l[m] (List.getElem_mem hlt);have next:∀(tm:Tm) (nx lo:Nat) (ob:Tr eI),b6=true->lE l[m]->nth tm 8=.ls (l.map enc)->nth tm 9=wt (l.length:Int)->nth tm 10=wt ((m+1:Nat):Int)->
    ∃j',j'<j/\I6 l j' ⟨tm,⟨[],.no,none,6⟩⟩ ⟨nx,lo,ob⟩:=by
   intro tm nx lo ob hb hsh q1 q2 q3;refine⟨j-1,by omega,tm,m+1,nx,lo,ob,by omega,rfl,rfl,q1,q2,q3,fun a t hlt' hat=>?_⟩;rcases Nat.lt_or_ge a m with h|h
   ·exact hA a t h hat
   ·have:a=m:=by omega
    subst this;rw[hget]at hat;cases hat;exact⟨(hb6 hb).1,hsh⟩
  simp only[go_sem,simprocAttr,s6_1,g8,g10,ha,s6_0,hep];refine bV (fun a1=>?_) (fun a1=>?_)
  ·simp only[go_sem,simprocAttr,a1];cases a2:decide ((20:Int)<(l[m].L.length:Int)) with
   |true=>simp only[go_sem,simprocAttr,bA,r6,Fi]
   |false=>
    simp only[go_sem,simprocAttr,h25];cases b25 with
    |true=>simp only[go_sem,simprocAttr,bA,r6,Fi]
    |false=>
     simp only[go_sem,simprocAttr,h6];cases b6 with
     |false=>simp only[go_sem,simprocAttr,bA,r6,Fi]
     |true=>
      simp only[go_sem,simprocAttr,g10,hw2];exact next _ _ _ _ rfl (.of (by simp at a2;omega) (hb25 rfl) (hb6 rfl).2) (by simp only[go_sem,simprocAttr, *]) (by simp only[go_sem,simprocAttr, *]) (by simp only[go_sem,simprocAttr, *])
  ·simp only[go_sem,simprocAttr,a1,bA,r6,Fi]
 ·have:m=l.length:=by omega
  subst this;simp only[go_sem,simprocAttr,s6_4,bA,r6,abt];intro _;have hb:=AT l fun a t hat=>(hA a t (wah.1 hat).1 hat).1
  have:=hr (by omega);refine⟨by omega,fun t ht=>?_⟩;obtain⟨a,hla,rfl⟩:=wag.1 ht;exact(hA a _ hla (wO hla)).2
theorem BM (x:LV):mR (encV x) .neq (.struct [(0,1),(1,1)]) (encV x)=some (.bool false):=by
 have e:∀i:Int,cE 1 (wt i) (wt i)=some true:=by
  intro i;show cond (LZ .i64 .i64) (some (BU i i)) none=_;rw[kP,sP];simp
 show aq (aq (cE 1 (wt x.i) (wt x.i)) fun s=>cond s (aq (cE 1 (wt x.p) (wt x.p)) fun s=>cond s (some true) (some false)) (some false)) (fun b=>some (AV.bool (!b)))=_;rw[e,e];rfl
theorem MT (s:ByteArray):(s==s)=true:=by rw[<-kY,oR];simp
def I58 (x:LL)(j:Nat)(fr:AF)(h:AH):Prop:=∃tm m,m+j=x.v.length/\fr=⟨tm,⟨[],.no,none,58⟩⟩/\h.get 0=some (.box [wt x.c,.ls (x.v.map encV)])/\h.get 1=some (.box [wt x.c,.ls (x.v.map encV)])/\
 nth tm 2=.ptr 0 0 0/\nth tm 3=.ptr 1 0 0/\nth tm 5=wt (m:Int)
theorem run58 (call:aG)(n:Nat)(x:LL)(hn:x.v.length<n)(hl:x.v.length<9223372036854775807):
  R call n [.code b58] (FQ r58 (.ret (.bool true))) .normal ⟨bn [aK x,aK x],⟨[],.no,none,58⟩⟩ bg:=by
 unfold b58 bg aK;simp only[go_sem,simprocAttr,aay,aaz];refine bD (I58 x) x.v.length hn ⟨_,0,wac _,rfl,by and_intros<;>simp only[go_sem,simprocAttr]⟩ ?_;rintro j fr h ⟨tm,m,hm,rfl,hg0,hg1,g2,g3,g5⟩;unfold abU;simp only[go_sem,simprocAttr,hg0,g2,g5];refine bj (fun hlt=>?_) (fun hge=>?_)
 ·have hlt:m<x.v.length:=by omega
  have hget:x.v[m]?=some x.v[m]:=wO hlt;have ha:=fun h=>aN ct hget .i64 h
  have hw2:=aM m (by omega);simp only[go_sem,simprocAttr,aaB,hg0,hg1,g2,g3,g5,ha,BM,hw2];exact⟨j-1,by omega,_,m+1,by omega,rfl,hg0,hg1,by and_intros<;>simp only[go_sem,simprocAttr, *]⟩
 ·simp only[go_sem,simprocAttr,aaA,r58]
def I47 (l:List LL)(j:Nat)(fr:AF)(_h:AH):Prop:=∃tm m,m+j=l.length/\fr=⟨tm,⟨[],.no,none,47⟩⟩/\nth tm 0=.ls (l.map aK)/\nth tm 1=.ls (l.map aK)/\nth tm 5=wt (m:Int)
theorem run47 (call:aG)(n:Nat)(l:List LL)(hn:l.length<n)(hl:l.length<9223372036854775807)(hc:∀x∈l,∀h,call (.fn 58 [] []) [aK x,aK x] .no h=some (.ret (.bool true),.no,h)):
  R call n [.code b47] (FQ r47 (.ret (.bool true))) .normal ⟨bn [.ls (l.map aK),.ls (l.map aK)],⟨[],.no,none,47⟩⟩ bg:=by
 unfold b47 bg;simp only[go_sem,simprocAttr,Ml,Vf];refine bD (I47 l) l.length hn ⟨_,0,wac _,rfl,by and_intros<;>simp only[go_sem,simprocAttr]⟩ ?_;rintro j fr h ⟨tm,m,hm,rfl,g0,g1,g5⟩;unfold VU;simp only[go_sem,simprocAttr,g0,g5];refine bj (fun hlt=>?_) (fun hge=>?_)
 ·have hlt:m<l.length:=by omega
  have hget:l[m]?=some l[m]:=wO hlt;have ha:=fun h=>aN dj hget .i64 h
  have hcall:=hc l[m] (List.getElem_mem hlt);have hw2:=aM m (by omega);simp only[go_sem,simprocAttr,aaN,g0,g1,g5,ha,hcall,hw2];exact⟨j-1,by omega,_,m+1,by omega,rfl,by and_intros<;>simp only[go_sem,simprocAttr, *]⟩
 ·simp only[go_sem,simprocAttr,Vg,r47]
def I11 (b:List AV)(ks:List T)(j:Nat)(fr:AF)(h:AH):Prop:=∃tm m,m+j=ks.length/\fr=⟨tm,⟨[],.no,none,11⟩⟩/\h.get 0=some (.box b)/\h.get 1=some (.box b)/\nth tm 2=.ptr 0 0 0/\nth tm 3=.ptr 1 0 0/\nth tm 5=wt (m:Int)
theorem run11 (call:aG)(n:Nat)(k i:Int)(nm:ByteArray)(ls:List LL)(ks:List T)(hn:ks.length<n)(hl:ks.length<9223372036854775807)
  (h47:∀h,call (.fn 47 [] []) [.ls (ls.map aK),.ls (ls.map aK)] .no h=some (.ret (.bool true),.no,h))
  (hc:∀t∈ks,∀h,call (.fn 11 [] []) [enc t,enc t] .no h=some (.ret (.bool true),.no,h)) :
  R call n [.code b11] (FQ r11 (.ret (.bool true))) .normal ⟨bn [enc (.mk k i nm ls ks),enc (.mk k i nm ls ks)],⟨[],.no,none,11⟩⟩ bg:=by
 rw[ei];have hs:=MT nm;unfold b11 bg;simp only[go_sem,simprocAttr,vT,Mr,hs,h47];refine bD (I11 [wt k,wt i,.str nm,.ls (ls.map aK),.ls (ks.map enc)] ks) ks.length hn ⟨_,0,wac _,rfl,by and_intros<;>simp only[go_sem,simprocAttr]⟩ ?_;rintro j fr h ⟨tm,m,hm,rfl,hg0,hg1,g2,g3,g5⟩;unfold VX;simp only[go_sem,simprocAttr,hg0,g2,g5];refine bj (fun hlt=>?_) (fun hge=>?_)
 ·have hlt:m<ks.length:=by omega
  have hget:ks[m]?=some ks[m]:=wO hlt;have ha:=fun h=>aN aZ hget .i64 h
  have hcall:=hc ks[m] (List.getElem_mem hlt);have hw2:=aM m (by omega);simp only[go_sem,simprocAttr,abj,hg0,hg1,g2,g3,g5,ha,hcall,hw2];exact⟨j-1,by omega,_,m+1,by omega,rfl,hg0,hg1,by and_intros<;>simp only[go_sem,simprocAttr, *]⟩
 ·simp only[go_sem,simprocAttr,VA,r11]
theorem uD (x:Int):(dF x).cells.length=1:=rfl
