/- SolverFinishes: contracts with chosen answers (no condition). -/
import Derived.Test.YtnacljdablhbgaaGreatCa
noncomputable section
namespace Go.Proofs.YtnacljdablhbgaaGreat
open Go.AG
theorem gI (f:FuncId)(h:aeN f=false:=by rfl):EI.pure f=true:=by show(!(aeN f))=true;rw[h];rfl
theorem cG (t:T):1<=size t:=by cases t;simp only[size];omega
theorem bE (ks:List T):ks.length<=aW ks:=by
 induction ks with
 |nil=>simp
 |cons t l ih=>have:=cG t;simp only[List.length_cons,aW];omega
theorem ck {ks:List T}{a:Nat}{t:T}(h:ks[a]?=some t):size t<=aW ks:=by
 have h1:=kq ks a t h;have h2:=fQ ks (a+1);omega
open Classical in
def mkS {α:Type}(fid:FuncId)(args:α->List AV)(hinj:∀x y,args x=args y->x=y)(P:α->bI->Prop):AG.cF where
 α:=α
 fid:=fid
 caps:=fun _=>[]
 args:=args
 out:=fun x=>if h:∃o,P x o/\Ans CI (.fn fid [] []) (args x) o then h.choose else .ret .nilp
 dom:=fun x=>∃o,P x o/\Ans CI (.fn fid [] []) (args x) o
 func:=fun x y _ _ _ h=>by rw[hinj x y h]
theorem IB {α:Type}{fid:FuncId}{args:α->List AV}{hinj:∀x y,args x=args y->x=y}{P:α->bI->Prop}(x:α)(hx:∃o,P x o/\Ans CI (.fn fid [] []) (args x) o):
  P x ((mkS fid args hinj P).out x)/\Ans CI (.fn fid [] []) (args x) ((mkS fid args hinj P).out x):=by
 have e:(mkS fid args hinj P).out x=hx.choose:=dif_pos hx;rw[e];exact hx.choose_spec
theorem lN {α:Type}{fid:FuncId}{args:α->List AV}{hinj:∀x y,args x=args y->x=y}{P:α->bI->Prop}: (mkS fid args hinj P).Meets CI:=
 fun x hx=>(IB x hx).2
theorem bB {α:Type}{fid:FuncId}{args:α->List AV}{hinj:∀x y,args x=args y->x=y}{P:α->bI->Prop}{call:aG}(hu:(mkS fid args hinj P).Used call)(x:α)(hx:∃o,P x o/\Ans CI (.fn fid [] []) (args x) o):
  ∃o,P x o/\∀a h,AV.ip a=args x->call (.fn fid [] []) a .no h=some (o,.no,h):=
 ⟨_,(IB (hinj:=hinj) x hx).1,fun a h ha=>hu x [] a h hx (by simp[AV.ip];rfl) ha⟩
theorem eO {f:FuncId}{az:List AV}{P:bI->Prop}{call:aG}{n nt:Nat}{rs:List bF}{body:aw}(hc:bM CI call)(hcf:EI.cf f=some ⟨nt,rs,body⟩)(hp:EI.pure f=true)(hfr:AV.jp az=true)(hfo:∀o,P o->o.free=true)
  (hR:R call n [.code body] (FX rs P) .normal ⟨bn az,⟨[],.no,none,f⟩⟩ bg):∃o,P o/\Ans CI (.fn f [] []) az o:=by
 obtain⟨e,fr,h,q,o,hP,hQ⟩:=hR;obtain⟨h',o',q1,q2⟩:=TH (o:=o) hcf hp ⟨e,fr,h,q,hQ⟩;refine⟨o,hP,by simp[AV.free,AV.jp],hfr,hfo o hP,_,h',o',rF hEI hc n,?_,q2⟩;show dZ EI call n f (app [] (app az [])) .no bg=_;rw[fk,fk];simpa using q1
theorem Hu {call:aG}{n:Nat}{Q Q':AEx->AF->AH->Prop}{c:aw}{fr:AF}{h:AH}(hq:∀e fr h,Q e fr h->Q' e fr h)(hR:R call n [.code c] Q .normal fr h):R call n [.code c] Q' .normal fr h:=by
 obtain⟨e,fr,h,q,r⟩:=hR;exact⟨e,fr,h,q,hq _ _ _ r⟩
theorem mS {call:aG}{n:Nat}{rs:List bF}{o:bI}{c:aw}{fr:AF}{h:AH}(hR:R call n [.code c] (FQ rs o) .normal fr h):R call n [.code c] (FX rs (fun o'=>o'=o)) .normal fr h:=
 Hu (fun _ _ _ q=>⟨o,rfl,q⟩) hR
def aT (t:T):List AV:=[enc t]
theorem tO (x y:T)(h:aT x=aT y):x=y:=by simp[aT]at h;exact fp h
def aII (x:Int×Int):List AV:=[wt x.1,wt x.2]
theorem Jr (x y:Int×Int)(h:aII x=aII y):x=y:=by obtain⟨a,b⟩:=x;obtain⟨c,d⟩:=y;simp[aII]at h;simp[h]
def aI (x:Int):List AV:=[wt x]
theorem aea (x y:Int)(h:aI x=aI y):x=y:=by simpa [aI] using h
def aU (x:Int):List AV:=[.int .u8 x]
theorem ad8 (x y:Int)(h:aU x=aU y):x=y:=by simpa [aU] using h
def aS (x:ByteArray):List AV:=[.str x]
theorem ad9 (x y:ByteArray)(h:aS x=aS y):x=y:=by simpa [aS] using h
def aL (x:LL):List AV:=[aK x]
theorem wU (x y:LL)(h:aL x=aL y):x=y:=by simp[aL]at h;exact hO h
def FD (x:LL×Int×Int):List AV:=[aK x.1,wt x.2.1,wt x.2.2]
theorem De (x y:LL×Int×Int)(h:FD x=FD y):x=y:=by
 obtain⟨a,b,c⟩:=x;obtain⟨a',b',c'⟩:=y;simp[FD]at h;rw[hO h.1,h.2.1,h.2.2]
def FE (x:T×Int×Int×Int×Int×Int):List AV:=[enc x.1,wt x.2.1,wt x.2.2.1,wt x.2.2.2.1,wt x.2.2.2.2.1,wt x.2.2.2.2.2]
theorem Df (x y:T×Int×Int×Int×Int×Int)(h:FE x=FE y):x=y:=by
 obtain⟨a,b,c,d,e,f⟩:=x;obtain⟨a',b',c',d',e',f'⟩:=y;simp[FE]at h;obtain⟨h1,h2,h3,h4,h5,h6⟩:=h;rw[fp h1,h2,h3,h4,h5,h6]
def oI (x:T×Int×Int×Int×Int):List AV:=[enc x.1,wt x.2.1,wt x.2.2.1,wt x.2.2.2.1,wt x.2.2.2.2]
theorem yn (x y:T×Int×Int×Int×Int)(h:oI x=oI y):x=y:=by
 obtain⟨a,b,c,d,e⟩:=x;obtain⟨a',b',c',d',e'⟩:=y;simp[oI]at h;obtain⟨h1,h2,h3,h4,h5⟩:=h;rw[fp h1,h2,h3,h4,h5]
def aIT (x:Int×List T):List AV:=[wt x.1,.ls (x.2.map enc)]
theorem Jq (x y:Int×List T)(h:aIT x=aIT y):x=y:=by
 obtain⟨a,b⟩:=x;obtain⟨c,d⟩:=y;simp only[aIT,List.cons.injEq,AV.int.injEq,AV.ls.injEq,true_and,and_true]at h;rw[h.1,eB (fun _ _=>fp) h.2]
def aTs (x:List T):List AV:=[.ls (x.map enc)]
theorem YF (x y:List T)(h:aTs x=aTs y):x=y:=by
 simp only[aTs,List.cons.injEq,AV.ls.injEq,and_true]at h;exact eB (fun _ _=>fp) h
def aLf (x:List LL):List AV:=[.ls (x.map aK),.fn 26 [] []]
theorem Jo (x y:List LL)(h:aLf x=aLf y):x=y:=by
 simp only[aLf,List.cons.injEq,AV.ls.injEq,and_true]at h;exact eB (fun _ _=>hO) h
def aLL (x:LL):List AV:=[aK x,aK x]
theorem Jp (x y:LL)(h:aLL x=aLL y):x=y:=by simp[aLL]at h;exact hO h
def yA (x:List LL):List AV:=[.ls (x.map aK),.ls (x.map aK)]
theorem LK (x y:List LL)(h:yA x=yA y):x=y:=by
 simp only[yA,List.cons.injEq,AV.ls.injEq,and_true]at h;exact eB (fun _ _=>hO) h.1
def aTT (x:T):List AV:=[enc x,enc x]
theorem YG (x y:T)(h:aTT x=aTT y):x=y:=by simp[aTT]at h;exact fp h
def a0 (_:Unit):List AV:=[]
theorem Um (x y:Unit)(_:a0 x=a0 y):x=y:=rfl
theorem ky {C:Cx}(l:List AG.cF)(hl:∀s∈l,s.Meets C)(hd:(l.map AG.cF.fid).Nodup):bM C (dI (fx l))/\∀s∈l,s.Used (dI (fx l)):=by
 constructor
 ·apply acR;induction l with
  |nil=>intro f a o e;cases e
  |cons s l ih=>
   intro f a o e;unfold fx at e;cases hs:s.tbl f a with
   |some o'=>rw[hs]at e;cases e;exact cF.tbl_ans (hl s (by simp)) hs
   |none=>rw[hs]at e;exact ih (fun s hs=>hl s (by simp[hs])) (by simp at hd;exact hd.2) f a o e
 ·have key:∀s∈l,∀x,s.dom x->fx l (.fn s.fid [] (s.caps x)) (s.args x)=some (s.out x):=by
   clear hl;induction l with
   |nil=>intro s hs;simp at hs
   |cons t l ih=>
    intro s hs x hx;unfold fx;rcases List.mem_cons.1 hs with rfl|hs
    ·rw[cF.tbl_at hx]
    ·have hne:s.fid≠t.fid:=by
      intro e;simp only[List.map_cons,List.nodup_cons,List.mem_map,not_exists,not_and]at hd;exact hd.1 s hs e
     rw[cF.tbl_other hne];exact ih (by simp only[List.map_cons,List.nodup_cons]at hd;exact hd.2) s hs x hx
  intro s hs x fc a h hx hc ha;have e:fx l (AV.fn s.fid [] fc).norm (AV.ip a)=some (s.out x):=by
   simp only[AV.norm,AV.ip,hc,ha];exact key s hs x hx
  simp only[dI,e]
theorem sU {l:List AG.cF}{f:FuncId}{c a:List AV}(h:∀s∈l,f≠s.fid):fx l (.fn f [] c) a=none:=by
 induction l with
 |nil=>rfl
 |cons s l ih=>unfold fx;rw[cF.tbl_other (h s (by simp))];exact ih fun s hs=>h s (by simp[hs])
theorem uc {l:List AG.cF}{k:Nat}{a:List AV}: fx l (.yld k) a=none:=by
 induction l with
 |nil=>rfl
 |cons s l ih=>
  unfold fx;have:s.tbl (.yld k) a=none:=by
   unfold AG.cF.tbl;rw[dif_neg];rintro⟨y,_,e,_⟩;cases e
  rw[this];exact ih
def aby (t:T):Bool:=rX t.kind t.i t.name t.L t.K
def S72:AG.cF:=mkS 72 aII Jr fun x o=>o=.ret (wt (aV x.1 x.2))
def S117:AG.cF:=mkS 117 aU ad8 fun x o=>o=.ret (.bool (qJ x))
def S116:AG.cF:=mkS 116 aI aea fun x o=>o=.ret (wt (nr x))
def S28:AG.cF:=mkS 28 aT tO fun x o=>o=.ret (wt (size x))
def S29:AG.cF:=mkS 29 aT tO fun _ o=>isI o
def S69:AG.cF:=mkS 69 aT tO fun x o=>o=.ret (.bool (aby x))
def S21:AG.cF:=mkS 21 aL wU fun _ o=>isB o
def S70:AG.cF:=mkS 70 aS ad9 fun _ o=>isB o
def S71:AG.cF:=mkS 71 FD De fun _ o=>isI o
def S27:AG.cF:=mkS 27 FE Df fun x o=>isW x.2.2.1 x.1 x.2.1 o
def S7:AG.cF:=mkS 7 oI yn fun x o=>isW (max x.2.1 0) x.1 0 o
def S24:AG.cF:=mkS 24 aIT Jq fun x o=>isN x.1 x.2 o
def S26:AG.cF:=mkS 26 aL wU fun x o=>o=.ret (.bool (decide ((20:Int)<(x.v.length:Int))))
def S68:AG.cF:=mkS 68 aLf Jo fun x o=>isX x o
def S25:AG.cF:=mkS 25 aLf Jo fun x o=>isY x o
def S6:AG.cF:=mkS 6 aTs YF fun x o=>isF x o
def oh:List AG.cF:=[S72,S117,S116,S28,S29,S69,S21,S70,S71,S27,S7,S24,S26,S68,S25,S6]
theorem LI:oh.map AG.cF.fid=[72,117,116,28,29,69,21,70,71,27,7,24,26,68,25,6]:=rfl
def G:aG:=dI (fx oh)
theorem EE:∀s∈oh,s.Meets CI:=by
 intro s hs;simp only[oh,List.mem_cons,List.mem_nil_iff,or_false]at hs;rcases hs with h|h|h|h|h|h|h|h|h|h|h|h|h|h|h|h<;>(subst h;exact lN)
theorem dD:bM CI G/\∀s∈oh,s.Used G:=ky oh EE (by rw[LI];decide)
inductive Fit:T->Prop
 |mk {k i:Int} {nm:ByteArray} {ls:List LL} {ks:List T} (h1 : -9223372036854775808<=i) (h2:i<9223372036854775808) (h3:nm.size<1125899906842624) (h4:ls.length<1125899906842624) (h5:∀x∈ls,x.v.length<1125899906842624)
   (h6:ks.length<1125899906842624) (h7:∀t∈ks,Fit t):Fit (.mk k i nm ls ks)
theorem abw {o:bI}(h:isI o):o.free=true:=by obtain⟨e,rfl⟩:=h;simp[bI.free,AV.free]
theorem Bs {o:bI}(h:isB o):o.free=true:=by obtain⟨e,rfl⟩:=h;simp[bI.free,AV.free]
theorem A72 (x:Int×Int):∃o,o=.ret (wt (aV x.1 x.2))/\Ans CI (.fn 72 [] []) (aII x) o:=
 eO (n:=0) dD.1 cf72 (gI 72) (by simp[aII,AV.jp,AV.free]) (by rintro o rfl;simp[bI.free,AV.free]) (mS (run72 G 0 x.1 x.2))
theorem g72 (k j:Int)(h:AH):G (.fn 72 [] []) [wt k,wt j] .no h=some (.ret (wt (aV k j)),.no,h):=by
 obtain⟨o,rfl,hu⟩:=bB (dD.2 S72 (by simp[oh])) (k,j) (A72 (k,j));exact hu _ h (by simp[aII,AV.ip,AV.norm])
theorem A117 (x:Int):∃o,o=.ret (.bool (qJ x))/\Ans CI (.fn 117 [] []) (aU x) o:=
 eO (n:=0) dD.1 cf117 (gI 117) (by simp[aU,AV.jp,AV.free]) (by rintro o rfl;simp[bI.free,AV.free]) (mS (adj G 0 x))
theorem g117 (c:Int)(h:AH):G (.fn 117 [] []) [.int .u8 c] .no h=some (.ret (.bool (qJ c)),.no,h):=by
 obtain⟨o,rfl,hu⟩:=bB (dD.2 S117 (by simp[oh])) c (A117 c);exact hu _ h (by simp[aU,AV.ip,AV.norm])
theorem A116 (x:Int):∃o,o=.ret (wt (nr x))/\Ans CI (.fn 116 [] []) (aI x) o:=
 eO (n:=0) dD.1 cf116 (gI 116) (by simp[aI,AV.jp,AV.free]) (by rintro o rfl;simp[bI.free,AV.free]) (mS (adk G 0 x))
theorem g116 (c:Int)(h:AH):G (.fn 116 [] []) [wt c] .no h=some (.ret (wt (nr c)),.no,h):=by
 obtain⟨o,rfl,hu⟩:=bB (dD.2 S116 (by simp[oh])) c (A116 c);exact hu _ h (by simp[aI,AV.ip,AV.norm])
theorem A69 (k i:Int)(nm:ByteArray)(ls:List LL)(ks:List T):∃o,o=.ret (.bool (aby (.mk k i nm ls ks)))/\Ans CI (.fn 69 [] []) (aT (.mk k i nm ls ks)) o:=
 eO (n:=0) dD.1 cf69 (gI 69) (by simp[aT,AV.jp,cH]) (by rintro o rfl;simp[bI.free,AV.free]) (mS (run69 G 0 k i nm ls ks (g116 k)))
theorem g69 (k i:Int)(nm:ByteArray)(ls:List LL)(ks:List T)(h:AH):G (.fn 69 [] []) [.agg [wt k,wt i,.str nm,.ls (ls.map aK),.ls (ks.map enc)]] .no h=some (.ret (.bool (rX k i nm ls ks)),.no,h):=by
 obtain⟨o,rfl,hu⟩:=bB (dD.2 S69 (by simp[oh])) (.mk k i nm ls ks) (A69 k i nm ls ks);exact hu _ h (by rw[<-ei];simp[aT,AV.ip,bL])
theorem A21 (x:LL)(hl:x.v.length<1125899906842624):∃o,isB o/\Ans CI (.fn 21 [] []) (aL x) o:=
 eO (n:=x.v.length+1) dD.1 cf21 (gI 21) (by simp[aL,AV.jp,de]) (fun _=>Bs) (run21 G _ x.c x.v (by omega) (by omega))
theorem A70 (s:ByteArray)(hl:s.size<1125899906842624):∃o,isB o/\Ans CI (.fn 70 [] []) (aS s) o:=
 eO (n:=s.size+1) dD.1 cf70 (gI 70) (by simp[aS,AV.jp,AV.free]) (fun _=>Bs) (run70 G _ s (by omega) (by omega) g117)
theorem A28:∀n t,size t<=n->n<=10000->∃o,o=.ret (wt (size t))/\Ans CI (.fn 28 [] []) (aT t) o:=by
 intro n;induction n with
 |zero=>intro t h;have:=cG t;omega
 |succ n ih=>
  rintro⟨k,i,nm,ls,ks⟩ h hn;simp only[size]at h;have hl:=bE ks;refine eO (n:=20000) dD.1 cf28 (gI 28) (by simp[aT,AV.jp,cH]) (by rintro o rfl;simp[bI.free,AV.free]) (mS (abk G 20000 k i nm ls ks (by omega) (by omega) (by omega) (fun t ht h'=>?_)));obtain⟨a,ha,rfl⟩:=wag.1 ht;have hs:=ck (wO ha);obtain⟨o,rfl,hu⟩:=bB (dD.2 S28 (by simp[oh])) ks[a] (ih _ (by omega) (by omega));exact hu _ h' (by simp[aT,AV.ip,bL])
theorem A29:∀n t,size t<=n->n<=10000->∃o,isI o/\Ans CI (.fn 29 [] []) (aT t) o:=by
 intro n;induction n with
 |zero=>intro t h;have:=cG t;omega
 |succ n ih=>
  rintro⟨k,i,nm,ls,ks⟩ h hn;simp only[size]at h;have hl:=bE ks;refine eO (n:=20000) dD.1 cf29 (gI 29) (by simp[aT,AV.jp,cH]) (fun _=>abw) (run29 G 20000 k i nm ls ks (by omega) (by omega) (fun t ht=>?_));obtain⟨a,ha,rfl⟩:=wag.1 ht;have hs:=ck (wO ha);obtain⟨o,⟨e,rfl⟩,hu⟩:=bB (dD.2 S29 (by simp[oh])) ks[a] (ih _ (by omega) (by omega));exact⟨e,fun h'=>hu _ h' (by simp[aT,AV.ip,bL])⟩
theorem ig (l:List LL):AV.jp (l.map aK)=true:=cL de l
theorem Dk {t:T}(h:Fit t):t.K.length<1125899906842624/\∀s∈t.K,Fit s:=by
 obtain⟨h1,h2,h3,h4,h5,h6,h7⟩:=h;exact⟨h6,h7⟩
theorem EM {t:T}(h:Fit t):t.L.length<1125899906842624/\∀x∈t.L,x.v.length<1125899906842624:=by
 obtain⟨h1,h2,h3,h4,h5,h6,h7⟩:=h;exact⟨h4,h5⟩
theorem abu {m:Int}{l:List T}{o:bI}(h:isN m l o):o.free=true:=by obtain⟨e,rfl,_⟩:=h;simp[bI.free,AV.free]
theorem freeX {l:List LL}{o:bI}(h:isX l o):o.free=true:=by obtain⟨e,rfl,_⟩:=h;simp[bI.free,AV.free]
theorem freeY {l:List LL}{o:bI}(h:isY l o):o.free=true:=by obtain⟨e,rfl,_⟩:=h;simp[bI.free,AV.free]
theorem abx {l:List T}{o:bI}(h:isF l o):o.free=true:=by obtain⟨e,rfl,_⟩:=h;simp[bI.free,AV.free]
theorem A24:∀(n:Nat) (l:List T) (most:Int),aW l<=n->most<9223372036854775808->l.length<1125899906842624->(∀t∈l,Fit t)->∃o,isN most l o/\Ans CI (.fn 24 [] []) (aIT (most,l)) o:=by
 intro n;induction n with
 |zero=>
  intro l most h hm hl hf;have hl:=bE l;refine eO (n:=l.length+1) dD.1 cf24 (gI 24) (by simp[aIT,AV.jp,AV.free,eE]) (fun _=>abu) (abl G _ most l hm (by omega) (by omega) (fun t ht=>?_));have:l=[]:=List.length_eq_zero_iff.1 (by omega);subst this;simp at ht
 |succ n ih=>
  intro l most h hm hl hf;refine eO (n:=l.length+1) dD.1 cf24 (gI 24) (by simp[aIT,AV.jp,AV.free,eE]) (fun _=>abu) (abl G _ most l hm (by omega) (by omega) (fun t ht m' hm'=>?_));obtain⟨a,ha,rfl⟩:=wag.1 ht;have hs:=ck (wO ha);rw[ot]at hs;obtain⟨k1,k2⟩:=Dk (hf _ ht);obtain⟨o,⟨e,rfl,he⟩,hu⟩:=bB (dD.2 S24 (by simp[oh])) (m',l[a].K) (ih l[a].K m' (by omega) hm' k1 k2);exact⟨e,fun h'=>hu _ h' (by simp[aIT,AV.ip,AV.norm,cu]),he⟩
theorem A26 (x:LL):∃o,o=.ret (.bool (decide ((20:Int)<(x.v.length:Int))))/\Ans CI (.fn 26 [] []) (aL x) o:=
 eO (n:=0) dD.1 cf26 (gI 26) (by simp[aL,AV.jp,de]) (by rintro o rfl;simp[bI.free,AV.free]) (mS (run26 G 0 x))
theorem g26 (x:LL)(h:AH):G (.fn 26 [] []) [aK x] .no h=some (.ret (.bool (decide ((20:Int)<(x.v.length:Int)))),.no,h):=by
 obtain⟨o,rfl,hu⟩:=bB (dD.2 S26 (by simp[oh])) x (A26 x);exact hu _ h (by simp[aL,AV.ip,fY])
theorem A68 (l:List LL)(hl:l.length<1125899906842624):∃o,isX l o/\Ans CI (.fn 68 [] []) (aLf l) o:=
 eO (n:=l.length+1) dD.1 aeR (gI 68) (by simp[aLf,AV.jp,AV.free,ig]) (fun _=>freeX) (run68 G _ l (by omega) (by omega) (fun x _=>g26 x))
theorem A25 (l:List LL)(hl:l.length<1125899906842624):∃o,isY l o/\Ans CI (.fn 25 [] []) (aLf l) o:=by
 obtain⟨o,⟨e,rfl,he⟩,hu⟩:=bB (dD.2 S68 (by simp[oh])) l (A68 l hl);exact eO (n:=l.length+1) dD.1 aeS (gI 25) (by simp[aLf,AV.jp,AV.free,ig]) (fun _=>freeY) (run25 G _ l e he (fun h=>hu _ h (by simp[aLf,AV.ip,AV.norm,fB])))
theorem A6:∀(n:Nat) (l:List T),aW l<=n->l.length<1125899906842624->(∀t∈l,Fit t)->∃o,isF l o/\Ans CI (.fn 6 [] []) (aTs l) o:=by
 intro n;induction n with
 |zero=>
  intro l h hl hf;have hl':=bE l;have hnil:l=[]:=List.length_eq_zero_iff.1 (by omega);obtain⟨o,⟨e,rfl,he⟩,hu⟩:=bB (dD.2 S24 (by simp[oh])) (200,l) (A24 _ l 200 (Fv _) (by omega) hl hf);refine eO (n:=l.length+1) dD.1 cf6 (gI 6) (by simp[aTs,AV.jp,AV.free,eE]) (fun _=>abx) (run6 G _ l (by omega) hl ⟨e,fun h'=>hu _ h' (by simp[aIT,AV.ip,AV.norm,cu]),he⟩ (fun t ht=>?_) (fun t ht=>?_))
  all_goals subst hnil;simp at ht
 |succ n ih=>
  intro l h hl hf;obtain⟨o,⟨e,rfl,he⟩,hu⟩:=bB (dD.2 S24 (by simp[oh])) (200,l) (A24 _ l 200 (Fv _) (by omega) hl hf);refine eO (n:=l.length+1) dD.1 cf6 (gI 6) (by simp[aTs,AV.jp,AV.free,eE]) (fun _=>abx) (run6 G _ l (by omega) hl ⟨e,fun h'=>hu _ h' (by simp[aIT,AV.ip,AV.norm,cu]),he⟩ (fun t ht=>?_) (fun t ht=>?_))
  ·obtain⟨o,⟨e,rfl,he⟩,hu⟩:=bB (dD.2 S25 (by simp[oh])) t.L (A25 t.L (EM (hf t ht)).1);exact⟨e,fun h'=>hu _ h' (by simp[aLf,AV.ip,AV.norm,fB]),he⟩
  ·obtain⟨a,ha,rfl⟩:=wag.1 ht;have hs:=ck (wO ha);rw[ot]at hs;obtain⟨k1,k2⟩:=Dk (hf _ ht);obtain⟨o,⟨e,rfl,he⟩,hu⟩:=bB (dD.2 S6 (by simp[oh])) l[a].K (ih l[a].K (by omega) k1 k2);exact⟨e,fun h'=>hu _ h' (by simp[aTs,AV.ip,AV.norm,cu]),he⟩
def FG (zs:List Int):List Int:=zs.mergeSort fun x y=>decide (x<=y)
theorem Wp (zs:List Int):(∀y,y∈FG zs↔y∈zs)/\(FG zs).length=zs.length:=by
 have p:=List.mergeSort_perm zs fun x y=>decide (x<=y)
 exact⟨fun y=>p.mem_iff,p.length_eq⟩
