/- SolverFinishes: the table of functions; valid levels (no condition). -/
import Derived.Test.YtnacljdablhbgaaGreatCc
namespace Go.Proofs.YtnacljdablhbgaaGreat
open Go.AG
theorem hEF:oK CI EF:=Ay Tryz.prog tx _ acz GU
theorem fg (f:FuncId)(h:aeO f=false:=by rfl):EF.pure f=true:=by show(!(aeO f))=true;rw[h];rfl
def Rng (x:LV):Prop:=-65536<=x.i/\x.i<=7/\0<=x.p/\x.p<=100
structure VL (l:LL):Prop where
 c0:0<=l.c
 c1:l.c<=100
 rng:∀(i:Nat) x,l.v[i]?=some x->Rng x
 ord:∀(i:Nat) x y,l.v[i]?=some x->l.v[i+1]?=some y->x.i<y.i
 cov:0<l.c->∀(i:Nat) x,l.v[i]?=some x->x.p<l.c
open Classical in
noncomputable def vl (l:LL):Bool:=decide (VL l)
open Classical in
theorem yZ {l:LL}(h:VL l):vl l=true:=by unfold vl;exact HE h
open Classical in
theorem LS {l:LL}(h:¬VL l):vl l=false:=by unfold vl;exact HD h
open Classical in
structure Pre (P:LV->Prop)(vs:List LV)(m:Nat):Prop where
 rng:∀(i:Nat) x,i<m->vs[i]?=some x->P x
 ord:∀(i:Nat) x y,i+1<m->vs[i]?=some x->vs[i+1]?=some y->x.i<y.i
theorem Pre.zero {P:LV->Prop}{vs:List LV}: Pre P vs 0:=⟨fun i x h=>absurd h (by omega),fun i x y h=>absurd h (by omega)⟩
theorem Pre.succ0 {P:LV->Prop}{vs:List LV}{x:LV}(hx:vs[0]?=some x)(hp:P x):Pre P vs 1:=
 ⟨fun i y h e=>by
           obtain rfl:i=0:=by omega
           rw[hx]at e;cases e;exact hp,fun i x y h=>absurd h (by omega)⟩
theorem Pre.succ {P:LV->Prop}{vs:List LV}{p:Nat}{x y:LV}(h:Pre P vs (p+1))(hx:vs[p]?=some x)(hy:vs[p+1]?=some y)(hp:P y)(ho:x.i<y.i):Pre P vs (p+1+1):=by
 refine⟨fun i z hi e=>?_,fun i a b hi ea eb=>?_⟩
 ·by_cases hi':i<p+1
  ·exact h.rng i z hi' e
  ·obtain rfl:i=p+1:=by omega
   rw[hy]at e;cases e;exact hp
 ·by_cases hi':i+1<p+1
  ·exact h.ord i a b hi' ea eb
  ·obtain rfl:i=p:=by omega
   rw[hx]at ea;rw[hy]at eb;cases ea;cases eb;exact ho
def vB (l:LL)(o:bI):Prop:=o=.ret (.bool (vl l))
theorem Dl (l:LL)(b:Bool):vB l (.ret (.bool b))=(b=vl l):=by simp[vB]
def P21 (c:Int)(x:LV):Prop:=Rng x/\(0<c->x.p<c)
def I21x (c:Int)(vs:List LV)(j:Nat)(fr:AF)(h:AH):Prop:=∃tm m nx lo ob,m+j=vs.length/\fr=⟨tm,⟨[],.no,none,21⟩⟩/\h=⟨nx,lo,ob⟩/\0<nx/\ob.get 0=some (.box [wt c,.ls (vs.map encV)])/\
  nth tm 1=.ptr 0 0 0/\nth tm 3=wt (m:Int)/\0<=c/\c<=100/\Pre (P21 c) vs m
theorem yo {c:Int}{vs:List LV}{j m:Nat}{tm:Tm}{nx lo:Nat}{ob:Tr eI}(hm:m+j=vs.length)(hlt:m<vs.length)(q1:0<nx)(q2:ob.get 0=some (.box [wt c,.ls (vs.map encV)]))(q3:nth tm 1=.ptr 0 0 0)(q4:nth tm 3=wt ((m+1:Nat):Int))
  (c0:0<=c) (c1:c<=100) (hp:Pre (P21 c) vs (m+1)) :
  ∃j',j'<j/\I21x c vs j' ⟨tm,⟨[],.no,none,21⟩⟩ ⟨nx,lo,ob⟩:=⟨j-1,by omega,tm,m+1,nx,lo,ob,by omega,rfl,rfl,q1,q2,q3,q4,c0,c1,hp⟩
theorem Tv {c:Int}{vs:List LV}{m:Nat}{x:LV}(hx:vs[m]?=some x)(h:¬(Rng x/\(0<c->x.p<c))):false=vl ⟨c,vs⟩:=
 (LS fun v=>h ⟨v.rng m x hx,fun hc=>v.cov hc m x hx⟩).symm
theorem Ix {c:Int}{vs:List LV}{m:Nat}{x y:LV}(hx:vs[m]?=some x)(hy:vs[m+1]?=some y)(h:¬x.i<y.i):false=vl ⟨c,vs⟩:=
 (LS fun v=>h (v.ord m x y hx hy)).symm
theorem uR {c:Int}{vs:List LV}(h:¬(0<=c/\c<=100)):false=vl ⟨c,vs⟩:=(LS fun v=>h ⟨v.c0,v.c1⟩).symm
theorem is_VL {c:Int}{vs:List LV}(c0:0<=c)(c1:c<=100)(hp:Pre (P21 c) vs vs.length):true=vl ⟨c,vs⟩:=by
 have lt:∀{i:Nat} {x},vs[i]?=some x->i<vs.length:=fun e=>(wah.1 e).1
 exact(yZ ⟨c0,c1,fun i x e=>(hp.rng i x (lt e) e).1,fun i x y e e'=>hp.ord i x y (lt e') e e',fun hc i x e=>(hp.rng i x (lt e) e).2 hc⟩).symm
theorem adf (call:aG)(n:Nat)(c:Int)(vs:List LV)(hn:vs.length<n)(hl:vs.length<9223372036854775807):
  R call n [.code b21] (FX r21 (vB ⟨c,vs⟩)) .normal ⟨bn [aK ⟨c,vs⟩],⟨[],.no,none,21⟩⟩ bg:=by
 unfold b21 r21 bg aK
 repeat' (first|simp only[go_sem,Nat.reduceEqDiff,Nat.reduceAdd, *,Vs,Vt,bA,Dl]|refine bV (fun _=>?_) fun _=>?_|refine cO (fun _=>?_) fun _=>?_|refine bP (fun _=>?_) fun _=>?_|refine bX (fun _=>?_) fun _=>?_|refine bZ (fun _=>?_) fun _=>?_)
 ·simp only[decide_eq_true_eq,decide_eq_false_iff_not,Int.not_lt]at *;exact uR (by omega)
 rotate_left
 ·simp only[decide_eq_true_eq]at *;exact uR (by omega)
 simp only[decide_eq_false_iff_not,Int.not_lt]at *;refine bD (I21x c vs) vs.length hn ⟨_,0,_,_,_,wac _,rfl,rfl,Nat.zero_lt_one,by simp only[go_sem],by simp only[go_sem,Nat.reduceEqDiff],by simp only[go_sem];rfl,by omega,by omega,.zero⟩ ?_;rintro j fr h ⟨tm,m,nx,lo,ob,hm,rfl,rfl,hnx,hg,h1,h3,c0,c1,hp⟩;unfold VW;simp only[go_sem,Nat.reduceEqDiff,h1,h3,hg];refine bj (fun hlt=>?_) (fun hge=>?_)
 ·have hlt:m<vs.length:=by omega
  have hget:vs[m]?=some vs[m]:=wO hlt;have ha:=fun h=>aN ct hget .i64 h
  have hw2:=aM m (by omega);have hne:¬(0=nx):=by omega
  have hv:encV vs[m]=.agg [wt vs[m].i,wt vs[m].p]:=rfl;cases m with
  |zero=>
   have hd:decide ((0:Int)<((0:Nat):Int))=false:=by simp
   repeat' (first|simp only[go_sem,Nat.reduceEqDiff,Nat.reduceAdd,Int.reduceNeg, *,EV,EW,EX,EY,bA,Dl]|refine bV (fun _=>?_) fun _=>?_|refine cO (fun _=>?_) fun _=>?_|refine bP (fun _=>?_) fun _=>?_|refine bX (fun _=>?_) fun _=>?_|refine bZ (fun _=>?_) fun _=>?_)
   all_goals simp only[decide_eq_true_eq,decide_eq_false_iff_not,Int.not_lt,Int.not_le]at *
   all_goals first
    |(refine Tv hget fun hh=>?_;obtain⟨⟨_,_,_,_⟩,hh2⟩:=hh;(try have:=hh2 (by assumption));omega)
    |(refine yo hm hlt (by omega) (by simp only[go_sem, *]) (by simp only[go_sem,Nat.reduceEqDiff, *]) (by simp only[go_sem, *]) c0 c1 (.succ0 hget ⟨⟨by omega,by omega,by omega,by omega⟩,fun _=>by omega⟩))
  |succ p=>
   have hgp:vs[p]?=some vs[p]:=wO (by omega);have ha3:=fun h=>aN ct hgp .i64 h
   have hv3:encV vs[p]=.agg [wt vs[p].i,wt vs[p].p]:=rfl;have hw3:IntKind.wrap .i64 (((p+1:Nat):Int)-1)=(p:Int):=by rw[br _ (by omega) (by omega)];omega
   have hd:decide ((0:Int)<((p+1:Nat):Int))=true:=by simp
   repeat' (first|simp only[go_sem,Nat.reduceEqDiff,Nat.reduceAdd,Int.reduceNeg, *,EV,EW,EX,EY,bA,Dl]|refine bV (fun _=>?_) fun _=>?_|refine cO (fun _=>?_) fun _=>?_|refine bP (fun _=>?_) fun _=>?_|refine bX (fun _=>?_) fun _=>?_|refine bZ (fun _=>?_) fun _=>?_)
   all_goals simp only[decide_eq_true_eq,decide_eq_false_iff_not,Int.not_lt,Int.not_le]at *
   all_goals first
    |(refine Ix hgp hget ?_;omega)
    |(refine Tv hget fun hh=>?_;obtain⟨⟨_,_,_,_⟩,hh2⟩:=hh;(try have:=hh2 (by assumption));omega)
    |(refine yo hm hlt (by omega) (by simp only[go_sem, *]) (by simp only[go_sem,Nat.reduceEqDiff, *]) (by simp only[go_sem, *]) c0 c1 (.succ hp hgp hget ⟨⟨by omega,by omega,by omega,by omega⟩,fun _=>by omega⟩ (by omega)))
 ·have:m=vs.length:=by omega
  subst this
  repeat' (first|simp only[go_sem, *,Vu,bA,Dl]|refine bV (fun _=>?_) fun _=>?_|refine cO (fun _=>?_) fun _=>?_|refine bP (fun _=>?_) fun _=>?_|refine bX (fun _=>?_) fun _=>?_|refine bZ (fun _=>?_) fun _=>?_)
  exact is_VL c0 c1 hp
def Gx (P:AV->Prop)(h:AH)(v:AV)(h':AH):Prop:=P v/\h.z<=h'.z/\h'.low=h.low/\h'.objs=h.objs
theorem iH {P:AV->Prop}{h h':AH}{v:AV}(g:Gx P h v h'):∃nx,h.z<=nx/\h'=⟨nx,h.low,h.objs⟩:=by
 obtain⟨_,g1,g2,g3⟩:=g;refine⟨h'.z,g1,?_⟩;cases h';simp at g2 g3;subst g2 g3;rfl
theorem ez {h0:AH}{rs:List bF}{P:AV->Prop}{tm:Tm}{rnd:Option Nat}{f:FuncId}{h1:AH}{e:AEx}{vs:List AV}(he:e=.normal∨e=.ret)(hl:h0.z<=h1.low)(hn:h0.z<=h1.z)(hv:fF rs tm h1=some vs)(hP:P (frz 4 h1 h0.z (AG.one vs))):
  HQ h0 rs (Gx P h0) e ⟨tm,⟨[],.no,rnd,f⟩⟩ h1:=Jw he hl hv ⟨hP,hn,rfl,rfl⟩
structure Rd {α:Type}(f:α->AV)(sz b:Nat)(h0:AH)(V:AV)(l:List α):Prop where
 len:∀h,lenOf V h 1=some l.length
 get:∀(i:Nat) x,l[i]?=some x->∃p,∀h:AH,(∀k,k<b->h.get k=h0.get k)->cz V h sz (wt (i:Int))=.val p h/\dH p h true sz=some (f x)
 cell:V.cells=[V]
 lies:V.lies=true
 frz:∀m h b',b<=b'->AG.frz m h b' V=V
theorem Rd.mono {α:Type}{f:α->AV}{sz b b':Nat}{h0 h1:AH}{V:AV}{l:List α}(r:Rd f sz b h0 V l)(hb:b<=b')(hg:∀k,k<b->h1.get k=h0.get k):Rd f sz b' h1 V l:=
 ⟨r.len,fun i x e=>(r.get i x e).imp fun p hp h hk=>hp h fun k hk'=>(hk k (by omega)).trans (hg k hk'),r.cell,r.lies,fun m h b'' hb'=>r.frz m h b'' (Nat.le_trans hb hb')⟩
theorem Rd.ls {α:Type}{f:α->AV}{sz b:Nat}{h0:AH}(hf:∀x,(f x).cells.length=sz)(ha:∀x,(f x).isAgg=true)(l:List α):Rd f sz b h0 (.ls (l.map f)) l:=
 ⟨fun h=>by rw[dL,waa],fun i x e=>⟨.vptr (f x),fun h _=>⟨aN hf e .i64 h,gN true sz (ha x) (hf x)⟩⟩,rfl,rfl,fun m h b' _=>zH m b' _⟩
def I159 (V:AV)(vs:List LV)(f:AV)(p:LV->Bool)(b:Nat)(ob:Tr eI)(j:Nat)(fr:AF)(h:AH):Prop:=∃tm m nx,m+j=vs.length/\fr=⟨tm,⟨[],.no,none,159⟩⟩/\h=⟨nx,b,ob⟩/\b<=nx/\
  nth tm 0=V/\nth tm 1=f/\nth tm 7=wt (vs.length:Int)/\nth tm 8=wt (m:Int)/\∀(i:Nat) x,i<m->vs[i]?=some x->p x=false
theorem oD {α:Type}{p:α->Bool}{l:List α}(h:∀(i:Nat) x,i<l.length->l[i]?=some x->p x=false):l.any p=false:=by
 rw[List.any_eq_false];intro x hx;obtain⟨i,hi,rfl⟩:=wag.1 hx;rw[h i _ hi (wO hi)];simp
theorem rA {α:Type}{p:α->Bool}{l:List α}{i:Nat}{x:α}(hx:l[i]?=some x)(hp:p x=true):l.any p=true:=List.any_eq_true.2 ⟨x,wS hx,hp⟩
theorem Yj (call:aG)(n:Nat)(V:AV)(vs:List LV)(f:AV)(p:LV->Bool)(h:AH)(hV:Rd encV 2 h.z h V vs)(hn:vs.length<n)(hl:vs.length<9223372036854775807)
  (hf:∀(i:Nat) x nx,vs[i]?=some x->h.z<=nx->∃nx',nx<=nx'/\call f [encV x] .no ⟨nx,h.z,h.objs⟩=some (.ret (.bool (p x)),.no,⟨nx',h.z,h.objs⟩)) :
  ∃v h',dZ EF call n 159 [V,f] .no h=some (.ret v,.no,h')/\Gx (fun v=>∃e:Int,v=wt e/\decide (0<=e)=vs.any p) h v h':=by
 refine eU abF (fg _) ?_;unfold ae0;simp only[go_sem,simprocAttr,Ge,hV.len];refine bD (I159 V vs f p h.z h.objs) vs.length hn ⟨_,0,_,wac _,rfl,rfl,Fv _,by simp only[go_sem,simprocAttr],by simp only[go_sem,simprocAttr],by simp only[go_sem,simprocAttr],by simp only[go_sem,simprocAttr],fun i x hi=>absurd hi (by omega)⟩ ?_;rintro j fr H ⟨tm,m,nx,hm,rfl,rfl,hnx,t0,t1,t7,t8,hp⟩;unfold Hl;simp only[go_sem,simprocAttr,Gg,t7,t8];refine bj (fun hlt=>?_) (fun hge=>?_)
 ·have hlt:m<vs.length:=by omega
  have hget:vs[m]?=some vs[m]:=wO hlt;obtain⟨p',hp'⟩:=hV.get m _ hget;have ha:=(hp' ⟨nx,h.z,h.objs⟩ (fun _ _=>rfl)).1;have hb:=(hp' ⟨nx,h.z,h.objs⟩ (fun _ _=>rfl)).2;have hw2:=aM m (by omega);obtain⟨nx',hle,e1⟩:=hf m _ nx hget hnx;simp only[go_sem,simprocAttr,Am,An,t0,t1,t8,ha,hb,e1];refine bX (fun hb=>?_) (fun hb=>?_)
  ·simp only[go_sem,simprocAttr];refine ez (.inr rfl) (Fv _) (by show h.z<=nx';omega) (by simp only[go_sem,simprocAttr,Zl];rfl) ⟨(m:Int),by rw[gP,bY],?_⟩;rw[rA hget hb];simp
  ·simp only[go_sem,simprocAttr,hw2,t8];refine⟨j-1,by omega,_,m+1,nx',by omega,rfl,rfl,by omega,by simp only[go_sem,simprocAttr,t0],by simp only[go_sem,simprocAttr,t1],by simp only[go_sem,simprocAttr,t7],by simp only[go_sem,simprocAttr],fun i x hi hx=>?_⟩;by_cases hi':i<m
   ·exact hp i x hi' hx
   ·obtain rfl:i=m:=by omega
    rw[hget]at hx;cases hx;exact hb
 ·have:m=vs.length:=by omega
  subst this;simp only[go_sem,simprocAttr,Gf];refine ez (.inr rfl) (Fv _) hnx (by simp only[go_sem,simprocAttr,Zl];rfl) ⟨-1,by rw[gP,bY],?_⟩;rw[oD (fun i x hi hx=>hp i x hi hx)];rfl
theorem Ym (call:aG)(n:Nat)(V:AV)(vs:List LV)(f:AV)(p:LV->Bool)(h:AH)
  (h159:∀lo,∃v nx,call (.fn 159 [] []) [V,f] .no ⟨h.z,lo,h.objs⟩=some (.ret v,.no,⟨nx,lo,h.objs⟩)/\h.z<=nx/\∃e:Int,v=wt e/\decide (0<=e)=vs.any p) :
  ∃v h',dZ EF call n 109 [V,f] .no h=some (.ret v,.no,h')/\Gx (fun v=>v=.bool (vs.any p)) h v h':=by
 refine eU abG (fg _) ?_;unfold ae6;obtain⟨v,nx,e1,hle,e,rfl,he⟩:=h159 h.z;simp only[go_sem,simprocAttr,GH,e1,he];exact ez (.inr rfl) (Fv _) hle (by simp only[go_sem,simprocAttr,aeJ];rfl) (by rw[gP,eN])
theorem Yc (call:aG)(n:Nat)(x:LV)(c:Int)(V:AV)(kb:Nat)(h:AH)(hkb:h.get kb=some (.box [wt c,V]))(hlt:kb<h.z):
  ∃v h',dZ EF call n 238 [encV x,.ptr kb 0 0] .no h=some (.ret v,.no,h')/\Gx (fun v=>v=.bool (decide (c<=x.p))) h v h':=by
 refine eU cf238 (fg _) ?_;unfold b238 encV;have hne:¬(kb=h.z):=by omega
 have gk:h.objs.get kb=some (.box [wt c,V]):=hkb;simp only[go_sem,simprocAttr,Qp,hne,gk];exact ez (.inr rfl) (Fv _) (by show h.z<=h.z+1;omega) (by simp only[go_sem,simprocAttr,r238];rfl) (by rw[gP,eN])
def Fz (l:LL):Bool:=l.v.any fun x=>decide (l.c<=x.p)
def acm:List Nat:=[238,159,109,192,199,208,68,25,163,164,165,166,167,115,210,137,196,198,241,99,100,142,200,201,55,57,240,278,202,242,243,140,146,141,147,139,145,143,138,144,194,136,195,193,239,98,50,197,53,54,97,56,14,15,17,4,12]
structure jR (K:aG):Prop where
 fn:∀f,f∈acm->∀c a rc h,K (.fn f [] c) a rc h=none
 yld:∀l a rc h,K (.yld l) a rc h=none
noncomputable def cK (K:aG)(m:Nat):aG:=mix K EF 30000 m
theorem eV {K:aG}(hK:jR K)(m:Nat)(f:Nat)(c a:List AV)(h:AH)(hf:f∈acm:=by decide):cK K (m+1) (.fn f [] c) a .no h=dZ EF (cK K m) 30000 f (a++c) .no h:=zt (hK.fn f hf c a .no h)
theorem BE {K:aG}(hk:bM CI K)(m:Nat):bM CI (cK K m):=Tz hEF hk 30000 m
theorem dQ {K:aG}{f:AV}{a:List AV}{rc:RC}{h:AH}{r:bI×RC×AH}(e:K f a rc h=some r)(m:Nat):cK K m f a rc h=some r:=Ky e m
theorem c238 {K:aG}(hK:jR K)(m:Nat)(x:LV)(c:Int)(V:AV)(kb:Nat)(h:AH)(hkb:h.get kb=some (.box [wt c,V]))(hlt:kb<h.z):
  ∃nx,h.z<=nx/\cK K (m+1) (.fn 238 [] [.ptr kb 0 0]) [encV x] .no h=some (.ret (.bool (decide (c<=x.p))),.no,⟨nx,h.low,h.objs⟩):=by
 rw[eV hK _ 238];obtain⟨v,h',e,g⟩:=Yc (cK K m) 30000 x c V kb h hkb hlt;obtain⟨nx,h1,rfl⟩:=iH g;obtain⟨rfl,_⟩:=g;exact⟨nx,h1,e⟩
theorem c109 {K:aG}(hK:jR K)(m:Nat)(V:AV)(vs:List LV)(c:List AV)(fc:Nat)(p:LV->Bool)(h:AH)(hV:Rd encV 2 h.z h V vs)(hl:vs.length<30000)
  (hf:∀(i:Nat) x nx lo,vs[i]?=some x->h.z<=nx->∃nx',nx<=nx'/\cK K m (.fn fc [] c) [encV x] .no ⟨nx,lo,h.objs⟩=some (.ret (.bool (p x)),.no,⟨nx',lo,h.objs⟩)) :
  ∃nx,h.z<=nx/\cK K (m+2) (.fn 109 [] []) [V,.fn fc [] c] .no h=some (.ret (.bool (vs.any p)),.no,⟨nx,h.low,h.objs⟩):=by
 rw[eV hK _ 109];obtain⟨v,h',e,g⟩:=Ym (cK K (m+1)) 30000 V vs (.fn fc [] c) p h (fun lo=>by
  rw[eV hK _ 159];obtain⟨v,h',e,g⟩:=Yj (cK K m) 30000 V vs (.fn fc [] c) p ⟨h.z,lo,h.objs⟩ (hV.mono (Fv _) (fun _ _=>rfl)) hl (by omega) (fun i x nx hx hn=>hf i x nx _ hx hn);obtain⟨nx,h1,rfl⟩:=iH g;exact⟨v,nx,e,h1,g.1⟩)
 obtain⟨nx,h1,rfl⟩:=iH g;obtain⟨rfl,_⟩:=g;exact⟨nx,h1,e⟩
theorem c192 {K:aG}(hK:jR K)(m:Nat)(V:AV)(c:Int)(vs:List LV)(h:AH)(hV:Rd encV 2 h.z h V vs)(hl:vs.length<30000):
  ∃nx,h.z<=nx/\cK K (m+4) (.fn 192 [] []) [.agg [wt c,V]] .no h=some (.ret (.bool (Fz ⟨c,vs⟩)),.no,⟨nx,h.low,h.objs⟩):=by
 rw[eV hK _ 192];have hc:=hV.cell;have hli:=hV.lies;have key:∃v h',dZ EF (cK K (m+3)) 30000 192 [.agg [wt c,V]] .no h=some (.ret v,.no,h')/\Gx (fun v=>v=.bool (Fz ⟨c,vs⟩)) h v h':=by
  refine eU cf192 (fg _) ?_;unfold b192;obtain⟨ob,hob⟩:∃ob,ob=h.objs.put h.z (.box [wt c,V]):=⟨_,rfl⟩
  have g1:ob.get h.z=some (.box [wt c,V]):=by rw[hob,Tr.cB]
  obtain⟨nx,hnx,e1⟩:=c109 hK (m+1) V vs [.ptr h.z 0 0] 238 (fun x=>decide (c<=x.p)) ⟨h.z+1,h.z,ob⟩
   (hV.mono (by show h.z<=h.z+1;omega) (fun k hk=>by show ob.get k=h.objs.get k;rw[hob,Tr.cA _ _ (by omega)])) hl
   (fun i x nx lo hx hn=>c238 hK m x c V h.z ⟨nx,lo,ob⟩ g1 (by show h.z<nx;replace hn:h.z+1<=nx:=hn;omega))
  have hnx:h.z+1<=nx:=hnx;simp only[go_sem,simprocAttr];rw[<-hob];simp only[go_sem,simprocAttr,QS,g1,e1];refine ez (.inr rfl) (Fv _) (by show h.z<=nx;omega) (by simp only[go_sem,simprocAttr,r192];rfl) (by rw[gP,eN];rfl)
 obtain⟨v,h',e,g⟩:=key;obtain⟨nx,h1,rfl⟩:=iH g;obtain⟨rfl,_⟩:=g;exact⟨nx,h1,e⟩
def big (l:LL):Bool:=l.v.any (fun x=>decide (100<x.p))||decide (100<l.c)
def limP (c:Int)(vs:List LV)(V v:AV):Prop:=
 (big ⟨c,vs⟩=true/\v=.tup [.agg [wt 0,.nl],wt 15])∨(big ⟨c,vs⟩=false/\v=.tup [.agg [wt (cond (Fz ⟨c,vs⟩) 0 c),V],wt 0])
def I199 (c:Int)(V:AV)(vs:List LV)(h0:AH)(j:Nat)(fr:AF)(h:AH):Prop:=∃tm m nx lo ob,m+j=vs.length/\fr=⟨tm,⟨[],.no,none,199⟩⟩/\h=⟨nx,lo,ob⟩/\h0.z<=lo/\h0.z+2<=nx/\
  ob.get h0.z=some (.box [wt c,V])/\ob.get (h0.z+1)=some (.box [wt 0,.nl])/\(∀k,k<h0.z->ob.get k=h0.objs.get k)/\
  nth tm 1=.ptr h0.z 0 0/\nth tm 2=.ptr (h0.z+1) 0 0/\nth tm 3=wt 0/\nth tm 7=V/\nth tm 8=wt (vs.length:Int)/\nth tm 9=wt (m:Int)/\∀(i:Nat) x,i<m->vs[i]?=some x->decide (100<x.p)=false
theorem c199 {K:aG}(hK:jR K)(m:Nat)(V:AV)(c:Int)(vs:List LV)(h:AH)(hV:Rd encV 2 h.z h V vs)(hl:vs.length<30000):
  ∃v nx,h.z<=nx/\cK K (m+5) (.fn 199 [] []) [.agg [wt c,V]] .no h=some (.ret v,.no,⟨nx,h.low,h.objs⟩)/\limP c vs V v:=by
 rw[eV hK _ 199];have hc:=hV.cell;have hli:=hV.lies;have hfz:=hV.frz;have n1:¬(h.z=h.z+1):=by omega
 have n2:¬(h.z+1=h.z):=by omega
 have key:∃v h',dZ EF (cK K (m+4)) 30000 199 [.agg [wt c,V]] .no h=some (.ret v,.no,h')/\Gx (limP c vs V) h v h':=by
  refine eU cf199 (fg _) ?_;unfold b199;simp only[go_sem,simprocAttr,QM,n1,hV.len];refine bD (I199 c V vs h) vs.length (by omega) ⟨_,0,_,_,_,wac _,rfl,rfl,Fv _,by omega,by simp only[go_sem,simprocAttr,n1],by simp only[go_sem,simprocAttr],fun k hk=>by rw[Tr.cA _ _ (by omega),Tr.cA _ _ (by omega)],by simp only[go_sem,simprocAttr],by simp only[go_sem,simprocAttr],by simp only[go_sem,simprocAttr],by simp only[go_sem,simprocAttr],by simp only[go_sem,simprocAttr],by simp only[go_sem,simprocAttr],fun i x hi=>absurd hi (by omega)⟩ ?_;rintro j fr H ⟨tm,q,nx,lo,ob,hm,rfl,rfl,hlo,hnx,g1,g2,gk,t1,t2,t3,t7,t8,t9,hp⟩;unfold TX;simp only[go_sem,simprocAttr,QP,t8,t9];refine bj (fun hlt=>?_) (fun hge=>?_)
  ·have hlt:q<vs.length:=by omega
   have hget:vs[q]?=some vs[q]:=wO hlt;obtain⟨p',hp'⟩:=hV.get q _ hget;have ha:=(hp' ⟨nx,lo,ob⟩ gk).1;have hb:=(hp' ⟨nx,lo,ob⟩ gk).2;have hw2:=aM q (by omega);have hv:encV vs[q]=.agg [wt vs[q].i,wt vs[q].p]:=rfl;rw[hv]at hb;have n3:¬(h.z+1=nx):=by omega
   have n4:¬(h.z=nx):=by omega
   simp only[go_sem,simprocAttr,QQ,QR,t7,t9,ha,hb];refine bj (fun hbg=>?_) (fun hbg=>?_)
   ·simp only[go_sem,simprocAttr,t2,n3,g2];refine ez (.inr rfl) (by(repeat' (first|assumption|exact Fv _|apply bo))<;>omega) (by show h.z<=nx+1;omega) (by simp only[go_sem,simprocAttr,Zk,t2];rfl) (.inl ⟨?_,?_⟩)
    ·unfold big;rw[rA hget (HE hbg)];rfl
    ·rw[jW,cZ];simp only[List.map_cons,List.map_nil,cw,bY,fH]
   ·simp only[go_sem,simprocAttr,hw2,t9];refine⟨j-1,by omega,_,q+1,_,_,_,by omega,rfl,rfl,(by(repeat' (first|assumption|exact Fv _|apply bo))<;>omega),by omega,by simp only[go_sem,simprocAttr,n4,g1],by simp only[go_sem,simprocAttr,n3,g2],fun k hk=>by rw[Tr.cA _ _ (by omega),Tr.cA _ _ (by omega)];exact gk k hk,by simp only[go_sem,simprocAttr,t1],by simp only[go_sem,simprocAttr,t2],by simp only[go_sem,simprocAttr,t3],by simp only[go_sem,simprocAttr,t7],by simp only[go_sem,simprocAttr,t8],by simp only[go_sem,simprocAttr],fun i x hi hx=>?_⟩;by_cases hi':i<q
    ·exact hp i x hi' hx
    ·obtain rfl:i=q:=by omega
     rw[hget]at hx;cases hx;exact HD hbg
  ·have:q=vs.length:=by omega
   subst this;have hnb:=oD (fun i x hi hx=>hp i x hi hx);simp only[go_sem,simprocAttr,QN,t1,g1];refine bj (fun hbg=>?_) (fun hbg=>?_)
   ·simp only[go_sem,simprocAttr,t2,g2];refine ez (.inr rfl) (by(repeat' (first|assumption|exact Fv _|apply bo))<;>omega) (by show h.z<=nx;omega) (by simp only[go_sem,simprocAttr,Zk,t2];rfl) (.inl ⟨?_,?_⟩)
    ·unfold big;rw[HE (show(100:Int)<(LL.mk c vs).c from hbg)];simp
    ·rw[jW,cZ];simp only[List.map_cons,List.map_nil,cw,bY,fH]
   ·have hbf:big ⟨c,vs⟩=false:=by unfold big;rw[hnb,HD (show ¬(100:Int)<(LL.mk c vs).c from hbg)];rfl
    obtain⟨nx',hnx',e1⟩:=c192 hK m V c vs ⟨nx,lo,ob⟩ (hV.mono (by show h.z<=nx;omega) gk) hl;have hnx':nx<=nx':=hnx';simp only[go_sem,simprocAttr,QO,t1,g1,e1];cases hcv:Fz ⟨c,vs⟩ with
    |true=>
     simp only[go_sem,simprocAttr,FU,t1,t2,g1,g2,n2];refine ez (.inr rfl) (bo (by omega) (by(repeat' (first|assumption|exact Fv _|apply bo))<;>omega)) (by show h.z<=nx';omega) (by simp only[go_sem,simprocAttr,Zk,t2];rfl) (.inr ⟨hbf,?_⟩);rw[jW,cZ,hcv];simp only[List.map_cons,List.map_nil,cw,bY,hfz _ _ _ (Fv _),cond_true]
    |false=>
     simp only[go_sem,simprocAttr,FU,t1,t2,g1,g2];refine ez (.inr rfl) (by(repeat' (first|assumption|exact Fv _|apply bo))<;>omega) (by show h.z<=nx';omega) (by simp only[go_sem,simprocAttr,Zk,t2];rfl) (.inr ⟨hbf,?_⟩);rw[jW,cZ,hcv];simp only[List.map_cons,List.map_nil,cw,bY,hfz _ _ _ (Fv _),cond_false]
 obtain⟨v,h',e,g⟩:=key;obtain⟨nx,h1,rfl⟩:=iH g;exact⟨v,nx,h1,e,g.1⟩
abbrev Es:=List (Int×Int)
def mp (L:Es):List (AV×AV):=L.map fun e=>(wt e.1,wt e.2)
def look:Es->Int->Option Int
 |[],_=>none
 |e::L,k=>if k=e.1 then some e.2 else look L k
def tt:Es->Int->Int->Es
 |[],k,v=>[(k,v)]
 |e::L,k,v=>if k=e.1 then (k,v)::L else e::tt L k v
def fV (L:Es)(k p:Int):Es:=match look L k with
 |some o=>if o<p then tt L k p else L
 |none=>tt L k p
theorem fG (a b:Int):cE 1 (wt a) (wt b)=some (decide (a=b)):=by
 show cond (LZ .i64 .i64) (some (BU a b)) none=_;rw[sP,kP];rfl
theorem vF (k:Int):∀L:Es,jI (mp L) 1 (wt k)=some ((look L k).map (AV.int .i64))
 |[]=>rfl
 |e::L=>by
  show aq (cE 1 (wt k) (wt e.1)) (fun b=>cond b (some (some (AV.int .i64 e.2))) (jI (mp L) 1 (wt k)))=_;rw[fG,aF,vF k L,look];by_cases h:k=e.1
  ·simp[h]
  ·simp[h]
theorem HH (k v:Int):∀L:Es,pH (mp L) 1 (wt k) (wt v)=mp (tt L k v)
 |[]=>rfl
 |e::L=>by
  show(Option.casesOn (cE 1 (wt k) (wt e.1)) ((AV.int .i64 e.1,AV.int .i64 e.2)::pH (mp L) 1 (wt k) (wt v)) fun b=>cond b ((wt k,wt v)::mp L) ((AV.int .i64 e.1,AV.int .i64 e.2)::pH (mp L) 1 (wt k) (wt v)):List (AV×AV))=_;rw[fG,HH k v L,tt];by_cases h:k=e.1
  ·simp[h,mp]
  ·simp[h,mp]
theorem xO {h:AH}{km:Nat}{L:Es}(hm:h.get km=some (.map (mp L)))(k:Int)(ok:Bool):
  gZ h 1 (wt 0) ok (.map km) (wt k)=some (match look L k with|some o=>cond ok (.tup [wt o,.bool true]) (wt o)|none=>cond ok (.tup [wt 0,.bool false]) (wt 0)):=by
 show aq (cE 1 (wt k) (wt k)) (fun _=>aq (aq (aq (h.get km) Fg) fun es=>jI es 1 (wt k)) fun r=>some (zC r (wt 0) ok))=_;rw[fG,hm];show aq (jI (mp L) 1 (wt k)) _=_;rw[vF];cases look L k<;>rfl
theorem CA {h:AH}{km:Nat}{L:Es}(hm:h.get km=some (.map (mp L)))(k v:Int):
  kN h 1 (.map km) (wt k) (wt v)=some (h.set km (.map (mp (tt L k v)))):=by
 show aq (aq (h.get km) Fg) (fun es=>aq (cE 1 (wt k) (wt k)) fun _=>aq (jI es 1 (wt k)) fun _=>some (h.set km (.map (pH es 1 (wt k) (wt v)))))=_;rw[hm];show aq (cE 1 (wt k) (wt k)) (fun _=>aq (jI (mp L) 1 (wt k)) fun _=>some (h.set km (.map (pH (mp L) 1 (wt k) (wt v)))))=_;rw[fG,vF,HH];rfl
structure Ch (a b:Nat)(h h':AH):Prop where
 z:h.z<=h'.z
 kw:∀k,k<h.z->k≠a->k≠b->h'.get k=h.get k
 low:∀x,x<=h.low->x<=a->x<=b->x<=h'.low
theorem Yg (call:aG)(n:Nat)(km:Nat)(L:Es)(i p:Int)(h:AH)(hm:h.get km=some (.map (mp L)))(hlt:km<h.z):
  ∃v h',dZ EF call n 166 [.map km,wt i,wt p] .no h=some (.ret v,.no,h')/\v=.tup []/\h'.get km=some (.map (mp (fV L i p)))/\h.z<=h'.z/\(∀k,k≠km->h'.get k=h.get k)/\(∀b,b<=h.low->b<=km->b<=h'.low)/\h'.low<=h.low:=by
 refine eU cf166 (fg _) ?_;unfold b166 fV;have hl:=fun ok=>xO (h:=⟨h.z,h.z,h.objs⟩) hm i ok
 cases he:look L i with
 |none=>
  simp only[he]at hl;have hu:=CA (h:=⟨h.z,h.z,h.objs⟩) hm i p;simp only[go_sem,simprocAttr,hl,FW,hu];refine Aa (.inl rfl) ?_ (by simp only[go_sem,simprocAttr,acr];rfl) ⟨rfl,?_,Fv _,fun k hk=>?_,fun b h1 h2=>?_,?_⟩
  ·have:gz km h.z<=km:=zy _ _;show ¬h.z<=gz km h.z;omega
  ·rw[cp,Tr.cB]
  ·rw[cp,Tr.cA _ _ hk];rfl
  ·exact bo (bo h2 (by omega)) h1
  ·exact jY _ _
 |some o=>
  simp only[he]at hl;have hu:=CA (h:=⟨h.z,h.z,h.objs⟩) hm i p;simp only[go_sem,simprocAttr,hl,FW];refine bj (fun hlt=>?_) (fun hge=>?_)
  ·simp only[go_sem,simprocAttr,hu,wae hlt];refine Aa (.inl rfl) ?_ (by simp only[go_sem,simprocAttr,acr];rfl) ⟨rfl,?_,Fv _,fun k hk=>?_,fun b h1 h2=>?_,?_⟩
   ·have:gz km h.z<=km:=zy _ _;show ¬h.z<=gz km h.z;omega
   ·rw[cp,Tr.cB]
   ·rw[cp,Tr.cA _ _ hk];rfl
   ·exact bo (bo h2 (by omega)) h1
   ·exact jY _ _
  ·simp only[go_sem,simprocAttr,wad hge];exact Jw (.inl rfl) (Fv _) (by simp only[go_sem,simprocAttr,acr];rfl) ⟨rfl,hm,Fv _,fun k hk=>rfl,fun b h1 h2=>h1,Fv _⟩
