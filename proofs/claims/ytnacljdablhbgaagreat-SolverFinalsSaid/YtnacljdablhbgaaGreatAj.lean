/- AbsGo: regions that draw their order: how many acts have been done (plain; no condition). -/
import Derived.Test.YtnacljdablhbgaaGreatAi
import Derived.Orders
noncomputable section
namespace Go.AG
def cS (ss:List OS)(S:Nat->Bool):Nat:=gS (fun k y=>y.acts&&S k) ss 0
def na (ss:List OS)(i:Nat):Nat:=cS ss fun k=>decide (k<i)
section
variable {C:Cx}{nt:Nat}{ops:Array Oper}{l:List aX}{ps:List Nat}{ss:List OS}{S:Nat->Bool}
theorem iZ.ss_get (P:iZ C nt ops l ps ss){i:Nat}{ao:aX}(hl:l[i]?=some ao):∃x p,ss[i]?=some x/\ps[i]?=some p/\x=⟨p,lG ao.dst,nF ao,yz ao.op.cls⟩:=by
 have hi:i<ss.length:=by rw[P.slen];exact(wah.1 hl).1
 have hx:=wO hi;obtain⟨ao',p,h1,h2,h3⟩:=P.sum i _ hx;rw[hl]at h1;cases h1;exact⟨_,p,hx,h2,h3⟩
theorem rq {S':Nat->Bool}(P:iZ C nt ops l ps ss)(h:∀(i:Nat) (ao:aX),l[i]?=some ao->ao.op.cls=.acts->S i=S' i):cS ss S=cS ss S':=by
 refine oE ss 0 fun k x hx=>?_
 rw[wac];obtain⟨ao,p,h1,h2,h3⟩:=P.sum k x hx;cases ha:x.acts with
 |false=>rfl
 |true=>
  subst h3;have:=(ym _).1 ha;rw[h k ao h1 this]
theorem TO (P:iZ C nt ops l ps ss){i:Nat}{ao:aX}(hl:l[i]?=some ao)(hn:S i=false):cS ss (jN S i)=if ao.op.cls=.acts then cS ss S+1 else cS ss S:=by
 by_cases hc:ao.op.cls=.acts
 ·rw[wae hc];obtain⟨x,p,h1,h2,h3⟩:=P.ss_get hl;refine tk ss 0 i x h1 ?_ ?_ fun k y hk hy=>?_
  ·rw[wac,hn];simp
  ·rw[wac,h3];simp[jN,(ym _).2 hc]
  ·rw[wac];simp[jN,hk]
 ·rw[wad hc];refine rq P fun j aj hj hcj=>?_
  by_cases hji:j=i
  ·subst hji;rw[hl]at hj;cases hj;exact absurd hcj hc
  ·simp[jN,hji]
theorem zp (P:iZ C nt ops l ps ss){i:Nat}{ao:aX}(hl:l[i]?=some ao):na ss (i+1)=if ao.op.cls=.acts then na ss i+1 else na ss i:=by
 have e:(fun k=>decide (k<i+1))=jN (fun k=>decide (k<i)) i:=by
  funext k;unfold jN;by_cases h:k=i
  ·simp[h]
  ·simp[h];omega
 unfold na;rw[e];exact TO P hl (by simp)
theorem IA {i j:Nat}(h:i<=j):na ss i<=na ss j:=
 iX ss 0 fun k x _ q=>by
  simp only[Bool.and_eq_true,decide_eq_true_eq]at q ⊢;exact⟨q.1,by omega⟩
theorem iZ.count_act (P:iZ C nt ops l ps ss)(hS:kJ ops S){i:Nat}{ao:aX}(hl:l[i]?=some ao)(hc:ao.op.cls=.acts)(hr:sc ops S i):cS ss S=na ss i:=by
 obtain⟨hni,o,ho,hd⟩:=hr;refine rq P fun j aj hj hcj=>?_
 rcases Nat.lt_trichotomy j i with h|h|h
 ·rcases P.pair j i _ _ h hj hl with hb|⟨_,_,hn⟩
  ·rw[P.pre hS ho hd hb];simp[h]
  ·exact absurd ⟨hcj,hc⟩ hn
 ·subst h;rw[hni];simp
 ·have:S j=false:=by
   cases hSj:S j with
   |false=>rfl
   |true=>
    rcases P.pair i j _ _ h hl hj with hb|⟨_,_,hn⟩
    ·have:=P.before hS (by rw[<-P.len];exact(wah.1 hj).1) hSj hb;rw[hni]at this;cases this
    ·exact absurd ⟨hc,hcj⟩ hn
  rw[this];simp;omega
theorem iZ.count_le (P:iZ C nt ops l ps ss)(hS:kJ ops S){i:Nat}{x:OS}(hx:ss[i]?=some x)(hr:sc ops S i):(Fy ss i x).lo<=cS ss S/\cS ss S<=(Fy ss i x).hi:=by
 obtain⟨hni,o,ho,hd⟩:=hr;obtain⟨ao,p,h1,h2,h3⟩:=P.sum i x hx;constructor
 ·refine iX ss 0 fun k y _ q=>?_
  rw[wac]at q ⊢;simp only[Bool.and_eq_true]at q ⊢;refine⟨q.1,P.pre hS ho hd ?_⟩;unfold mn;rw[h2,<-uZ];have:=q.2;rw[h3]at this;exact this
 ·refine iX ss 0 fun k y hy q=>?_
  rw[wac]at q;simp only[Bool.and_eq_true,Bool.not_eq_true']at q ⊢;refine⟨q.1,?_⟩;cases hb:bit y.pre i with
  |false=>rfl
  |true=>
   obtain⟨ak,pk,k1,k2,k3⟩:=P.sum k y hy;have hbf:mn ps i k:=by
    unfold mn;rw[k2,<-uZ];rw[k3]at hb;exact hb
   have:=P.before hS (by rw[<-P.len];exact(wah.1 k1).1) q.2 hbf;rw[hni]at this;cases this
theorem iZ.closed_lt (P:iZ C nt ops l ps ss)(i:Nat):kJ ops fun k=>decide (k<i):=by
 intro j o ho hj k hk;have:=P.pres.back j o (by simpa using ho) k hk;simp at hj ⊢;omega
theorem iZ.ready_lt (P:iZ C nt ops l ps ss){i:Nat}(hi:i<ops.size):sc ops (fun k=>decide (k<i)) i:=by
 refine⟨by simp,ops[i],Array.getElem?_eq_getElem hi,fun k hk=>?_⟩;have:=P.pres.back i ops[i] (by simp) k hk;simpa using this
theorem iZ.add_closed (hS:kJ ops S){i:Nat}(hr:sc ops S i):kJ ops (jN S i):=by
 intro j o ho hj k hk;obtain⟨hni,o',ho',hd⟩:=hr;by_cases h:j=i
 ·subst h;rw[ho]at ho';cases ho';have:=hd k hk;unfold jN;split<;>first|rfl|exact this
 ·have:S j=true:=by simpa [jN,h] using hj
  have:=hS j o ho this k hk;unfold jN;split<;>first|rfl|exact this
end
section
variable {C:Cx}{nt:Nat}{ops:Array Oper}{l:List aX}{ps:List Nat}{ss:List OS}{S:Nat->Bool}{call:aG}{s:DS}{r:AEx×AF×AH}{st:Nat->DS}{p:Nat}{v:Nat->AV}
structure Run (call:aG)(l:List aX)(ss:List OS)(st:Nat->DS)(p:Nat)(v:Nat->AV):Prop where
 le:p<=l.length
 fact:∀(i:Nat) (ao:aX) (x:OS),i<p->l[i]?=some ao->ss[i]?=some x->Ft call ao (Fy ss i x) (st i) (st (i+1)) (v i)
theorem ac6 (P:iZ C nt ops l ps ss){all:List (aX×DI)}(R:DRun call all (qC ss l 0 ss) s r st p):∃v,Run call l ss st p v:=by
 obtain⟨w1,w2⟩:=oY ss l 0 ss P.slen;have:∀i,∃u,∀(ao:aX) (x:OS),i<p->l[i]?=some ao->ss[i]?=some x->Ft call ao (Fy ss i x) (st i) (st (i+1)) u:=by
  intro i;by_cases hi:i<p
  ·have hp:p<=l.length:=by have:=R.le;rw[w1]at this;exact this
   have hl:l[i]?=some l[i]:=wO (by omega);have hs:ss[i]?=some (ss[i]'(by rw[P.slen];omega)):=wO (by rw[P.slen];omega);have:=w2 i _ _ hl hs;rw[wac]at this;obtain⟨u,hu⟩:=dfact (R.step i _ _ hi this);exact⟨u,fun ao x _ h1 h2=>by rw[hl]at h1;rw[hs]at h2;cases h1;cases h2;exact hu⟩
  ·exact⟨.any,fun ao x h=>absurd h hi⟩
 refine⟨fun i=>(this i).choose,by have:=R.le;rw[w1]at this;exact this,fun i ao x h1 h2 h3=>(this i).choose_spec ao x h1 h2 h3⟩
theorem Run.at (P:iZ C nt ops l ps ss)(R:Run call l ss st p v){i:Nat}(hi:i<p):∃ao x,l[i]?=some ao/\ss[i]?=some x/\Ft call ao (Fy ss i x) (st i) (st (i+1)) (v i):=by
 have hl:l[i]?=some (l[i]'(by have:=R.le;omega)):=wO (by have:=R.le;omega);obtain⟨x,pp,h1,_,_⟩:=P.ss_get hl;exact⟨_,x,hl,h1,R.fact i _ x hi hl h1⟩
theorem Run.tm (P:iZ C nt ops l ps ss)(R:Run call l ss st p v):∀i,i<=p->(st i).fr.tm=jM (fh l) v (st 0).fr.tm (fun _=>true) i
 |0,_=>rfl
 |i+1,hi=>by
  obtain⟨ao,x,h1,h2,F⟩:=R.at P (i:=i) (by omega);have hd:fh l i=ao.dst:=by unfold fh;rw[h1];rfl
  rw[F.tm,eR,wae rfl,hd,Run.tm P R i (by omega)]
theorem Run.same (P:iZ C nt ops l ps ss)(R:Run call l ss st p v){i:Nat}: ∀m,i+m<=p->na ss i=na ss (i+m)->(st (i+m)).h=(st i).h/\(st (i+m)).fr.cx=(st i).fr.cx
 |0,_,_=>⟨rfl,rfl⟩
 |m+1,hm,he=>by
  have h1:na ss i<=na ss (i+m):=IA (by omega);have h2:na ss (i+m)<=na ss (i+(m+1)):=IA (by omega);obtain⟨a1,a2⟩:=Run.same P R (i:=i) m (by omega) (by omega);obtain⟨ao,x,l1,l2,F⟩:=R.at P (i:=i+m) (by omega);have hn:=zp P l1;have hna:ao.op.cls≠.acts:=by
   intro hc;rw[wae hc]at hn;rw[show i+(m+1)=i+m+1 by omega]at h2 he;omega
  obtain⟨b1,b2,_⟩:=F.nonact hna;exact⟨b1.trans a1,b2.trans a2⟩
theorem Run.same' (P:iZ C nt ops l ps ss)(R:Run call l ss st p v){i j:Nat}(hi:i<=p)(hj:j<=p)(he:na ss i=na ss j):(st i).h=(st j).h/\(st i).fr.cx=(st j).fr.cx:=by
 rcases Nat.le_total i j with h|h
 ·have:=R.same P (i:=i) (j-i) (by omega) (by rw[show i+(j-i)=j by omega];exact he);rw[show i+(j-i)=j by omega]at this;exact⟨this.1.symm,this.2.symm⟩
 ·have:=R.same P (i:=j) (i-j) (by omega) (by rw[show j+(i-j)=i by omega];exact he.symm);rw[show j+(i-j)=i by omega]at this;exact this
theorem Run.hs (P:iZ C nt ops l ps ss)(R:Run call l ss st p v)(h0:(st 0).hs=[(st 0).h]):∀i,i<=p->(st i).hs.length=na ss i+1/\(st i).hs[na ss i]?=some (st i).h
 |0,_=>by
  have:na ss 0=0:=by
   have h1:na ss 0=cS ss fun _=>false:=by unfold na;congr
   rw[h1];unfold cS;have:∀(m:List OS) (j:Nat),gS (fun _ (y:OS)=>y.acts&&false) m j=0:=by
    intro m;induction m with
    |nil=>intro j;rfl
    |cons x m ih=>intro j;rw[fJ,Bool.and_false];exact ih _
   exact this ss 0
  rw[this,h0];exact⟨rfl,rfl⟩
 |i+1,hi=>by
  obtain⟨a1,a2⟩:=Run.hs P R h0 i (by omega);obtain⟨ao,x,l1,l2,F⟩:=R.at P (i:=i) (by omega);have hn:=zp P l1;by_cases hc:ao.op.cls=.acts
  ·rw[wae hc]at hn;rw[hn,(F.act hc).1];refine⟨by simp[a1],?_⟩;rw[List.getElem?_append_right (by omega),a1];simp
  ·rw[wad hc]at hn;obtain⟨b1,_,b3⟩:=F.nonact hc;rw[hn,b3,b1];exact⟨a1,a2⟩
theorem Run.hsLater (P:iZ C nt ops l ps ss)(R:Run call l ss st p v){i c:Nat}{x:AH}(h:(st i).hs[c]?=some x):∀m,i+m<=p->(st (i+m)).hs[c]?=some x
 |0,_=>h
 |m+1,hm=>by
  have ih:=Run.hsLater P R h m (by omega);obtain⟨ao,y,l1,l2,F⟩:=R.at P (i:=i+m) (by omega);show(st (i+m+1)).hs[c]?=some x;by_cases hc:ao.op.cls=.acts
  ·rw[(F.act hc).1,List.getElem?_append_left (wah.1 ih).1];exact ih
  ·rw[(F.nonact hc).2.2];exact ih
theorem Run.rds (P:iZ C nt ops l ps ss)(R:Run call l ss st p v){i:Nat}{x:Rd}(h:x∈(st i).rds):∀m,i+m<=p->x∈(st (i+m)).rds
 |0,_=>h
 |m+1,hm=>by
  obtain⟨ao,y,l1,l2,F⟩:=R.at P (i:=i+m) (by omega);exact F.rds x (Run.rds P R h m (by omega))
theorem WG {d:Option Nat}{tm tm':Tm}{a b:AV}(h:fC d tm a=fC d tm b):fC d tm' a=fC d tm' b:=by
 cases d with
 |none=>rfl
 |some d=>
  have:nth (fC (some d) tm a) d=nth (fC (some d) tm b) d:=by rw[h]
  rw[fa,fa,wae rfl,wae rfl]at this;rw[this]
theorem Run.rest (P:iZ C nt ops l ps ss)(R:Run call l ss st p v)(h0:(st 0).hs=[(st 0).h])(hok:rdsOk (st p).rds (st p).hs=true)(hS:kJ ops S){i j:Nat}{ao:aX}(hi:i<p)(hl:l[i]?=some ao)(hr:sc ops S i)
  (hc:ao.op.cls=.still∨ao.op.cls=.reads) (hj:j<=p) (hcount:cS ss S=na ss j) (cx:AC) :
  fA ao call ⟨jM (fh l) v (st 0).fr.tm S l.length,cx⟩ (st j).h=some (.normal,⟨fC ao.dst (jM (fh l) v (st 0).fr.tm S l.length) (v i),cx⟩,(st j).h):=by
 obtain⟨ao',x,h1,h2,F⟩:=R.at P hi;rw[hl]at h1;cases h1;have hrest:oX call ao (st i) (v i) (st j).h:=by
  rcases hc with hc|hc
  ·exact F.still hc _
  ·have hb:=P.count_le hS h2 hr;have hi2:i<ops.size:=by rw[<-P.len];exact(wah.1 hl).1
   have hb':=P.count_le (P.closed_lt i) h2 (P.ready_lt hi2);obtain⟨_,q2⟩:=R.hs P h0 j hj;have q3:=R.hsLater P q2 (p-j) (by omega);rw[show j+(p-j)=p by omega]at q3;refine WE F hc (fun y hy=>?_) hok q3 (by rw[<-hcount];exact hb.1) (by rw[<-hcount];exact hb.2) fun e=>?_
   ·have:=R.rds P (i:=i+1) hy (p-(i+1)) (by omega);rw[show i+1+(p-(i+1))=p by omega]at this;exact this
   ·refine(R.same' P hj (by omega) ?_).1;have:na ss i=cS ss fun k=>decide (k<i):=rfl
    omega
 have ha:=P.agree (v:=v) (tm0:=(st 0).fr.tm) hS hl hr;rw[<-R.tm P i (by omega)]at ha;obtain⟨u,q1,q2⟩:=mi (hrest cx);have q2:=q2 _ ha;have q1:fC ao.dst (st i).fr.tm (v i)=fC ao.dst (st i).fr.tm u:=q1;have q2:fA ao call ⟨jM (fh l) v (st 0).fr.tm S l.length,cx⟩ (st j).h=some (.normal,⟨fC ao.dst (jM (fh l) v (st 0).fr.tm S l.length) u,cx⟩,(st j).h):=q2;rw[q2,WG q1]
end
def nb:List aX->Nat->Nat
 |_,0=>0
 |[],_+1=>0
 |a::l,i+1=>(if a.op.cls=.born then 1 else 0)+nb l i
theorem uS:∀(l:List aX) (i:Nat) (a:aX),l[i]?=some a->nb l (i+1)=nb l i+if a.op.cls=.born then 1 else 0
 |[],i,a,h=>by simp at h
 |b::l,0,a,h=>by simp at h;subst h;simp[nb]
 |b::l,i+1,a,h=>by
  have:=uS l i a (by simpa using h);show _+nb l (i+1)=_+nb l i+_;rw[this];omega
theorem Iy (l:List aX){i:Nat}: ∀m,i+m<=l.length->nb l i<=nb l (i+m)
 |0,_=>Fv _
 |m+1,h=>by
  have:=Iy l (i:=i) m (by omega);have e:=uS l (i+m) (l[i+m]'(by omega)) (wO (by omega));rw[show i+(m+1)=i+m+1 by omega,e];omega
theorem VG (l:List aX){i j:Nat}{a:aX}(hij:i<j)(hj:j<=l.length)(hi:l[i]?=some a)(hc:a.op.cls=.born):nb l i<nb l j:=by
 have e:=uS l i a hi;rw[wae hc]at e;have:=Iy l (i:=i+1) (j-(i+1)) (by omega);rw[show i+1+(j-(i+1))=j by omega]at this;omega
section
variable {C:Cx}{g:Gh}{w:World}
theorem BG (p:aX×DI)(l:List (aX×DI))(h:AH):kI (p::l) h=kI l (birth p.1.op h):=rfl
theorem Ey {op:AOp}{z:List AV}(e:op=.new z)(h:AH):birth op h=h.new (.box z):=by subst e;rfl
theorem Pa {op:AOp}(e:op.cls≠.born)(h:AH):birth op h=h:=by
 cases op<;>first|rfl|exact absurd rfl e
theorem pz:∀(L:List (aX×DI)) {U:Nat->Option (List AV)} {h:AH},Sim C g U h w->
  ∃U',Sim C g U' (kI L h) w/\(∀k,k<h.z->U' k=U k)/\Low h (kI L h)/\(kI L h).z=h.z+nb (L.map (·.1)) L.length/\
   ∀i ao z,(L.map (·.1))[i]?=some ao->ao.op=.new z->U' (h.z+nb (L.map (·.1)) i)=some z
 |[],U,h,s=>⟨U,s,fun _ _=>rfl,.refl _,rfl,fun i ao z hi=>by simp at hi⟩
 |(a,d)::L,U,h,s=>by
  rw[BG];by_cases hc:a.op.cls=.born
  ·obtain⟨z,hz⟩:=CW hc;have s1:=s.promise z;rw[Ey hz];obtain⟨U',b1,b2,b3,b4,b5⟩:=pz L s1;rw[AH.ci]at b2 b4 b5;refine⟨U',b1,fun k hk=>?_,(Low.new _ _).trans b3,?_,fun i ao z' hi hao=>?_⟩
   ·rw[b2 k (by omega)];simp[show k≠h.z by omega]
   ·rw[b4];show _=h.z+((if a.op.cls=.born then 1 else 0)+nb (L.map (·.1)) L.length);rw[wae hc];omega
   ·cases i with
    |zero=>
     simp at hi;subst hi;rw[hz]at hao;cases hao;show U' (h.z+0)=_;rw[Nat.add_zero,b2 h.z (by omega)];simp
    |succ i=>
     have:=b5 i ao z' (by simpa using hi) hao;show U' (h.z+((if a.op.cls=.born then 1 else 0)+nb (L.map (·.1)) i))=_;rw[wae hc,<-Nat.add_assoc];exact this
  ·rw[Pa hc];obtain⟨U',b1,b2,b3,b4,b5⟩:=pz L s;refine⟨U',b1,b2,b3,?_,fun i ao z' hi hao=>?_⟩
   ·rw[b4];show _=h.z+((if a.op.cls=.born then 1 else 0)+nb (L.map (·.1)) L.length);rw[wad hc];omega
   ·cases i with
    |zero=>
     simp at hi;subst hi;rw[hao]at hc;exact absurd rfl hc
    |succ i=>
     have:=b5 i ao z' (by simpa using hi) hao;show U' (h.z+((if a.op.cls=.born then 1 else 0)+nb (L.map (·.1)) i))=_;rw[wad hc,wac];exact this
end
def Wb (T:Tr TypeInfo)(op:Op)(a:AOp):Prop:=∀z,a=.new z->∃t zv,op=.alloc t/\jS T t=some zv/\z=zv.cells
theorem db {T:Tr TypeInfo}{op:Op}{a:AOp}(h:∀z,a≠.new z):Wb T op a:=fun z e=>absurd e (h z)
theorem yS (b:Builtin)(T:Tr TypeInfo)(tys:Array TypeId)(l:List AX)(op:Op):Okd (Wb T op) (ru b T tys l):=by
 cases b<;>first
  |exact .none
  |exact .some (db (by simp))
  |(refine Okd.bind fun _=>?_;refine Okd.bind fun _=>?_;refine Okd.bind fun _=>?_;exact .some (db (by simp)))
  |(refine Okd.bind fun _=>?_;refine Okd.bind fun _=>?_;refine Okd.bind fun _=>?_;refine Okd.bind fun _=>?_;refine Okd.bind fun _=>?_;refine Okd.cond ?_;exact .some (db (by simp)))
  |(refine Okd.bind fun _=>?_;refine Okd.bind fun _=>?_;refine Okd.bind fun _=>?_;refine Okd.cond ?_;exact .some (db (by simp)))
theorem Yr (op:Op)(P:Program)(T:Tr TypeInfo)(keep:TypeId->Bool):Okd (Wb T op) (cOp op P T keep):=by
 cases op with
 |move x=>exact Okd.bind fun _=>.some (db (by simp))
 |assign x=>exact Okd.bind fun _=>.some (db (by simp))
 |pick a b c=>exact Okd.bind fun _=>.bind fun _=>.bind fun _=>.some (db (by simp))
 |alloc t=>
  intro a e;obtain⟨z,h1,e⟩:=ah (show aq (jS T t) _=_ from e);cases e;intro z' e';cases e';exact⟨t,z,rfl,h1,rfl⟩
 |box t x=>exact Okd.bind fun _=>.bind fun _=>.some (db (by simp))
 |build t ps=>
  refine Okd.bind fun _=>.bind fun d=>?_
  cases d<;>first|exact .none|exact Okd.bind fun _=>.bind fun _=>.some (db (by simp))
 |buildSlice t n ps=>exact Okd.bind fun _=>.bind fun _=>.bind fun _=>.bind fun _=>.cond (.some (db (by simp)))
 |load t x=>exact Okd.bind fun _=>.bind fun _=>.cond (.some (db (by simp)))
 |store t a x=>exact Okd.bind fun _=>.bind fun _=>.bind fun _=>.some (db (by simp))
 |nilCheck x=>exact Okd.bind fun _=>.some (db (by simp))
 |binOp op t x y t'=>exact Okd.bind fun _=>.bind fun _=>.bind fun _=>.some (db (by simp))
 |unOp op t x=>exact Okd.bind fun _=>.some (db (by simp))
 |convert t t' x=>
  refine Okd.bind fun d=>.bind fun d'=>.bind fun _=>?_
  cases d with
  |int k=>exact Okd.bind fun _=>.some (db (by simp))
  |string=>cases d'<;>first|exact .none|exact .some (db (by simp))
  |_=>exact .none
 |makeInterface t x=>exact Okd.bind fun _=>.cond' (.bind fun _=>.some (db (by simp)))
 |makeFunc f a b=>cases f<;>first|exact .none|exact Okd.bind fun _=>.bind fun _=>.some (db (by simp))
 |makeMap t r=>cases r with
  |none=>exact .some (db (by simp))
  |some r=>exact .none
 |makeSlice t l c=>exact Okd.bind fun _=>.bind fun _=>.bind fun _=>.bind fun _=>.bind fun _=>.bind fun _=>.cond (.some (db (by simp)))
 |slice t x lo hi mx=>
  refine Okd.bind fun _=>.bind fun _=>.bind fun _=>.bind fun mx=>.bind fun d=>?_
  cases d with
  |slice e=>exact Okd.bind fun _=>.cond (.some (db (by simp)))
  |string=>cases mx with
   |none=>exact .some (db (by simp))
   |some m=>exact .none
  |_=>exact .none
 |fieldAddr t x f=>exact Okd.bind fun _=>.bind fun _=>.some (db (by simp))
 |field t x f=>exact Okd.bind fun _=>.bind fun _=>.some (db (by simp))
 |indexAddr t x i=>
  refine Okd.bind fun _=>.bind fun _=>.bind fun d=>?_
  cases d<;>first|exact .none|exact Okd.bind fun _=>.some (db (by simp))
 |index t x i=>
  refine Okd.bind fun _=>.bind fun _=>.bind fun d=>?_
  cases d<;>first|exact .none|exact .some (db (by simp))|exact Okd.bind fun _=>.some (db (by simp))
 |lookup t x i ok=>exact Okd.bind fun _=>.bind fun _=>.bind fun _=>.bind fun _=>.some (db (by simp))
 |mapUpdate t m k v=>exact Okd.bind fun _=>.bind fun _=>.bind fun _=>.bind fun _=>.some (db (by simp))
 |typeAssert x t t' ok=>exact Okd.bind fun _=>.cond' (.bind fun _=>.bind fun _=>.some (db (by simp)))
 |extract x i=>exact Okd.bind fun _=>.some (db (by simp))
 |call c=>
  obtain⟨cc,args,tys⟩:=c;refine Okd.bind fun l=>?_
  cases cc with
  |value f=>exact Okd.bind fun _=>.some (db (by simp))
  |invoke a b=>exact .none
  |builtin b=>exact yS b T tys l _
 |defer c=>
  obtain⟨cc,args,tys⟩:=c;refine Okd.bind fun l=>?_
  cases cc with
  |value f=>exact Okd.bind fun _=>.some (db (by simp))
  |_=>exact .none
 |panic x=>exact Okd.bind fun _=>.some (db (by simp))
 |_=>exact .none
theorem eQ.congr {g:Gh}{tm tm':Tm}{tmps:Array Value}(h:eQ g tm tmps)(e:∀t,nth tm' t=nth tm t):eQ g tm' tmps:=fun i=>by rw[e i];exact h i
theorem La (p:aX×DI)(l:List (aX×DI))(tm:Tm):BS (p::l) tm=BS l (fC p.1.dst tm .any):=rfl
theorem hide_nth:∀(L:List (aX×DI)) (tm:Tm) (t:Nat),nth (BS L tm) t=.any∨(nth (BS L tm) t=nth tm t/\∀p∈L,p.1.dst≠some t)
 |[],tm,t=>.inr ⟨rfl,fun p hp=>by simp at hp⟩
 |p::L,tm,t=>by
  rw[La];rcases hide_nth L (fC p.1.dst tm .any) t with h|⟨h,h'⟩
  ·exact .inl h
  ·by_cases hd:p.1.dst=some t
   ·left;rw[h,fa,wae hd]
   ·right;rw[h,fa,wad hd];exact⟨rfl,fun q hq=>by
     cases hq with
     |head=>exact hd
     |tail _ hq=>exact h' q hq⟩
theorem oi {dst:Nat->Option Nat}{v:Nat->AV}{tm0:Tm}{S:Nat->Bool}{t:Nat}(h:∀i,dst i≠some t):∀m,nth (jM dst v tm0 S m) t=nth tm0 t
 |0=>rfl
 |m+1=>by
  rw[eR];cases S m with
  |true=>rw[wae rfl,fa,wad (h m)];exact oi h m
  |false=>rw[wad (by simp)];exact oi h m
theorem BW {dst:Nat->Option Nat}{v:Nat->AV}{tm0:Tm}{S:Nat->Bool}: ∀m,(∀i,i<m->S i=true)->jM dst v tm0 S m=jM dst v tm0 (fun _=>true) m
 |0,_=>rfl
 |m+1,h=>by rw[eR,eR,wae (h m (by omega)),wae rfl,BW m fun i hi=>h i (by omega)]
structure Inv (C:Cx)(nt:Nat)(l:List aX)(ss:List OS)(st:Nat->DS)(p:Nat)(v:Nat->AV)(b:Frame)(K:KK)(g0:Gh)(U0:Nat->Option (List AV))(h0:AH)(S:Nat->Bool)
  (j:Nat) (g:Gh) (U:Nat->Option (List AV)) (w:World) (tmps:Array Value) (ds:List Deferred):Prop where
 hj:j<=p
 count:cS ss S=na ss j
 sim:Sim C g U (st j).h w
 fr:FR g b K nt ⟨jM (fh l) v (st 0).fr.tm S l.length,(st j).fr.cx⟩ tmps ds
 ext:Ext g0 g
 low0:Low h0 (st j).h
 low:Low (st 0).h (st j).h
 old:∀k,k<h0.z->U k=U0 k
 kept:∀i ao z,l[i]?=some ao->ao.op=.new z->S i=false->U (h0.z+nb l i)=some z
section
variable {C:Cx}{nt:Nat}{ops:Array Oper}{l:List aX}{ps:List Nat}{ss:List OS}{S:Nat->Bool}{call:aG}{st:Nat->DS}{p:Nat}{v:Nat->AV}{b:Frame}{K:KK}{k:List Item}{g0:Gh}
 {U0:Nat->Option (List AV)} {h0:AH}
theorem Run.nk (P:iZ C nt ops l ps ss)(R:Run call l ss st p v):∀i,i<=p->(st i).nk=(st 0).nk+nb l i
 |0,_=>by simp[nb]
 |i+1,hi=>by
  obtain⟨ao,x,h1,h2,F⟩:=R.at P (i:=i) (by omega);rw[uS l i ao h1];by_cases hc:ao.op.cls=.born
  ·rw[wae hc,(F.born hc).2,Run.nk P R i (by omega)];omega
  ·rw[wad hc,F.nk hc,Run.nk P R i (by omega)];omega
theorem Ox (hcall:bM C call)(P:iZ C nt ops l ps ss)(R:Run call l ss st p v)(hhs:(st 0).hs=[(st 0).h])(hok:rdsOk (st p).rds (st p).hs=true)(hnk:(st 0).nk=h0.z)
  (hnx:(st 0).h.z=h0.z+nb l l.length)
  (hS:kJ ops S) {i:Nat} (hi:i<p) (hr:sc ops S i) {is:List Nat} {j:Nat} {g:Gh} {U:Nat->Option (List AV)} {w:World} {tmps:Array Value} {ds:List Deferred} (I:Inv C nt l ss st p v b K g0 U0 h0 S j g U w tmps ds) :
  ∃j' g' U' w' tmps' ds',Inv C nt l ss st p v b K g0 U0 h0 (jN S i) j' g' U' w' tmps' ds'/\
   Steps C.P (lone (stF b tmps ds (.inRegion ops (i::is)::k)) (eX K (st j).fr.cx.rc) w) (lone (stF b tmps' ds' (.inRegion ops is::k)) (eX K (st j').fr.cx.rc) w'):=by
 have hil:i<l.length:=Nat.lt_of_lt_of_le hi R.le;obtain⟨ao,x,hl,hx,F⟩:=R.at P hi;have hr':=hr;obtain⟨hni,o,ho,hd⟩:=hr;have hco:=P.op i o ao ho hl;have hadd:=TO P hl hni;have putc:∀t,nth (jM (fh l) v (st 0).fr.tm (jN S i) l.length) t=nth (fC ao.dst (jM (fh l) v (st 0).fr.tm S l.length) (v i)) t:=P.put hS hl hr'
 by_cases hc:ao.op.cls=.born
 ·obtain⟨z,hz⟩:=CW hc;obtain⟨t,zv,hop,hzt,hzc⟩:=Yr o.op C.P C.T C.kw ao.op hco.hop z hz;have hg:=P.born i ao hl hc;have hog:o.guard=none:=by
   rcases hco.hg with⟨h1,_⟩|⟨_,_,_,_,_,_,_,h4⟩
   ·exact h1
   ·rw[hg]at h4;cases h4
  have hw:Region.wanted o (yielded ops tmps)=true:=by simp[Region.wanted,hog]
  obtain⟨ti,zz,hti,hzz,hrz,_,hca,_⟩:=iM g hzt;have hlz:zv.lies=true:=lJ hca;have hU:U (h0.z+nb l i)=some z:=I.kept i ao z hl hz hni;obtain⟨x1,s1⟩:=I.sim.birth hU zz.cells t (by rw[hzc];exact hrz.cells hlz) (by rw[hzc];exact hca);have hrun:(execOp (gt tmps) o).run C.P w=.ok (.value (.pointer (some ⟨w.heap.size,0,none⟩))) (w.alloc (.cells zz.cells t (0,0))):=by
   simp[execOp,hop,Instr.alloc,dt hti hzz,newVar,newRow]
  have hvi:v i=.ptr (h0.z+nb l i) 0 0:=by rw[(F.born hc).1,R.nk P i (by omega),hnk]
  have hnd:∀c2,o.op≠.defer c2:=fun c2 q=>by rw[hop]at q;cases q
  refine⟨j,_,_,_,qy o.dst tmps (.pointer (some ⟨w.heap.size,0,none⟩)),ds,⟨I.hj,?_,s1,?_,I.ext.trans x1,I.low0,I.low,?_,?_⟩,.one (BY ho hw (.inl hnd) (.inl hrun))⟩
  ·rw[hadd,wad (by rw[hc];simp)];exact I.count
  ·have f1:=(I.fr.mono x1).put (d:=o.dst) (v:=v i) (u:=.pointer (some ⟨w.heap.size,0,none⟩)) hco.hok (by rw[hvi];exact .ptr (l:=⟨w.heap.size,0,0,0⟩) (Gh.at_same _ _ _ _));refine⟨?_,f1.hd,f1.hr,f1.hn,f1.hf,f1.ho⟩;refine eQ.congr f1.ht fun t=>?_
   rw[wF,<-hco.hdst];exact putc t
  ·intro kk hkk;show(if kk=h0.z+nb l i then none else U kk)=U0 kk;rw[wad (by omega)];exact I.old kk hkk
  ·intro i' ao' z' hl' hz' hS';have hne:i'≠i:=fun q=>by rw[q]at hS';simp[jN]at hS'
   have hS'':S i'=false:=by simpa [jN,hne] using hS'
   have hb':ao'.op.cls=.born:=by rw[hz'];rfl
   have hil':i'<l.length:=(wah.1 hl').1;have hkey:h0.z+nb l i'≠h0.z+nb l i:=by
    rcases Nat.lt_or_gt_of_ne hne with q|q
    ·have:=VG l q (by omega) hl' hb';omega
    ·have:=VG l q (by omega) hl hc;omega
   show(if h0.z+nb l i'=h0.z+nb l i then none else U _)=_;rw[wad hkey];exact I.kept i' ao' z' hl' hz' hS''
 ·have key:∃j' ,j'<=p/\cS ss (jN S i)=na ss j'/\
    fA ao call ⟨jM (fh l) v (st 0).fr.tm S l.length,(st j).fr.cx⟩ (st j).h=some (.normal,⟨fC ao.dst (jM (fh l) v (st 0).fr.tm S l.length) (v i),(st j').fr.cx⟩,(st j').h):=by
   by_cases ha:ao.op.cls=.acts
   ·have hcnt:=P.count_act hS hl ha hr';obtain⟨e1,e2⟩:=R.same' P I.hj (show i<=p by omega) (I.count.symm.trans hcnt);refine⟨i+1,by omega,?_,?_⟩
    ·rw[hadd,wae ha,zp P hl,wae ha,hcnt]
    ·rw[e1,e2];have hag:=P.agree (v:=v) (tm0:=(st 0).fr.tm) hS hl hr';rw[<-R.tm P i (by omega)]at hag;exact(F.act ha).2 _ hag
   ·refine⟨j,I.hj,by rw[hadd,wad ha];exact I.count,?_⟩;exact R.rest P hhs hok hS hi hl hr' (by cases hcl:ao.op.cls<;>simp_all) I.hj I.count _
  obtain⟨j',hj',hcnt',hev⟩:=key;obtain⟨G,_⟩:=qO (k:=k) (is:=is) hcall ho hco hev I.sim I.fr;obtain⟨g1,U1,w1,t1,d1,x1,u1,s1,l1,f1,o1⟩:=G;refine⟨j',g1,U1,w1,t1,d1,⟨hj',hcnt',s1,⟨eQ.congr f1.ht putc,f1.hd,f1.hr,f1.hn,f1.hf,f1.ho⟩,I.ext.trans x1,I.low0.trans l1,I.low.trans l1,?_,?_⟩,o1⟩
  ·intro kk hkk;rw[u1.kw kk (Nat.lt_of_lt_of_le hkk I.low0.z)];exact I.old kk hkk
  ·intro i' ao' z' hl' hz' hS';have hne:i'≠i:=fun q=>by rw[q]at hS';simp[jN]at hS'
   have hS'':S i'=false:=by simpa [jN,hne] using hS'
   have hb':ao'.op.cls=.born:=by rw[hz'];rfl
   have hil':i'<l.length:=(wah.1 hl').1;have hlt:h0.z+nb l i'<(st j).h.z:=by
    have h1:=VG l hil' (Fv _) hl' hb';have h2:=I.low.z;omega
   rw[u1.kw _ hlt];exact I.kept i' ao' z' hl' hz' hS''
def pT (f:Nat->Bool):Nat->Nat
 |0=>0
 |n+1=>pT f n+if f n then 1 else 0
theorem Ct (f:Nat->Bool):∀n,pT f n<=n
 |0=>Fv _
 |n+1=>by have:=Ct f n;unfold pT;split<;>omega
theorem um {f:Nat->Bool}: ∀n,n<=pT f n->∀i,i<n->f i=true
 |0,_,i,hi=>by omega
 |n+1,h,i,hi=>by
  have h1:=Ct f n;unfold pT at h;cases hf:f n with
  |false=>rw[hf]at h;simp at h;omega
  |true=>
   rw[hf]at h;simp at h;by_cases e:i=n
   ·subst e;exact hf
   ·exact um n h i (by omega)
theorem xI {f:Nat->Bool}{i:Nat}(hf:f i=false):∀n,pT (jN f i) n=pT f n+if i<n then 1 else 0
 |0=>rfl
 |n+1=>by
  unfold pT;rw[xI hf n];by_cases e:n=i
  ·subst e;simp[jN,hf]
  ·have:jN f i n=f n:=by simp[jN,e]
   rw[this];by_cases h:i<n
   ·rw[wae h,wae (show i<n+1 by omega)];omega
   ·rw[wad h,wad (show ¬i<n+1 by omega)];rfl
theorem first_not {f:Nat->Bool}: ∀n,(∀i,i<n->f i=true)∨∃i,i<n/\f i=false/\∀j,j<i->f j=true
 |0=>.inl fun i hi=>by omega
 |n+1=>by
  rcases first_not (f:=f) n with h|⟨i,h1,h2,h3⟩
  ·cases hf:f n with
   |true=>
    refine .inl fun i hi=>?_
    by_cases e:i=n
    ·subst e;exact hf
    ·exact h i (by omega)
   |false=>exact .inr ⟨n,by omega,hf,h⟩
  ·exact .inr ⟨i,by omega,h2,h3⟩
def iF (listed:Array Bool):Nat->Bool:=fun i=>listed.getD i false
theorem ou {listed:Array Bool}{i:Nat}(hi:i<listed.size):iF (listed.setIfInBounds i true)=jN (iF listed) i:=by
 funext j;unfold iF jN;by_cases h:j=i
 ·subst h;simp[hi]
 ·have h':¬i=j:=fun q=>h q.symm
  simp[Array.getD_eq_getD_getElem?,h,h']
theorem IC {o:Oper}{j:Nat}: j∈eA o↔∃e∈o.after,Region.binds .any e=true/\e.on=j:=by
 unfold eA;simp only[List.mem_map,List.mem_filter,Array.mem_toList_iff];constructor
 ·rintro⟨e,⟨h1,h2⟩,h3⟩;exact⟨e,h1,h2,h3⟩
 ·rintro⟨e,h1,h2,h3⟩;exact⟨e,⟨h1,h2⟩,h3⟩
theorem xB {listed:Array Bool}(hsz:listed.size=ops.size){i:Nat}: i∈Region.ready .any ops listed↔sc ops (iF listed) i:=by
 rw[mem_ready];constructor
 ·rintro⟨h1,o,h2,h3⟩;have hi:i<ops.size:=(Array.getElem?_eq_some_iff.1 h2).1;refine⟨?_,o,h2,fun j hj=>?_⟩
  ·have hi':i<listed.size:=by omega
   unfold iF;simp[Array.getD_eq_getD_getElem?,hi']at h1 ⊢;exact h1
  ·obtain⟨e,he,hb,rfl⟩:=IC.1 hj;exact h3 e he hb
 ·rintro⟨h1,o,h2,h3⟩;have hi:i<ops.size:=(Array.getElem?_eq_some_iff.1 h2).1;refine⟨?_,o,h2,fun e he hb=>h3 _ (IC.2 ⟨e,he,hb,rfl⟩)⟩;have hi':i<listed.size:=by omega
  unfold iF at h1;simp[Array.getD_eq_getD_getElem?,hi']at h1 ⊢;exact h1
end
section
variable {C:Cx}{nt:Nat}{ops:Array Oper}{l:List aX}{ps:List Nat}{ss:List OS}{call:aG}{st:Nat->DS}{p:Nat}{v:Nat->AV}{b:Frame}{K:KK}{k:List Item}{g0:Gh}
 {U0:Nat->Option (List AV)} {h0:AH}
theorem XE (fuel t:Nat)(listed:Array Bool):Region.linearise.go .any ops (fuel+1) t listed []=match (Region.ready .any ops listed)[t % (Region.ready .any ops listed).length]? with
  |some i=>i::Region.linearise.go .any ops fuel (t / (Region.ready .any ops listed).length) (listed.setIfInBounds i true) []
  |none=>[]:=by
 show(match (Region.ready .any ops listed)[t % (Region.ready .any ops listed).length]? with
  |some i=>Region.linearise.go .any ops fuel (t / (Region.ready .any ops listed).length) (listed.setIfInBounds i true) [i]
  |none=>[].reverse)=_
 cases (Region.ready .any ops listed)[t % (Region.ready .any ops listed).length]? with
 |none=>rfl
 |some i=>show Region.linearise.go .any ops fuel _ _ [i]=_;rw[linearise_go_acc];rfl
def Ends (call:aG)(all:List (aX×DI))(l:List aX)(ss:List OS)(st:Nat->DS)(p:Nat)(r:AEx×AF×AH):Prop:=
 (p=l.length/\r=(.normal,(st p).fr,(st p).h))∨
 ∃ao x vv fr h,l[p]?=some ao/\ss[p]?=some x/\ao.op.cls=.acts/\fA ao call (st p).fr (st p).h=some (.panic vv,fr,h)/\(Fy ss p x).fin=true/\r=(.panic vv,⟨BS all fr.tm,fr.cx⟩,h)
theorem Lp (hcall:bM C call)(P:iZ C nt ops l ps ss)(R:Run call l ss st p v)(hhs:(st 0).hs=[(st 0).h])(hok:rdsOk (st p).rds (st p).hs=true)(hnk:(st 0).nk=h0.z)
  (hnx:(st 0).h.z=h0.z+nb l l.length) {all:List (aX×DI)} (hall:all.map (·.1)=l) {e:AEx} {fr':AF} {h':AH} (E:Ends call all l ss st p (e,fr',h')) :
  ∀(fuel t:Nat) (listed:Array Bool),listed.size=ops.size->kJ ops (iF listed)->(∀i,i<l.length->p<=i->iF listed i=false)->ops.size<=fuel+pT (iF listed) ops.size->
  ∀{j:Nat} {g:Gh} {U:Nat->Option (List AV)} {w:World} {tmps:Array Value} {ds:List Deferred},Inv C nt l ss st p v b K g0 U0 h0 (iF listed) j g U w tmps ds->
  gE C b K nt k (lone (stF b tmps ds (.inRegion ops (Region.linearise.go .any ops fuel t listed [])::k)) (eX K (st j).fr.cx.rc) w) g0 U0 h0 e fr' h':=by
 have done:∀(listed:Array Bool),(∀i,i<l.length->p<=i->iF listed i=false)->(∀i,i<ops.size->iF listed i=true)->
   ∀{j:Nat} {g:Gh} {U:Nat->Option (List AV)} {w:World} {tmps:Array Value} {ds:List Deferred},Inv C nt l ss st p v b K g0 U0 h0 (iF listed) j g U w tmps ds->
   gE C b K nt k (lone (stF b tmps ds (.inRegion ops []::k)) (eX K (st j).fr.cx.rc) w) g0 U0 h0 e fr' h':=by
  intro listed hp hfull j g U w tmps ds I;have hpl:p=l.length:=by
   rcases Nat.lt_or_ge p l.length with h|h
   ·have:=hp p h (Fv _);rw[hfull p (by rw[<-P.len];exact h)]at this;cases this
   ·exact Nat.le_antisymm R.le h
  rcases E with⟨_,hr⟩|⟨ao,x,vv,fr,hh,h1,_⟩
  ·cases hr;have hna:cS ss (iF listed)=na ss p:=by
    refine rq P fun i ao hi _=>?_
    have hil:i<l.length:=(wah.1 hi).1;rw[hfull i (by rw[<-P.len];exact hil)];simp;omega
   obtain⟨e1,e2⟩:=R.same' P I.hj (Fv p) (I.count.symm.trans hna);have htm:jM (fh l) v (st 0).fr.tm (iF listed) l.length=(st p).fr.tm:=by
    rw[R.tm P p (Fv _),hpl];exact BW _ fun i hi=>hfull i (by rw[<-P.len];exact hi)
   have hfr:(⟨jM (fh l) v (st 0).fr.tm (iF listed) l.length,(st j).fr.cx⟩:AF)=(st p).fr:=by rw[htm,e2]
   have F:=I.fr;rw[hfr]at F;have s:=I.sim;rw[e1]at s;have lo:=I.low0;rw[e1]at lo;refine⟨g,U,w,tmps,ds,I.ext,⟨I.old⟩,s,lo,F,?_⟩;rw[e2];exact .one pZ
  ·rw[hpl,List.getElem?_eq_none (Fv _)]at h1;cases h1
 intro fuel;induction fuel with
 |zero=>
  intro t listed hsz hS hp hn j g U w tmps ds I;exact done listed hp (um _ (by simpa using hn)) I
 |succ fuel ih=>
  intro t listed hsz hS hp hn j g U w tmps ds I;rw[XE];cases hi:(Region.ready .any ops listed)[t % (Region.ready .any ops listed).length]? with
  |none=>
   have hempty:Region.ready .any ops listed=[]:=by
    cases hq:Region.ready .any ops listed with
    |nil=>rfl
    |cons a m=>
     rw[hq]at hi;have:t % (a::m).length<(a::m).length:=Nat.mod_lt _ (by simp);rw[wO this]at hi;cases hi
   refine done listed hp ?_ I;rcases first_not (f:=iF listed) ops.size with h|⟨i,h1,h2,h3⟩
   ·exact h
   ·have:i∈Region.ready .any ops listed:=(xB hsz).2 ⟨h2,ops[i],Array.getElem?_eq_getElem h1,fun m hm=>h3 m (P.pres.back i _ (by simp) m hm)⟩;rw[hempty]at this;cases this
  |some i=>
   have hr:sc ops (iF listed) i:=(xB hsz).1 (wS hi);have hio:i<ops.size:=by obtain⟨_,o,ho,_⟩:=hr;exact(Array.getElem?_eq_some_iff.1 ho).1
   have hil:i<l.length:=by rw[P.len];exact hio
   show gE C b K nt k (lone (stF b tmps ds (.inRegion ops (i::Region.linearise.go .any ops fuel (t / (Region.ready .any ops listed).length) (listed.setIfInBounds i true) [])::k)) (eX K (st j).fr.cx.rc) w) g0 U0 h0 e fr' h';generalize hgo:Region.linearise.go .any ops fuel (t / (Region.ready .any ops listed).length) (listed.setIfInBounds i true) []=is;rcases Nat.lt_or_ge i p with hip|hip
   ·obtain⟨j',g',U',w',tmps',ds',I',stp⟩:=Ox (k:=k) (is:=is) hcall P R hhs hok hnk hnx hS hip hr I;rw[<-ou (by omega)]at I';have hS':=iZ.add_closed hS hr;rw[<-ou (by omega)]at hS';rw[<-hgo]at stp ⊢;refine gE.of_steps stp (ih _ _ (by simpa using hsz) hS' (fun m hm hpm=>?_) ?_ I')
    ·rw[ou (by omega)];simp only[jN];rw[wad (by omega)];exact hp m hm hpm
    ·rw[ou (by omega),xI hr.1,wae hio];omega
   ·rcases E with⟨hpl,_⟩|⟨ao,x,vv,fr,hh,h1,h2,hact,hev,hfin,hres⟩
    ·omega
    ·have hip':i=p:=by
      rcases Nat.lt_or_eq_of_le hip with hlt|heq
      ·exfalso;obtain⟨ai,pi,k1,k2,k3⟩:=P.sum i (ss[i]'(by rw[P.slen];exact hil)) (wO _);have hf:=yk ss 0 hfin i _ (wO (by rw[P.slen];exact hil));simp only[wac,Bool.or_eq_true]at hf;rcases hf with hf|hf
       ·have:=eG hf;omega
       ·have hbf:mn ps p i:=by
         unfold mn;rw[k2,<-uZ];rw[k3]at hf;exact hf
        obtain⟨_,o,ho,hd⟩:=hr;have:=P.pre hS ho hd hbf;rw[hp p (by omega) (Fv _)]at this;cases this
      ·exact heq.symm
     subst hip';cases hres;have hcnt:=P.count_act hS h1 hact hr;obtain⟨e1,e2⟩:=R.same' P I.hj (Fv i) (I.count.symm.trans hcnt);have hag:=P.agree (v:=v) (tm0:=(st 0).fr.tm) hS h1 hr;rw[<-R.tm P i (Fv _)]at hag;obtain⟨u,q1,q2⟩:=mi (tm:=(st i).fr.tm) (cx:=(st i).fr.cx) hev;have q2:=q2 _ hag;have q1:fr.tm=(st i).fr.tm:=q1;rw[<-e1,<-e2]at q2;obtain⟨_,o,ho,hd⟩:=hr;obtain⟨G,_⟩:=qO (k:=k) (is:=is) hcall ho (P.op i o ao ho h1) q2 I.sim I.fr;have G:=gE.pass (x:=[.inRegion ops is]) G (fun id=>by simp[exitTo]) (by simp);obtain⟨g1,U1,w1,t1,d1,x1,u1,s1,l1,f1,o1⟩:=G;refine⟨g1,U1,w1,t1,d1,I.ext.trans x1,⟨fun kk hk=>?_⟩,s1,I.low0.trans l1,⟨?_,f1.hd,f1.hr,f1.hn,f1.hf,f1.ho⟩,o1⟩
     ·rw[u1.kw kk (Nat.lt_of_lt_of_le hk I.low0.z)];exact I.old kk hk
     ·intro t;rcases hide_nth all fr.tm t with hh|⟨hh,hno⟩
      ·rw[hh];exact .any _
      ·rw[hh,q1,R.tm P i (Fv _)];have hno':∀m,fh l m≠some t:=by
        intro m;unfold fh;cases hm:l[m]? with
        |none=>simp
        |some a=>
         rw[<-hall]at hm;obtain⟨pp,hp1,hp2⟩:=List.mem_map.1 (wS hm);have:=hno pp hp1;rw[hp2]at this;exact this
       have:=f1.ht t;have e5:nth (jM (fh l) v (st 0).fr.tm (iF listed) l.length) t=nth (st 0).fr.tm t:=oi hno' _;have this:bu g1 (nth (jM (fh l) v (st 0).fr.tm (iF listed) l.length) t) (t1.getD t undef):=this;rw[e5]at this;rw[oi hno'];exact this
theorem Wm {P:Program}{id:Nat}{tmps:Array Value}{ds:List Deferred}{cs:List Frame}{w:World}(hm:P.follows .mixedOrders=true):
  ∃t w',(w'=w∨w'=w.drew)/\step P (lone (stF b tmps ds (.code (.region id ops true)::k)) cs w)=.next (lone (stF b tmps ds (.inRegion ops (Region.linearise .any ops t)::k)) cs w'):=by
 by_cases hf:(Question.order b.fn id).forced
 ·refine⟨0,w,.inl rfl,step_lone_go ?_⟩;simp[stepG,stepG.exec,stF,hf,Region.schedule,hm]
 ·refine⟨_,w.drew,.inr rfl,step_lone_go (fr':=stF b tmps ds (.inRegion ops (Region.linearise .any ops ((Question.order b.fn id).cut (w.tape w.drawn (Question.order b.fn id))))::k)) ?_⟩;simp[stepG,stepG.exec,stF,hf,Region.schedule,hm]
theorem zM (hcall:bM C call):wV C call:=by
 intro nt id ops l ac hc hd n fr h e fr' h' q g U w b K k tmps ds s f;obtain⟨ps,hp,hd⟩:=ah (show aq (kW ops.toList 0 []) _=_ from hd);obtain⟨hpb,hd⟩:=aH hd;simp only[Bool.and_eq_true]at hpb;cases hd;have P:=WK hc hp hpb.1 hpb.2;obtain⟨L,hL⟩:∃L,L=qC (tV l ps) l 0 (tV l ps):=⟨_,rfl⟩
 have q:ji L call L (xd L fr h)=some (e,fr',h'):=by rw[hL];exact q
 obtain⟨w1,w2⟩:=oY (tV l ps) l 0 (tV l ps) P.slen;have hmap:L.map (·.1)=l:=by
  apply List.ext_getElem?;intro i;rw[List.getElem?_map,hL];rcases Nat.lt_or_ge i l.length with hi|hi
  ·have h1:l[i]?=some l[i]:=wO hi;obtain⟨x,pp,h2,_,_⟩:=P.ss_get h1;rw[w2 i _ x h1 h2,h1];rfl
  ·rw[List.getElem?_eq_none (by omega),List.getElem?_eq_none hi];rfl
 obtain⟨st,p,DR⟩:=CR L q;rw[hL]at DR;obtain⟨v,R⟩:=ac6 P DR;rw[<-hL]at DR;have h0:=DR.start;obtain⟨t,w',hw',hst⟩:=Wm (P:=C.P) (b:=b) (ops:=ops) (id:=id) (tmps:=tmps) (ds:=ds) (k:=k) (cs:=eX K fr.cx.rc) (w:=w) C.mixed;have s':Sim C g U h w':=by
  rcases hw' with rfl|rfl
  ·exact s
  ·exact s.drew
 obtain⟨U1,b1,b2,b3,b4,b5⟩:=pz (C:=C) L s';rw[hmap]at b4 b5;have hlen:L.length=l.length:=by rw[<-hmap];simp
 have hfin:rdsOk (st p).rds (st p).hs=true/\Ends call L l (tV l ps) st p (e,fr',h'):=by
  rcases DR.fin with⟨h1,h2⟩|⟨o,d,h1,hcl,vv,fr2,h2,h3,h4⟩
  ·obtain⟨h3,h4⟩:=aH (show cond (rdsOk (st p).rds (st p).hs) _ none=_ from h2);cases h4;exact⟨h3,.inl ⟨by omega,rfl⟩⟩
  ·obtain⟨h5,h6⟩:=aH (show cond (and d.fin (rdsOk (st p).rds (st p).hs)) _ none=_ from h4);obtain⟨h7,h8⟩:=dd h5;cases h6;have hlp:l[p]?=some o:=by rw[<-hmap,List.getElem?_map,h1];rfl
   obtain⟨x,pp,hx,_,_⟩:=P.ss_get hlp;have:=w2 p o x hlp hx;rw[<-hL,h1,wac]at this;cases this;exact⟨h8,.inr ⟨o,x,vv,fr2,_,hlp,hx,hcl,h3,h7,rfl⟩⟩
 refine gE.of_steps (.one hst) ?_;have hlin:Region.linearise .any ops t=Region.linearise.go .any ops ops.size t (Array.replicate ops.size false) []:=rfl;rw[hlin];have hset:iF (Array.replicate ops.size false)=fun _=>false:=by
  funext i;unfold iF;simp[Array.getD_eq_getD_getElem?,Array.getElem?_replicate];split<;>rfl
 have hnum:pT (fun _=>false) ops.size=0:=by
  generalize ops.size=m;induction m with
  |zero=>rfl
  |succ m ih=>unfold pT;rw[ih];rfl
 have hcx:fr.cx.rc=(st 0).fr.cx.rc:=by rw[h0];rfl
 rw[hcx];refine Lp hcall P R (by rw[h0];rfl) hfin.1 (by rw[h0];rfl) (by rw[h0,<-hlen];exact b4) hmap hfin.2 ops.size t _ (by simp) ?_ ?_ ?_ (j:=0) (g:=g) (U:=U1) ?_
 ·rw[hset];intro i o _ hi;cases hi
 ·intro i _ _;rw[hset]
 ·rw[hset,hnum];omega
 ·rw[hset];refine⟨Nat.zero_le _,?_,by rw[h0];exact b1,?_,.refl g,by rw[h0];exact b3,.refl _,b2,fun i ao z hi hz _=>b5 i ao z hi hz⟩
  ·unfold na;exact rq P fun i ao _ _=>by simp
  ·have htm:∀m,jM (fh l) v (st 0).fr.tm (fun _=>false) m=fr.tm:=by
    intro m;induction m with
    |zero=>rw[h0];rfl
    |succ m ih=>rw[eR,wad (by simp)];exact ih
   rw[htm,h0];exact f
end
theorem Lg {C:Cx}{E:Env}(hE:oK C E)(n:Nat):bM C (evCall E n):=IU hE (fun _ h=>zM h) n
