/- SolverFinals: substitution, by the reference (no condition). -/
import Derived.Test.YtnacljdablhbgaaGreatGb
namespace Go.Proofs.YtnacljdablhbgaaGreat
open Go.AG
mutual
def gA (vs:List T):T->Int->T
 |.mk k i nm ls ks,d=>if k=0 then (if d<=i then (match vs[(i-d).toNat]? with|some x=>eh d x 0|none=>.mk 0 (i-vs.length) (bs []) [] []) else .mk k i nm ls ks) else .mk k i nm ls (dr vs k 0 ks d)
def dr (vs:List T)(k:Int):Nat->List T->Int->List T
 |_,[],_=>[]
 |j,t::l,d=>gA vs t (d+aV k j)::dr vs k (j+1) l d
end
theorem sV (vs:List T)(k:Int):∀(ks:List T) (j:Nat) (d:Int) (a:Nat),(dr vs k j ks d)[a]?=(ks[a]?).map fun t=>gA vs t (d+aV k ((j+a:Nat):Int))
 |[],_,_,_=>by simp[dr]
 |t::l,j,d,0=>by simp[dr]
 |t::l,j,d,a+1=>by
  have ih:=sV vs k l (j+1) d a;simp only[dr,List.getElem?_cons_succ,ih];rw[show j+1+a=j+(a+1) by omega]
theorem nC (vs:List T)(k:Int):∀(ks:List T) (j:Nat) (d:Int),(dr vs k j ks d).length=ks.length
 |[],_,_=>rfl
 |t::l,j,d=>by simp[dr,nC vs k l (j+1) d]
theorem pY (vs:List T)(k:Int)(ks:List T)(d:Int)(a:Nat)(t:T)(h:ks[a]?=some t):(dr vs k 0 ks d).take (a+1)=(dr vs k 0 ks d).take a++[gA vs t (d+aV k a)]:=by
 rw[List.take_add_one,sV,h,wac];rfl
theorem JO (a b:List T):aW (a++b)=aW a+aW b:=by
 induction a with
 |nil=>simp[aW]
 |cons x l ih=>simp only[List.cons_append,aW,ih];omega
mutual
theorem ln (b:Int){M:Int}: ∀t (d:Int),Vb M t->size (eh b t d)=size t
 |.mk k i nm ls ks,d,hv=>by
  unfold eh;split
  ·rename_i hk;obtain⟨rfl,_⟩:=hv.1 hk;split<;>simp[size,aW]
  ·have:=mZ b k 0 ks d hv.2;simp only[size];omega
theorem mZ (b k:Int){M:Int}: ∀(j:Nat) ks (d:Int),Vbs M ks->aW (eJ b k j ks d)=aW ks
 |_,[],_,_=>rfl
 |j,t::l,d,hv=>by
  have:=ln b t (d+aV k j) hv.1;have:=mZ b k (j+1) l d hv.2;simp only[eJ,aW];omega
end
structure HKx (w:Nat)(h h':AH):Prop where
 z:h.z<=h'.z
 kw:∀k,k<h.z->k≠w->h'.get k=h.get k
theorem HKx.trans {w:Nat}{a b c:AH}(x:HKx w a b)(y:HKx w b c):HKx w a c:=⟨Nat.le_trans x.z y.z,fun k hk q=>(y.kw k (Nat.lt_of_lt_of_le hk x.z) q).trans (x.kw k hk q)⟩
theorem HK.x {h h':AH}(x:HK h h')(w:Nat):HKx w h h':=⟨x.z,fun k hk _=>x.kw k hk⟩
theorem HKx.set {w:Nat}{h0 h:AH}(x:HKx w h0 h){j:Nat}(o:eI)(hj:h0.z<=j∨j=w):HKx w h0 (h.set j o):=⟨by rw[co];exact x.z,fun k hk q=>by rw[an (by omega)];exact x.kw k hk q⟩
structure wj (t:T)(w:Nat)(n:Int)(h0 h:AH)(V:AV)(out:List T):Prop where
 b6:h.get h0.z=some (.box (au t))
 b10:h.get (h0.z+1)=some (.box [wt 0,wt 0,.str (bs []),.nl,.nl])
 own:Own (h0.z+2) 5 true h V (out.map enc)
 kw:HKx w h0 h
 nx:h0.z+2<=h.z
 wl:w<h0.z
 bw:h.get w=some (.box [wt 0,wt n])
theorem wj.up {t:T}{w:Nat}{n n':Int}{h0 h h':AH}{V:AV}{out:List T}(J:wj t w n h0 h V out)(k:HKx w h h')(hw:h'.get w=some (.box [wt 0,wt n'])):wj t w n' h0 h' V out:=by
 have:=J.nx;have wl:=J.wl;exact⟨(k.kw _ (by omega) (by omega)).trans J.b6,(k.kw _ (by omega) (by omega)).trans J.b10,bp J.own k.z (fun a q1 q=>k.kw a q (by omega)),J.kw.trans k,Nat.le_trans J.nx k.z,wl,hw⟩
theorem wj.add {t:T}{w:Nat}{n:Int}{h0 h:AH}{V:AV}{out:List T}(J:wj t w n h0 h V out)(x:T)(hl:out.length<100000):
  ∃V' h',dO h 5 true [wt 0,wt 0,.str (bs []),.nl,.nl] 80 V (.clip [enc x])=some (V',h')/\wj t w n h0 h' V' (out++[x])/\AV.beq V' V'=true:=by
 have nx:=J.nx;have wl:=J.wl;obtain⟨V',h',e4,o4,n4,k4,_,_,_,k',g',hv,_⟩:=cV (bytes:=80) (x:=enc x) (z:=[wt 0,wt 0,.str (bs []),.nl,.nl]) J.own J.nx rfl (aZ x) (fu x) (gh x) (by rw[waa];omega) (by decide);refine⟨V',h',e4,⟨(k4 _ (by omega)).trans J.b6,(k4 _ (by omega)).trans J.b10,by rw[List.map_append];exact o4,⟨Nat.le_trans J.kw.z n4,fun k hk q=>(k4 k (by omega)).trans (J.kw.kw k hk q)⟩,by omega,wl,(k4 w (by omega)).trans J.bw⟩,?_⟩;rw[hv];exact jF _ _ _ _ _
theorem wj.init (t:T)(w:Nat)(n:Int)(h:AH)(wl:w<h.z)(bw:h.get w=some (.box [wt 0,wt n])):wj t w n h ((h.new (.box (au t))).new (.box [wt 0,wt 0,.str (bs []),.nl,.nl])) .nl []:=by
 have J:=kS.init t h;exact⟨J.b6,J.b10,J.own,J.kw.x w,J.nx,wl,(J.kw.kw w wl).trans bw⟩
theorem wj.beq {t:T}{w:Nat}{n:Int}{h0 h:AH}{V:AV}{out:List T}(J:wj t w n h0 h V out):AV.beq V V=true/\V.cells=[V]/\V.lies=true:=by
 obtain⟨_,⟨rfl,_⟩|⟨k,g,rfl,_⟩⟩:=J.own
 ·exact⟨rfl,rfl,rfl⟩
 ·exact⟨jF _ _ _ _ _,rfl,rfl⟩
def Cnt (n n':Int)(s:Nat)(good:Prop):Prop:=(n+s<=4096/\good/\n'=n+s)∨(4096<n+s/\4096<n'/\n'<=60000)
theorem Cnt.good {n n':Int}{s:Nat}{g:Prop}(h1:n+s<=4096)(hg:g)(h2:n'=n+s):Cnt n n' s g:=Or.inl ⟨h1,hg,h2⟩
theorem Cnt.bad {n n':Int}{s:Nat}{g:Prop}(h1:4096<n+s)(h2:4096<n')(h3:n'<=60000):Cnt n n' s g:=Or.inr ⟨h1,h2,h3⟩
theorem Cnt.of {n n':Int}{s:Nat}{g:Prop}(hg:g)(h2:n'=n+s)(h3:n'<=60000):Cnt n n' s g:=by
 by_cases q:n+s<=4096
 ·exact Cnt.good q hg h2
 ·exact Cnt.bad (by omega) (by omega) h3
theorem Cnt.then_ {n n' n'':Int}{s s':Nat}{g g' g'':Prop}(a:Cnt n n' s g)(b:Cnt n' n'' s' g')(_h0:0<=n)(hg:g->g'->g''):Cnt n n'' (s+s') g'':=by
 rcases a with⟨a1,a2,a3⟩|⟨a1,a2,a3⟩<;>rcases b with⟨b1,b2,b3⟩|⟨b1,b2,b3⟩
 ·exact Cnt.good (by omega) (hg a2 b2) (by omega)
 ·exact Cnt.bad (by omega) b2 b3
 ·omega
 ·exact Cnt.bad (by omega) b2 b3
theorem Cnt.imp {n n':Int}{s s':Nat}{g g':Prop}(a:Cnt n n' s g)(hs:s=s')(hg:g->g'):Cnt n n' s' g':=by
 subst hs;rcases a with⟨a1,a2,a3⟩|⟨a1,a2,a3⟩
 ·exact Cnt.good a1 (hg a2) a3
 ·exact Cnt.bad a1 a2 a3
theorem Cnt.le {n n':Int}{s:Nat}{g:Prop}(a:Cnt n n' s g)(_h0:n<=60000):n'<=60000:=by
 rcases a with⟨a1,a2,a3⟩|⟨a1,a2,a3⟩<;>omega
structure KD (K:aG):Prop where
 r28:∀t,size t<=1000000000000->∀h,K (.fn 28 [] []) [enc t] .no h=some (.ret (wt (size t)),.no,h)
theorem KD.c28 {K:aG}(kd:KD K)(m:Nat)(t:T)(hs:size t<=1000000000000)(h:AH):cS K m (.fn 28 [] []) [enc t] .no h=some (.ret (wt (size t)),.no,h):=
 dP (ae (aP _ _) (aB _)) (kd.r28 t hs h) rfl m
def I279 (t:T)(vs:List T)(d:Int)(w:Nat)(n0:Int)(h0:AH)(j:Nat)(fr:AF)(h:AH):Prop:=∃tm m V out n,m+j=t.K.length/\fr=⟨tm,⟨[],.no,none,279⟩⟩/\nth tm 0=.ptr w 0 0/\nth tm 2=.ls (vs.map enc)/\nth tm 3=wt d/\nth tm 5=.ptr h0.z 0 0/\nth tm 8=.ptr (h0.z+1) 0 0/\nth tm 10=V/\nth tm 11=wt (m:Int)/\
 wj t w n h0 h V out/\out.length=m/\0<=n/\Cnt n0 n (1+aW ((dr vs t.kind 0 t.K d).take m)) (out=(dr vs t.kind 0 t.K d).take m)
theorem c279 {K:aG}(hK:bW K)(kc:KC K)(kd:KD K)(w:Nat)(vs:List T)(hvs:∀x∈vs,size x<=10000/\Vb 30000 x)(hvl:vs.length<=1000)(G:Nat)(hG:10002<=G):∀m t (d n:Int) h,size t+G<=m->size t<=30000->Vb 30000 t->0<=d->d+size t<=30000->h.get w=some (.box [wt 0,wt n])->w<h.z->0<=n->n<=60000->
  ∃v h',cS K m (.fn 279 [] []) [.ptr w 0 0,enc t,.ls (vs.map enc),wt d] .no h=some (.ret v,.no,h')/\∃r n',v=enc r/\HKx w h h'/\h'.get w=some (.box [wt 0,wt n'])/\0<=n'/\Cnt n n' (size (gA vs t d)) (r=gA vs t d):=by
 intro m;induction m with
 |zero=>intro t d n h hm;omega
 |succ m ih=>
  intro t d n h hm h50 hv hd0 hd1 hw wl hn0 hn1;refine cm hK cf279 (ae (dh _ _ _ _) (ae (aP _ _) (ae (iL _ _) (ae (ba _ _ _) (aB _))))) ?_;simp only[wab];have J0:=wj.init t w n h wl hw;rw[aA t];unfold b279;simp only[go_sem,simprocAttr];unfold au at J0;revert J0;generalize ((h.new (.box [wt t.kind,wt t.i,.str t.name,.ls (t.L.map aK),.ls (t.K.map enc)])).new (.box [wt 0,wt 0,.str (bs []),.nl,.nl]))=H;intro J0;have b6:=J0.b6;have b10:=J0.b10;have bw:=J0.bw;unfold au at b6;have nx:=J0.nx;obtain⟨k,i,nm,ls,ks⟩:=t;have hsz:size (.mk k i nm ls ks)=1+aW ks:=by simp[size]
  have hlen:=bE ks;rw[hsz]at hm hd1 h50;obtain⟨hv0,hvk⟩:=hv;simp only[T.kind,T.i,T.name,T.L,T.K]at b6;have n1:¬h.z=h.z+1:=by omega
  simp only[go_sem,simprocAttr,ci,PH,bw];refine bj (fun hbig=>?_) (fun hsm=>?_)
  ·simp only[go_sem,simprocAttr,b6,b10];refine⟨rfl,rfl,.inr rfl,[.agg [_,_,_,_,_]],by simp only[go_sem,simprocAttr,Ut];rfl,_,_,cC (by intro l e;cases e) (iG (lB (eC ls) (eL ks)) _),_,n,rfl,J0.kw.set _ (by omega),by rw[an (by omega)];exact bw,hn0,Cnt.bad (by omega) hbig hn1⟩
  have hw1:IntKind.wrap .i64 (n+1)=n+1:=br _ (by omega) (by omega);have cnt1:Cnt n (n+1) 1 True:=Cnt.of trivial (by omega) (by omega);have Jn:wj (.mk k i nm ls ks) w (n+1) h (H.set w (.box [wt 0,wt (n+1)])) .nl []:=J0.up ⟨by rw[co];exact Fv _,fun a _ q=>an q⟩ (aC _ _ _);have wne:¬h.z=w:=by omega
  have wne2:¬w=h.z:=by omega
  have wne3:¬h.z+1=w:=by omega
  by_cases hk:k=0
  ·obtain⟨rfl,hi0,hi1⟩:=hv0 hk;subst hk;have hw2:IntKind.wrap .i64 (i-d)=i-d:=br _ (by omega) (by omega);by_cases hle:d<=i
   ·have hle':decide (d<=i)=true:=by simpa using hle
    obtain⟨a,ha⟩:∃a:Nat,i-d=(a:Int):=⟨(i-d).toNat,by omega⟩
    rw[ha]at hw2;by_cases hin:a<vs.length
    ·have hin':decide ((a:Int)<(vs.length:Int))=true:=by simp;omega
     have hget:vs[a]?=some vs[a]:=wO hin;obtain⟨hx1,hx2⟩:=hvs _ (List.getElem_mem hin);have est:gA vs (.mk 0 i nm ls []) d=eh d vs[a] 0:=by simp[gA,hle,ha,hget]
     have hia:=fun h=>aN aZ hget .i64 h
     have c28:=fun h=>kd.c28 m vs[a] (by omega) h
     have hw3:IntKind.wrap .i64 (n+(size vs[a]:Int))=n+(size vs[a]:Int):=br _ (by omega) (by omega);obtain⟨x,hx⟩:∃x,x=vs[a]:=⟨_,rfl⟩
     rw[<-hx]at hx1 hx2 est hia c28 hw3;clear hx;obtain⟨H1,hH1⟩:∃H1:AH,H1=(H.new (.box [wt 0,wt 0,.str (bs []),.nl,.nl])).set H.z (.box (au x)):=⟨_,rfl⟩
     have k1:HK H H1:=by subst hH1;exact(HK.new _ _).set _ (Fv _)
     have x1:H1.get H.z=some (.box (au x)):=by subst hH1;exact aC _ _ _
     have bw1:=(k1.kw w (by omega)).trans bw;have hst:∀h0:AH,(cR (.ptr H.z 0 0) (H.new (.box [wt 0,wt 0,.str (bs []),.nl,.nl])) 5 (enc x))=some H1:=fun _=>by subst hH1;exact aQ (aE _ _) x
     have hst:=hst h;obtain⟨H2,hH2⟩:∃H2:AH,H2=H1.set w (.box [wt 0,wt (n+size x)]):=⟨_,rfl⟩
     have x2:H2.get H.z=some (.box (au x)):=by subst hH2;rw[an (by omega)];exact x1
     have J2:wj (.mk 0 i nm ls []) w (n+size x) h H2 .nl []:=by
      subst hH2;exact J0.up ((k1.x w).set _ (.inr rfl)) (aC _ _ _)
     obtain⟨v,H3,e3,rfl,k3⟩:=c118 hK kc w d hd0 (by omega) m x 0 H2 (by omega) (by omega) hx2 (Int.le_refl _) (by omega);have J3:=J2.up (k3.x w) ((k3.kw w (by have:=J2.nx;omega)).trans J2.bw);have b10':=J3.b10;have hs4:=aQ b10' (eh d x 0);have hsx:=ln d x 0 hx2;unfold au at x1 x2;have hld:∀h:AH,h.get H.z=some (.box [wt x.kind,wt x.i,.str x.name,.ls (x.L.map aK),.ls (x.K.map enc)])->dH (.ptr H.z 0 0) h true 5=some (enc x):=by
      intro h g;rw[aA,jz,g];rfl
     have l1:=hld H1 x1;have l2:=hld H2 x2;have c28':=c28 H1;simp only[go_sem,simprocAttr,wC,b6,hle',hw2,ha,hin',hia,hst,bw1,l1,c28',hw3];rw[<-hH2];rw[aA x]at e3;simp only[go_sem,simprocAttr,x2,e3,hs4];refine⟨rfl,rfl,.inr rfl,[.agg (au (eh d x 0))],by simp only[go_sem,simprocAttr,Ut,au],_,_,cC (by intro l e;cases e) (by rw[<-cN];exact aP _ _),_,n+size x,rfl,J3.kw.set _ (by omega),by rw[an (by have:=J3.wl;omega)];exact J3.bw,by omega,?_⟩;rw[est];exact Cnt.of rfl (by rw[hsx]) (by omega)
    ·have hin':decide ((a:Int)<(vs.length:Int))=false:=by simp;omega
     have hget:vs[a]?=none:=List.getElem?_eq_none (by omega);have est:gA vs (.mk 0 i nm ls []) d=.mk 0 (i-vs.length) (bs []) [] []:=by simp[gA,hle,ha,hget]
     have hw3:IntKind.wrap .i64 (i-(vs.length:Int))=i-vs.length:=br _ (by omega) (by omega);obtain⟨m,rfl⟩:∃m',m=m'+1:=⟨m-1,by omega⟩
     simp only[go_sem,simprocAttr,wC,b6,hle',hw2,ha,hin',Ad,bw,hw1];generalize H.set w (.box [wt 0,wt (n+1)])=H2 at Jn ⊢;have c6:=Jn.b6;unfold au at c6;simp only[T.kind,T.i,T.name,T.L,T.K]at c6;obtain⟨v,H3,e3,rfl,k3⟩:=c131 hK m w (i-vs.length) H2 (by omega);have J3:=Jn.up (k3.x w) ((k3.kw w (by have:=Jn.nx;omega)).trans Jn.bw);have hs4:=aQ J3.b10 (.mk 0 (i-vs.length) (bs []) [] []);simp only[go_sem,simprocAttr,Ae,c6,hle',hw3,e3,hs4];refine⟨rfl,rfl,.inr rfl,[.agg (au (.mk 0 (i-vs.length) (bs []) [] []))],by simp only[go_sem,simprocAttr,Ut,au],_,_,cC (by intro l e;cases e) (by rw[<-cN];exact aP _ _),_,n+1,rfl,J3.kw.set _ (by omega),by rw[an (by have:=J3.wl;omega)];exact J3.bw,by omega,?_⟩;rw[est];exact cnt1.imp rfl (fun _=>rfl)
   ·have hle':decide (d<=i)=false:=by simpa using hle
    have est:gA vs (.mk 0 i nm ls []) d=.mk 0 i nm ls []:=by simp[gA,hle]
    simp only[go_sem,simprocAttr,wC,b6,hle',Ad,bw,hw1];generalize H.set w (.box [wt 0,wt (n+1)])=H2 at Jn ⊢;have c6:=Jn.b6;have c10:=Jn.b10;unfold au at c6;simp only[T.kind,T.i,T.name,T.L,T.K]at c6;simp only[go_sem,simprocAttr,Ae,c6,hle',c10];refine⟨rfl,rfl,.inr rfl,[.agg [_,_,_,_,_]],by simp only[go_sem,simprocAttr,Ut];rfl,_,_,cC (by intro l e;cases e) (iG (lB (eC ls) (eL [])) _),_,n+1,rfl,Jn.kw.set _ (by omega),by rw[an (by have:=Jn.wl;omega)];exact Jn.bw,by omega,?_⟩;rw[est];exact cnt1.imp rfl (fun _=>rfl)
  ·have hk':decide (k=0)=false:=by simpa using hk
   have est:gA vs (.mk k i nm ls ks) d=.mk k i nm ls (dr vs k 0 ks d):=by simp[gA,hk]
   simp only[go_sem,simprocAttr,wC,b6,hk',Ad,bw,hw1];generalize H.set w (.box [wt 0,wt (n+1)])=H2 at Jn ⊢;have c6:=Jn.b6;unfold au at c6;simp only[T.kind,T.i,T.name,T.L,T.K]at c6;simp only[go_sem,simprocAttr,Ae,c6,hk',PI,PJ];refine bD (I279 (.mk k i nm ls ks) vs d w n h) ks.length (by omega) ⟨_,0,.nl,[],n+1,wac _,rfl,by simp only[go_sem,simprocAttr],by simp only[go_sem,simprocAttr],by simp only[go_sem,simprocAttr],by simp only[go_sem,simprocAttr],by simp only[go_sem,simprocAttr],by simp only[go_sem,simprocAttr],by simp only[go_sem,simprocAttr],Jn,rfl,by omega,cnt1.imp (by simp[aW]) (fun _=>by simp)⟩ ?_;clear b6 b10 nx J0 H bw c6 Jn H2 wne wne2 wne3 hw1 cnt1 hsm;rintro j fr H ⟨tm,p,V,out,np,hp,rfl,t0,t2,t3,t5,t8,t10,t11,J,hol,hnp,hcnt⟩;simp only[T.K,T.kind]at hp hcnt;have b6:=J.b6;have b10:=J.b10;unfold au at b6;simp only[T.kind,T.i,T.name,T.L,T.K]at b6;have nx:=J.nx;have hnp2:=hcnt.le hn1;unfold TQ;simp only[go_sem,simprocAttr,t5,t11,b6];refine bj (fun hlt=>?_) (fun hge=>?_)
   ·have hlt:p<ks.length:=by omega
    have hget:ks[p]?=some ks[p]:=wO hlt;have ha:=fun h=>aN aZ hget .i64 h
    have hbb:=mG k p;have hss:=ck hget;have hw:=aM p (by omega);have hw1:IntKind.wrap .i64 (d+aV k p)=d+aV k p:=br _ (by omega) (by omega);have c72:=fun h=>kc.c72 m k p h
    obtain⟨v,h2,e2,r,n2,rfl,k2,bw2,h20,hc2⟩:=ih ks[p] (d+aV k p) np H (by omega) (by omega) (ve hvk hget) (by omega) (by omega) J.bw (by have:=J.wl;omega) hnp hnp2;have J2:=J.up k2 bw2;obtain⟨V',h3,e3,J3,hbe⟩:=J2.add r (by omega);have hb0':=J.beq.1;have hc3:=hcnt.then_ hc2 hn0 (g'':=out++[r]=(dr vs k 0 ks d).take (p+1)) (fun q1 q2=>by rw[pY vs k ks d p _ hget,<-q1,q2]);have hsz2:1+aW ((dr vs k 0 ks d).take p)+size (gA vs ks[p] (d+aV k p))=1+aW ((dr vs k 0 ks d).take (p+1)):=by
     rw[pY vs k ks d p _ hget,JO];simp[aW];omega
    simp only[go_sem,simprocAttr,PN,t0,t2,t3,t5,t10,t11,b6,ha,c72,hw1,e2,rO,e3,hw];exact⟨j-1,by omega,_,p+1,V',out++[r],n2,by simp only[T.K];omega,rfl,by simp only[go_sem,simprocAttr, *],by simp only[go_sem,simprocAttr, *],by simp only[go_sem,simprocAttr, *],by simp only[go_sem,simprocAttr, *],by simp only[go_sem,simprocAttr, *],by simp only[go_sem,simprocAttr, *],by simp only[go_sem,simprocAttr, *],J3,by simp[hol],h20,hc3.imp hsz2 (fun q=>q)⟩
   ·have:p=ks.length:=by omega
    subst this;rw[List.take_of_length_le (by rw[nC];exact Fv _)]at hcnt;have hVc:=J.beq;have n2:¬h.z+1=h.z:=by omega
    simp only[go_sem,simprocAttr,PK,PM,t5,t8,t10,b6,b10,hVc.2.1,hVc.2.2,n2];have wl':=J.wl;have o2:=bp (h':=(H.set h.z (.box [wt k,wt i,.str nm,.ls (ls.map aK),V])).set (h.z+1) (.box [wt k,wt i,.str nm,.ls (ls.map aK),V])) J.own (by simp only[co];exact Fv _) (fun a q _=>by rw[an (by omega),an (by omega)]);obtain⟨H3,e3,n3,k3⟩:=Az k i nm ls o2;refine⟨rfl,rfl,.inr rfl,[.agg [_,_,_,_,_]],by simp only[go_sem,simprocAttr,Ut,t8],_,_,cC (by intro l e;cases e) e3,_,np,rfl,⟨?_,?_⟩,?_,hnp,?_⟩
    ·rw[n3];simp only[co];exact J.kw.z
    ·intro a ha hne;rw[k3 a (by omega),an (by omega),an (by omega)];exact J.kw.kw a ha hne
    ·rw[k3 w (by omega),an (by omega),an (by omega)];exact J.bw
    ·rw[est];exact hcnt.imp (by simp[size]) (fun q=>by rw[q])
def tZ:T:=.mk 0 0 (bs []) [] []
def gu (t:T)(vs:List T):T×Int:=if 4096<size (gA vs t 0) then (tZ,5) else if 200<io (gA vs t 0) then (tZ,7) else (gA vs t 0,0)
structure KE (K:aG):Prop where
 r29:∀t,size t<=1000000000000->∀h,K (.fn 29 [] []) [enc t] .no h=some (.ret (wt (io t)),.no,h)
theorem KE.c29 {K:aG}(ke:KE K)(m:Nat)(t:T)(hs:size t<=1000000000000)(h:AH):cS K m (.fn 29 [] []) [enc t] .no h=some (.ret (wt (io t)),.no,h):=
 dP (ae (aP _ _) (aB _)) (ke.r29 t hs h) rfl m
theorem min_z:vY true [wt 0,wt 65536]=some (wt 0):=(rfl)
theorem pU (h:AH):eT (.agg [wt 0,wt 0,.str (bs []),.nl,.nl]) h=(enc tZ,h):=iG (lB (ls:=[]) (ks:=[]) rfl rfl) h
theorem c244 {K:aG}(hK:bW K)(kc:KC K)(kd:KD K)(ke:KE K)(t:T)(vs:List T)(hvs:∀x∈vs,size x<=10000/\Vb 30000 x)(hvl:vs.length<=1000)(m:Nat)(hm:size t+10002<=m)(h50:size t<=20000)(hv:Vb 30000 t)(h:AH):
  ∃v h',cS K (m+1) (.fn 244 [] []) [enc t,.ls (vs.map enc),wt 0] .no h=some (.ret v,.no,h')/\v=.tup [enc (gu t vs).1,wt (gu t vs).2]/\HK h h':=by
 refine cm hK cf244 (ae (aP _ _) (ae (iL _ _) (ae (ba _ _ _) (aB _)))) ?_;simp only[wab];have J0:=kS.init t h;rw[aA t];unfold b244;unfold au at J0;simp only[go_sem,simprocAttr];revert J0;generalize ((h.new (.box [wt t.kind,wt t.i,.str t.name,.ls (t.L.map aK),.ls (t.K.map enc)])).new (.box [wt 0,wt 0,.str (bs []),.nl,.nl]))=H;intro J0;have b6:=J0.b6;have b10:=J0.b10;unfold au at b6;have nx:=J0.nx;obtain⟨H1,hH1⟩:∃H1:AH,H1=H.new (.box [wt 0,wt 0]):=⟨_,rfl⟩
 have k1:HK H H1:=by subst hH1;exact HK.new _ _
 have w1:H1.get H.z=some (.box [wt 0,wt 0]):=by subst hH1;exact aE _ _
 have n1:H1.z=H.z+1:=by subst hH1;exact ci _ _
 have b6':=(k1.kw _ (by omega)).trans b6;obtain⟨v,H2,e2,r,n2,rfl,k2,bw2,h20,hc⟩:=c279 hK kc kd H.z vs hvs hvl 10002 (Fv _) m t 0 0 H1 hm (by omega) hv (Int.le_refl _) (by omega) w1 (by omega) (Int.le_refl _) (by omega);rw[aA t]at e2;have hst:=fun z=>aQ (h:=H2.new (.box [wt 0,wt 0,.str (bs []),.nl,.nl])) (k:=H2.z) (aE _ _) z
 obtain⟨H3,hH3⟩:∃H3:AH,H3=(H2.new (.box [wt 0,wt 0,.str (bs []),.nl,.nl])).set H2.z (.box (au r)):=⟨_,rfl⟩
 have k3:HK H2 H3:=by subst hH3;exact(HK.new _ _).set _ (Fv _)
 have x3:H3.get H2.z=some (.box (au r)):=by subst hH3;exact aC _ _ _
 have nn2:=k2.z;have bw3:=(k3.kw H.z (by omega)).trans bw2;have b10':=(k3.kw (h.z+1) (by omega)).trans ((k2.kw (h.z+1) (by omega) (by omega)).trans ((k1.kw _ (by omega)).trans b10));have kall:HK h H3:=⟨by have:=k3.z;omega,fun a ha=>(k3.kw a (by omega)).trans ((k2.kw a (by omega) (by omega)).trans ((k1.kw a (by omega)).trans (J0.kw.kw a ha)))⟩;have hst:=hst r;rw[<-hH3]at hst;clear hH3;simp only[go_sem,simprocAttr,Qf,ci,Qg];rw[<-hH1];simp only[go_sem,simprocAttr,Qh,b6',WW,min_z,e2,hst,Qi,bw3];refine bj (fun hbig=>?_) (fun hsm=>?_)
 ·simp only[go_sem,simprocAttr,b10'];refine⟨rfl,rfl,.inr rfl,[.agg [_,_,_,_,_],wt 5],by simp only[go_sem,simprocAttr,acq],_,_,bG (ae (pU _) (ae (ba _ _ _) (aB _))),?_,kall.set _ (by omega)⟩;have:4096<size (gA vs t 0):=by rcases hc with⟨q1,q2,q3⟩|⟨q1,q2,q3⟩<;>omega
  simp[gu,this]
 ·have hgood:(gA vs t 0)=r/\size (gA vs t 0)<=4096:=by
   rcases hc with⟨q1,q2,q3⟩|⟨q1,q2,q3⟩
   ·exact⟨q2.symm,by omega⟩
   ·omega
  obtain⟨hr,hs⟩:=hgood;have c29:=ke.c29 m r (by rw[<-hr];omega) H3;unfold au at x3;have c29':=c29;rw[aA r]at c29';simp only[go_sem,simprocAttr,Qj,bw3,Qk,x3,c29'];refine bj (fun hbig=>?_) (fun hsm2=>?_)
  ·simp only[go_sem,simprocAttr,b10'];refine⟨rfl,rfl,.inr rfl,[.agg [_,_,_,_,_],wt 7],by simp only[go_sem,simprocAttr,acq],_,_,bG (ae (pU _) (ae (ba _ _ _) (aB _))),?_,kall.set _ (by omega)⟩;have q1:¬ 4096<size (gA vs t 0):=by omega
   have q2:200<io (gA vs t 0):=by rw[hr];omega
   simp[gu,q1,q2]
  ·simp only[go_sem,simprocAttr,Ql,x3,b10'];refine⟨rfl,rfl,.inr rfl,[.agg [_,_,_,_,_],wt 0],by simp only[go_sem,simprocAttr,acq];rfl,_,_,bG (ae (iG (ir (eC _) (eL _)) _) (ae (ba _ _ _) (aB _))),?_,kall.set _ (by omega)⟩;have q1:¬ 4096<size (gA vs t 0):=by omega
   have q2:¬ 200<io (gA vs t 0):=by rw[hr];omega
   rw[<-hr];simp[gu,q1,q2]
theorem c203 {K:aG}(hK:bW K)(kc:KC K)(kd:KD K)(ke:KE K)(t:T)(vs:List T)(hvs:∀x∈vs,size x<=10000/\Vb 30000 x)(hvl:vs.length<=1000)(m:Nat)(hm:size t+10002<=m)(h50:size t<=20000)(hv:Vb 30000 t)(h:AH):
  ∃v h',cS K (m+2) (.fn 203 [] []) [enc t,.ls (vs.map enc)] .no h=some (.ret v,.no,h')/\v=.tup [enc (gu t vs).1,wt (gu t vs).2]/\HK h h':=by
 refine cm hK cf203 (ae (aP _ _) (ae (iL _ _) (aB _))) ?_;simp only[wab];have J0:=kS.init t h;rw[aA t];unfold b203;unfold au at J0;simp only[go_sem,simprocAttr];revert J0;generalize ((h.new (.box [wt t.kind,wt t.i,.str t.name,.ls (t.L.map aK),.ls (t.K.map enc)])).new (.box [wt 0,wt 0,.str (bs []),.nl,.nl]))=H;intro J0;have b6:=J0.b6;have b10:=J0.b10;unfold au at b6;have nx:=J0.nx;obtain⟨_,H2,e2,rfl,k2⟩:=c244 hK kc kd ke t vs hvs hvl m hm h50 hv H;rw[aA t]at e2;have b10':=(k2.kw _ (by omega)).trans b10;have hst:=aQ b10' (gu t vs).1;simp only[go_sem,simprocAttr,ci,QE,b6,e2,hst];refine⟨rfl,rfl,.inr rfl,[.agg (au (gu t vs).1),wt (gu t vs).2],by simp only[go_sem,simprocAttr,r203,au],_,_,bG (ae (by rw[<-cN];exact aP _ _) (ae (ba _ _ _) (aB _))),rfl,(J0.kw.trans k2).set _ (by omega)⟩
def Cn (h:AH)(w:Nat):Option Int->Prop
 |some f=>0<=f/\f<=40000/\h.get w=some (.box [wt 0,wt 0,wt f,wt 1000,.bool false])
 |none=>∃f,h.get w=some (.box [wt 0,wt 0,wt f,wt 1000,.bool true])
def lH (t:T):Prop:=2000<size t∨95<io t
open Classical in
noncomputable def jf (t:T):Option Int->Option Int
 |some f=>if lH t then none else some f
 |none=>none
open Classical in
noncomputable def eP (t:T)(e:Int):Option Int->Option Int
 |some f=>if e≠0∨40000<f+size t∨lH t then none else some (f+size t)
 |none=>none
theorem Cn.kw {h h':AH}{w:Nat}{c:Option Int}(x:Cn h w c)(e:h'.get w=h.get w):Cn h' w c:=by
 cases c with
 |some f=>exact⟨x.1,x.2.1,e.trans x.2.2⟩
 |none=>obtain⟨f,y⟩:=x;exact⟨f,e.trans y⟩
theorem c149 {K:aG}(hK:bW K)(kd:KD K)(ke:KE K)(m:Nat)(t:T)(hs:size t<=1000000000000)(w:Nat)(c:Option Int)(h:AH)(hc:Cn h w c)(hw:w<h.z):
  ∃v h',cS K (m+1) (.fn 149 [] []) [enc t,.ptr w 0 0] .no h=some (.ret v,.no,h')/\v=enc t/\HKx w h h'/\Cn h' w (jf t c):=by
 refine cm hK cf149 (ae (aP _ _) (ae (dh _ _ _ _) (aB _))) ?_;simp only[wab];have J0:=kS.init t h;have c28:=fun h=>kd.c28 m t hs h
 have c29:=fun h=>ke.c29 m t hs h
 rw[aA t]at c28 c29 ⊢;unfold b149;unfold au at J0;simp only[go_sem,simprocAttr];revert J0;generalize ((h.new (.box [wt t.kind,wt t.i,.str t.name,.ls (t.L.map aK),.ls (t.K.map enc)])).new (.box [wt 0,wt 0,.str (bs []),.nl,.nl]))=H;intro J0;have b6:=J0.b6;have b10:=J0.b10;unfold au at b6;have nx:=J0.nx;have hcH:=hc.kw (J0.kw.kw w hw);have fin:∀(tm:Tm) (H2:AH),nth tm 2=.ptr h.z 0 0->nth tm 4=.ptr (h.z+1) 0 0->H2.get h.z=some (.box [wt t.kind,wt t.i,.str t.name,.ls (t.L.map aK),.ls (t.K.map enc)])->H2.get (h.z+1)=some (.box [wt 0,wt 0,.str (bs []),.nl,.nl])->HKx w h H2->Cn H2 w (jf t c)->
   R (cS K m) 60000 [.code Gs] (IQ aeC fun v h2=>∃v' h3,gT v h2=(v',h3)/\v'=(.agg [wt t.kind,wt t.i,.str t.name,.ls (t.L.map aK),.ls (t.K.map enc)])/\HKx w h h3/\Cn h3 w (jf t c)) .normal ⟨tm,⟨[],.no,none,149⟩⟩ H2:=by
  intro tm H2 t2 t4 g6 g10 k2 hc2;simp only[go_sem,simprocAttr,Gs,t2,t4,g6,g10];exact⟨rfl,rfl,.inr rfl,[.agg [_,_,_,_,_]],by simp only[go_sem,simprocAttr,aeC,t4],_,_,cC (by intro l e;cases e) (iG (ir (eC _) (eL _)) _),aA t,k2.set _ (by omega),hc2.kw (an (by omega))⟩
 obtain⟨f,b,g,hov⟩:∃f b,H.get w=some (.box [wt 0,wt 0,wt f,wt 1000,.bool b])/\(lH t->∀H2:AH,H2.get w=some (.box [wt 0,wt 0,wt f,wt 1000,.bool true])->Cn H2 w (jf t c)):=by
  cases c with
  |some f=>exact⟨f,false,hcH.2.2,fun hb H2 q=>by rw[show jf t (some f)=none by simp[jf,hb]];exact⟨f,q⟩⟩
  |none=>obtain⟨f,g⟩:=hcH;exact⟨f,true,g,fun hb H2 q=>⟨f,q⟩⟩
 simp only[go_sem,simprocAttr,ci,RN,b6,c28];by_cases h1:2000<size t
 ·have h1':decide ((2000:Int)<(size t:Int))=true:=by simp;omega
  simp only[go_sem,simprocAttr,h1',g];refine fin _ _ (by simp only[go_sem,simprocAttr]) (by simp only[go_sem,simprocAttr]) (by rw[an (by omega)];exact b6) (by rw[an (by omega)];exact b10) ((J0.kw.x w).set _ (.inr rfl)) (hov (.inl h1) _ (aC _ _ _))
 ·have h1':decide ((2000:Int)<(size t:Int))=false:=by simp;omega
  simp only[go_sem,simprocAttr,h1',b6,c29];by_cases h2:95<io t
  ·have h2':decide ((95:Int)<(io t:Int))=true:=by simp;omega
   simp only[go_sem,simprocAttr,h2',g];refine fin _ _ (by simp only[go_sem,simprocAttr]) (by simp only[go_sem,simprocAttr]) (by rw[an (by omega)];exact b6) (by rw[an (by omega)];exact b10) ((J0.kw.x w).set _ (.inr rfl)) (hov (.inr h2) _ (aC _ _ _))
  ·have h2':decide ((95:Int)<(io t:Int))=false:=by simp;omega
   have hb:¬lH t:=by rintro(q|q)<;>omega
   simp only[go_sem,simprocAttr,h2'];refine fin _ _ (by simp only[go_sem,simprocAttr]) (by simp only[go_sem,simprocAttr]) b6 b10 (J0.kw.x w) ?_;cases c with
   |some f=>simpa [jf,hb] using hcH
   |none=>exact hcH
theorem Ff:mQ .mul .i64 2 1000=some (wt 2000):=(rfl)
theorem wK:mQ .mul .i64 40 1000=some (wt 40000):=(rfl)
theorem acD {K:aG}(hK:bW K)(kd:KD K)(ke:KE K)(m:Nat)(t:T)(e:Int)(hs:size t<=1000000000000)(w:Nat)(c:Option Int)(h:AH)(hc:Cn h w c)(hw:w<h.z):
  ∃v h',cS K (m+1) (.fn 102 [] []) [.ptr w 0 0,enc t,wt e] .no h=some (.ret v,.no,h')/\v=.tup []/\HKx w h h'/\Cn h' w (eP t e c):=by
 refine cm hK cf102 (ae (dh _ _ _ _) (ae (aP _ _) (ae (ba _ _ _) (aB _)))) ?_;simp only[wab];have c28:=fun h=>kd.c28 m t hs h
 have c29:=fun h=>ke.c29 m t hs h
 rw[aA t]at c28 c29 ⊢;unfold b102;simp only[go_sem,simprocAttr];obtain⟨H,hH⟩:∃H:AH,H=h.new (.box [wt t.kind,wt t.i,.str t.name,.ls (t.L.map aK),.ls (t.K.map enc)]):=⟨_,rfl⟩
 rw[<-hH];have k0:HK h H:=by subst hH;exact HK.new _ _
 have b4:H.get h.z=some (.box [wt t.kind,wt t.i,.str t.name,.ls (t.L.map aK),.ls (t.K.map enc)]):=by subst hH;exact aE _ _
 clear hH;have hcH:=hc.kw (k0.kw w hw);obtain⟨f,b,f',g,hw1,hov,hno⟩:∃f b f',H.get w=some (.box [wt 0,wt 0,wt f,wt 1000,.bool b])/\IntKind.wrap .i64 (f+(size t:Int))=f'/\
   ((e≠0∨40000<f'∨lH t)->∀H2:AH,H2.get w=some (.box [wt 0,wt 0,wt f',wt 1000,.bool true])->Cn H2 w (eP t e c))/\
   (¬(e≠0∨40000<f'∨lH t)->∀H2:AH,H2.get w=some (.box [wt 0,wt 0,wt f',wt 1000,.bool b])->Cn H2 w (eP t e c)):=by
  cases c with
  |some f=>
   obtain⟨q1,q2,q3⟩:=hcH;refine⟨f,false,f+size t,q3,br _ (by omega) (by omega),fun hb H2 q=>?_,fun hb H2 q=>?_⟩
   ·rw[show eP t e (some f)=none by simp only[eP,wae hb]];exact⟨_,q⟩
   ·rw[show eP t e (some f)=some (f+size t) by simp only[eP,wad hb]];exact⟨by omega,by omega,q⟩
  |none=>obtain⟨f,g⟩:=hcH;exact⟨f,true,_,g,rfl,fun hb H2 q=>⟨_,q⟩,fun hb H2 q=>⟨_,q⟩⟩
 simp only[go_sem,simprocAttr,Th,g,b4,c28,hw1];obtain⟨H1,hH1⟩:∃H1:AH,H1=H.set w (.box [wt 0,wt 0,wt f',wt 1000,.bool b]):=⟨_,rfl⟩
 rw[<-hH1];have k1:HKx w h H1:=by subst hH1;exact(k0.x w).set _ (.inr rfl)
 have g1:H1.get w=some (.box [wt 0,wt 0,wt f',wt 1000,.bool b]):=by subst hH1;exact aC _ _ _
 have b41:H1.get h.z=some (.box [wt t.kind,wt t.i,.str t.name,.ls (t.L.map aK),.ls (t.K.map enc)]):=by subst hH1;rw[an (by omega)];exact b4
 clear hH1;have finO:∀tm,(e≠0∨40000<f'∨lH t)->IQ r102 (fun v h2=>∃v' h3,gT v h2=(v',h3)/\v'=AV.tup []/\HKx w h h3/\Cn h3 w (eP t e c)) .normal ⟨tm,⟨[],.no,none,102⟩⟩ (H1.set w (.box [wt 0,wt 0,wt f',wt 1000,.bool true])):=fun tm hb=>
  ⟨rfl,rfl,.inl rfl,[],rfl,.tup [],_,bG (aB _),rfl,k1.set _ (.inr rfl),hov hb _ (aC _ _ _)⟩
 by_cases he:e=0
 ·have he':decide (e=0)=true:=by simpa using he
  by_cases h1:40000<f'
  ·have h1':decide (40000<f')=true:=by simpa using h1
   simp only[go_sem,simprocAttr,tF,he',Ff,wK,g1,h1'];exact finO _ (.inr (.inl h1))
  ·have h1':decide (40000<f')=false:=by simpa using h1
   by_cases h2:2000<size t
   ·have h2':decide ((2000:Int)<(size t:Int))=true:=by simp;omega
    simp only[go_sem,simprocAttr,tF,he',Ff,wK,g1,h1',b41,c28,h2'];exact finO _ (.inr (.inr (.inl h2)))
   ·have h2':decide ((2000:Int)<(size t:Int))=false:=by simp;omega
    by_cases h3:95<io t
    ·have h3':decide ((95:Int)<(io t:Int))=true:=by simp;omega
     simp only[go_sem,simprocAttr,tF,he',Ff,wK,g1,h1',b41,c28,h2',c29,h3'];exact finO _ (.inr (.inr (.inr h3)))
    ·have h3':decide ((95:Int)<(io t:Int))=false:=by simp;omega
     simp only[go_sem,simprocAttr,tF,he',Ff,wK,g1,h1',b41,c28,h2',c29,h3'];exact⟨rfl,rfl,.inl rfl,[],rfl,.tup [],_,bG (aB _),rfl,k1,hno (by rintro(q|q|q|q)<;>omega) _ g1⟩
 ·have he':decide (e=0)=false:=by simpa using he
  simp only[go_sem,simprocAttr,tF,he',g1];exact finO _ (.inl he)
theorem c150 {K:aG}(hK:bW K)(kc:KC K)(kd:KD K)(ke:KE K)(t:T)(vs:List T)(hvs:∀x∈vs,size x<=10000/\Vb 30000 x)(hvl:vs.length<=1000)(m:Nat)(hm:size t+10003<=m)(h50:size t<=20000)(hv:Vb 30000 t)(w:Nat)(c:Option Int)(h:AH)(hc:Cn h w c)(hw:w<h.z):
  ∃v h',cS K (m+2) (.fn 150 [] []) [.ptr w 0 0,enc t,.ls (vs.map enc)] .no h=some (.ret v,.no,h')/\v=enc (gu t vs).1/\HKx w h h'/\Cn h' w (eP (gu t vs).1 (gu t vs).2 c):=by
 obtain⟨m,rfl⟩:∃m',m=m'+1:=⟨m-1,by omega⟩
 refine cm hK cf150 (ae (dh _ _ _ _) (ae (aP _ _) (ae (iL _ _) (aB _)))) ?_;simp only[wab];have J0:=kS.init t h;rw[aA t];unfold b150;unfold au at J0;simp only[go_sem,simprocAttr];revert J0;generalize ((h.new (.box [wt t.kind,wt t.i,.str t.name,.ls (t.L.map aK),.ls (t.K.map enc)])).new (.box [wt 0,wt 0,.str (bs []),.nl,.nl]))=H;intro J0;have b6:=J0.b6;have b10:=J0.b10;unfold au at b6;have nx:=J0.nx;obtain⟨_,H2,e2,rfl,k2⟩:=c203 hK kc kd ke t vs hvs hvl m (by omega) h50 hv H;rw[aA t]at e2;have hst:=aQ (h:=H2.new (.box [wt 0,wt 0,.str (bs []),.nl,.nl])) (k:=H2.z) (aE _ _) (gu t vs).1;obtain⟨H3,hH3⟩:∃H3:AH,H3=(H2.new (.box [wt 0,wt 0,.str (bs []),.nl,.nl])).set H2.z (.box (au (gu t vs).1)):=⟨_,rfl⟩
 have k3:HK H2 H3:=by subst hH3;exact(HK.new _ _).set _ (Fv _)
 have x3:H3.get H2.z=some (.box (au (gu t vs).1)):=by subst hH3;exact aC _ _ _
 have n3:H3.z=H2.z+1:=by subst hH3;simp only[co,ci]
 rw[<-hH3]at hst;clear hH3;have kall:=(J0.kw.trans k2).trans k3;have nn2:=k2.z;have hsR:size (gu t vs).1<=1000000000000:=by
  unfold gu;split
  ·simp[tZ,size,aW]
  ·split
   ·simp[tZ,size,aW]
   ·show size (gA vs t 0)<=_;omega
 obtain⟨_,H4,e4,rfl,k4,hc4⟩:=acD hK kd ke (m+1) (gu t vs).1 (gu t vs).2 hsR w c H3 (hc.kw (kall.kw w hw)) (by omega);have x4:=(k4.kw H2.z (by omega) (by omega)).trans x3;have b10':=(k4.kw (h.z+1) (by omega) (by omega)).trans ((k3.kw _ (by omega)).trans ((k2.kw _ (by omega)).trans b10));rw[aA]at e4;have x3':=x3;unfold au at x3' x4;simp only[go_sem,simprocAttr,ci,RK,b6,e2,hst,RL,x3',e4,RM,x4,b10'];exact⟨rfl,rfl,.inr rfl,[.agg [_,_,_,_,_]],by simp only[go_sem,simprocAttr,r150],_,_,cC (by intro l e;cases e) (iG (ir (eC _) (eL _)) _),rfl,((kall.x w).trans k4).set _ (by omega),hc4.kw (an (by omega))⟩
